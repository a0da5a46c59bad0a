/- Walks: what functions of the program and of the document compute, part 4 of those on which LargeWhole rests. -/
import Derived.Test.YtpcaijopodhdgaaGreatDoorRtC

set_option linter.unusedVariables false
set_option linter.unusedSimpArgs false
namespace Go.Proofs.YtpcaijopodhdgaaGreatDoor
open Go.Sx
abbrev Eb05f6(x0:Nat)(x1:Value)(x2:Value)(x3:Value)(x4:Value)(x5:Option Addr)(x6:Nat)(x7:Nat)(x8:Int): Ent:=.pts x0 [.pointer none,x1,.pointer none,x2,x3,x4,.slice x5 x6 x7,.int .u64 x8] 74
abbrev E2d34c(x0:Nat)(x1:Value)(x2:Value)(x3:Value)(x4:Value)(x5:Option Addr)(x6:Nat)(x7:Nat)(x8:Nat): Ent:=.pts x0 [x1,.pointer none,.pointer none,x2,x3,x4,.slice x5 x6 x7,.int .u64 ((x8:Nat):Int)] 74
abbrev E72be0(x0:Nat)(x1:Value)(x2:Value)(x3:Value)(x4:Option Addr)(x5:Nat)(x6:Nat)(x7:Nat): Ent:=.pts x0 [.pointer none,.pointer none,.pointer none,x1,x2,x3,.slice x4 x5 x6,.int .u64 ((x7:Nat):Int)] 74
abbrev q87_0: List Nat:=[0,0,1,0,1,1,1]
abbrev q87_1: List Nat:=[0,1,0,1,0,1,1,1]
abbrev q87_2: List Nat:=[0,0,1,0,1,1,1,1]
abbrev q87_3: List Nat:=[1,0,1,0,1,1,1,1]
abbrev q87_4: List Nat:=[0,1,0,1,0,1,1,1,1]
abbrev q87_5: List Nat:=[1,1,0,1,0,1,1,1,1]
abbrev q87_6: List Nat:=[0,1,1,1,1,1,1]
abbrev q87_7: List Nat:=[1,1,1,1,1,1,1]
abbrev q87_8: List Nat:=[0,1,1,1,1,1,1,1,1]
abbrev q87_9: List Nat:=[1,1,1,1,1,1,1,1,1]
abbrev q87_10: List Nat:=[0,1,0,1,1,1,1,1,1,1,1,1]
abbrev q87_11: List Nat:=[1,1,1,1,1,1,1,1,1,1]
abbrev q87_12: List Nat:=[0,1,1,1,1,1,1,1,1,1,1]
abbrev q87_13: List Nat:=[1,1,1,1,1,1,1,1,1,1,1]
noncomputable def B28: Code:=(Tryz.f28.body).getD .skip
theorem w_beginP(c:Cfg)(x ba rb:Nat)(now:Int)(ka ma:Option Addr)(kc mc:Nat)(ps:List Nat)(many:List Int)(B:Ar)(i n_:Int)(pv sv rv:Value)(ra:Option Addr)(rc:Nat)(id_:Int)(ret:List Int)(y:Nat)(u1 u2:Value)(hi:0≤i∧i<4)(hps:ps.length=4):
  Ctr Tryz.prog 28 #[vP x,vI i,vI n_] [Ed2706 x c (vP ba) (vP rb) ka ps.length kc ma many.length mc now,.sl ka kc encP 0 1 ps 68,E80d79 (ps.getD i.toNat 0) (vP y) u1 u2 pv sv rv ra ret.length rc id_] (Ret (undef) [Ed2706 x c (vP ba) (vP rb) ka ps.length kc ma many.length mc now,.sl ka kc encP 0 1 ps 68,E80d79 (ps.getD i.toNat 0) (vP y) u1 u2 pv sv rv ra ret.length rc id_]):=by
 refine cB B28 140 Tryz.func28 ?_
 intro F
 refine gX [.e 0,.s 1,.j 1 i.toNat,.z [0,0,1] 1 [0,1,2,6,18]] (gQ x (gO (ka=ka∧ps.length=ps.length) ⟨rfl,(by first | rfl | omega | (simp; done) | (simp; omega))⟩ (gO ((0:Int)≤i∧i<((ps.length:Nat):Int)) (by omega) (gQ (slAt ka i.toNat 1) (gO (i.toNat<ps.length) oW (gS [.o [0,0,1] 1,.c [1,0,1],.c [1,1]] ?_))))))
 refine gC (some 19) [2] Tryz.call32 (k_idleP (ps.getD i.toNat 0) pv sv rv ra rc ret.length id_ y u1 u2) ?_
 exact gX [] (gJ [0,1,2] ⟨rfl,rfl⟩)
theorem w_beginS(c:Cfg)(x ba rb:Nat)(now:Int)(ka ma:Option Addr)(kc mc:Nat)(ps:List Nat)(many:List Int)(B:Ar)(i n_:Int)(pv sv rv:Value)(ra:Option Addr)(rc:Nat)(id_:Int)(ret:List Int)(y:Nat)(u2:Value)(hi:0≤i∧i<4)(hps:ps.length=4):
  Ctr Tryz.prog 28 #[vP x,vI i,vI n_] [Ed2706 x c (vP ba) (vP rb) ka ps.length kc ma many.length mc now,.sl ka kc encP 0 1 ps 68,Ec2fa4 (ps.getD i.toNat 0) (vP y) u2 pv sv rv ra ret.length rc id_] (Ret (undef) [Ed2706 x c (vP ba) (vP rb) ka ps.length kc ma many.length mc now,.sl ka kc encP 0 1 ps 68,Ec2fa4 (ps.getD i.toNat 0) (vP y) u2 pv sv rv ra ret.length rc id_]):=by
 refine cB B28 140 Tryz.func28 ?_
 intro F
 refine gX [.e 0,.s 1,.j 1 i.toNat,.z [0,0,1] 1 [0,1,2,6,18]] (gQ x (gO (ka=ka∧ps.length=ps.length) ⟨rfl,(by first | rfl | omega | (simp; done) | (simp; omega))⟩ (gO ((0:Int)≤i∧i<((ps.length:Nat):Int)) (by omega) (gQ (slAt ka i.toNat 1) (gO (i.toNat<ps.length) oW (gS [.o [0,0,1] 1,.c [1,0,1],.c [1,1]] ?_))))))
 refine gC (some 19) [2] Tryz.call32 (k_idleS (ps.getD i.toNat 0) pv sv rv ra rc ret.length id_ y u2) ?_
 exact gX [] (gJ [0,1,2] ⟨rfl,rfl⟩)
theorem w_beginR(c:Cfg)(x ba rb:Nat)(now:Int)(ka ma:Option Addr)(kc mc:Nat)(ps:List Nat)(many:List Int)(B:Ar)(i n_:Int)(pv sv rv:Value)(ra:Option Addr)(rc:Nat)(id_:Int)(ret:List Int)(y:Nat)(hi:0≤i∧i<4)(hps:ps.length=4):
  Ctr Tryz.prog 28 #[vP x,vI i,vI n_] [Ed2706 x c (vP ba) (vP rb) ka ps.length kc ma many.length mc now,.sl ka kc encP 0 1 ps 68,E70a74 (ps.getD i.toNat 0) (vP y) pv sv rv ra ret.length rc id_] (Ret (undef) [Ed2706 x c (vP ba) (vP rb) ka ps.length kc ma many.length mc now,.sl ka kc encP 0 1 ps 68,E70a74 (ps.getD i.toNat 0) (vP y) pv sv rv ra ret.length rc id_]):=by
 refine cB B28 140 Tryz.func28 ?_
 intro F
 refine gX [.e 0,.s 1,.j 1 i.toNat,.z [0,0,1] 1 [0,1,2,6,18]] (gQ x (gO (ka=ka∧ps.length=ps.length) ⟨rfl,(by first | rfl | omega | (simp; done) | (simp; omega))⟩ (gO ((0:Int)≤i∧i<((ps.length:Nat):Int)) (by omega) (gQ (slAt ka i.toNat 1) (gO (i.toNat<ps.length) oW (gS [.o [0,0,1] 1,.c [1,0,1],.c [1,1]] ?_))))))
 refine gC (some 19) [2] Tryz.call32 (k_idleR (ps.getD i.toNat 0) pv sv rv ra rc ret.length id_ y) ?_
 exact gX [] (gJ [0,1,2] ⟨rfl,rfl⟩)
theorem w_beginNR(c:Cfg)(x ba rb:Nat)(now:Int)(ka ma:Option Addr)(kc mc:Nat)(ps:List Nat)(many:List Int)(B:Ar)(i n_:Int)(pv sv rv:Value)(ra:Option Addr)(rc:Nat)(id_:Int)(ret:List Int)(hi:0≤i∧i<4)(hps:ps.length=4)(hc:c.Ok)(hnB:B.ws.length=B.n)(hzB:(B.n:Int)=sizeOfC c)(hwB:U64 (B.ws.getD (ctlAt c 0).toNat 0))(hi2:i≥2)(hic:i<c.clients):
  Ctr Tryz.prog 28 #[vP x,vI i,vI n_] [Ed2706 x c (vP ba) (vP rb) ka ps.length kc ma many.length mc now,.sl ka kc encP 0 1 ps 68,E4463d (ps.getD i.toNat 0) pv sv rv ra ret.length rc id_,E99bbc rb B false 0,E35fb1 B] (fun v L => ∃(y:Nat) (k:Nat) (b1:Nat) (b2:Nat) (b3:Nat) (b4:Nat) (b5:Nat) (b6:Nat) (q:Nat) (k2:Nat),v=undef∧L=[Ed2706 x c (vP ba) (vP rb) ka ps.length kc ma many.length mc now,.sl ka kc encP 0 1 ps 68,E70a74 (ps.getD i.toNat 0) (vP y) pv sv (vP q) ra ret.length rc id_,E99bbc rb B false 0,E35fb1 B,E3c71c y (.iface 118 (vP k)) (.func (.func 55) #[] #[vP b1,vP b2,vP b3,vP b4,vP b5,vP b6]) 0 false c (-1),E03c2e k c i 0 (-1),.pts b1 [vP k] 118,.pts b2 [vP y] 24,Efdc04 b3 c,.pts b4 [vI i] 3,.pts b5 [vI 0] 3,.pts b6 [vI (ctlEpoch (B.ws.getD (ctlAt c 0).toNat 0))] 3,E4f1f6 q c i 0 (ctlEpoch (B.ws.getD (ctlAt c 0).toNat 0)) 1 (vP k2) (-1) 0 0,Ee6e88 k2 c i 0 (-1)]):=by
 refine cB B28 140 Tryz.func28 ?_
 intro F
 have h0:=ctl0_ok hc
 have hc':=hc
 simp only [Cfg.Ok] at hc'
 refine gX [.e 0,.s 1,.j 1 i.toNat,.z [0,0,1] 1 [0,1,2,6,18]] (gQ x (gO (ka=ka∧ps.length=ps.length) ⟨rfl,(by first | rfl | omega | (simp; done) | (simp; omega))⟩ (gO ((0:Int)≤i∧i<((ps.length:Nat):Int)) (by omega) (gQ (slAt ka i.toNat 1) (gO (i.toNat<ps.length) oW (gS [.o [0,0,1] 1,.c [1,0,1],.c [1,1]] ?_))))))
 refine gC (some 19) [2] Tryz.call32 (k_idleI (ps.getD i.toNat 0) pv sv rv ra rc ret.length id_) ?_
 refine gX [.z [0,1,1] 1 [0,1,2,6,21]] (gS [.o [0,1,1] 1,.c [1,1,1]] ?_)
 refine gC (some 22) [0,2,3] Tryz.call35 (w_word c x ba rb now (.slice ka ps.length kc) (.slice ma many.length mc) B hc hnB hzB) ?_
 refine gC (some 23) [] Tryz.call34 (r13_Unpack (B.ws.getD (ctlAt c 0).toNat 0) hwB) ?_
 refine gX [.sp [26] [.e 2,.z q87_0 7 [0,1,6,7,27,31,32,33]] [.dead]] (gT (decide (i≥2)) (decide_eq_true hi2) (gQ x (gS [.o q87_0 7,.c [1,0,1,0,1,1,1],.c [1,1,1,1]] ?_)))
 refine go_call (some 34) [] Tryz.call13 (new_Rd c i 0 (ctlEpoch (B.ws.getD (ctlAt c 0).toNat 0)) hc ⟨by omega,hic⟩ (by omega)) kR ?_
 rintro v post ⟨p_1,k_2,b1_3,b2_4,b3_5,b4_6,b5_7,b6_8,rfl,rfl⟩
 refine gX [.e 1,.e 2,.z q87_1 7 [37,41,42,43]] (gQ (ps.getD i.toNat 0) (gQ x (gS [.o q87_1 7,.c [1,1,0,1,0,1,1,1],.c [1,1,1,1]] ?_)))
 refine go_call (some 44) [] Tryz.call72 (rnew_Rd c i 0 (ctlEpoch (B.ws.getD (ctlAt c 0).toNat 0)) hc ⟨by omega,hic⟩ (by omega)) kR ?_
 rintro v post ⟨q_9,k_10,rfl,rfl⟩
 exact gX [.e 1] (gQ (ps.getD i.toNat 0) (gJ [2,0,1,3,4,5,6,7,8,9,10,11,12,13,14] ⟨p_1,k_2,b1_3,b2_4,b3_5,b4_6,b5_7,b6_8,q_9,k_10,rfl,rfl⟩))
theorem w_beginNSok(c:Cfg)(x ba rb:Nat)(now:Int)(ka ma:Option Addr)(kc mc:Nat)(ps:List Nat)(many:List Int)(B:Ar)(i n_:Int)(pv sv rv:Value)(ra:Option Addr)(rc:Nat)(id_:Int)(ret:List Int)(hi:0≤i∧i<4)(hps:ps.length=4)(hc:c.Ok)(hnB:B.ws.length=B.n)(hzB:(B.n:Int)=sizeOfC c)(hwB:U64 (B.ws.getD (ctlAt c 0).toNat 0))(hi2:¬i≥2)(h3:bAnd .i64 n_ 3=0)(hl0:((ret.length:Nat):Int)>0)(hl:ret.length≤100)(hin:∀j,InK .i64 (ret.getD j 0))(ho:newOk c (fun _=>none) ret=true)(hg:goodRow c ret):
  Ctr Tryz.prog 28 #[vP x,vI i,vI n_] [Ed2706 x c (vP ba) (vP rb) ka ps.length kc ma many.length mc now,.sl ka kc encP 0 1 ps 68,E4463d (ps.getD i.toNat 0) pv sv rv ra ret.length rc id_,Ee1326 ra rc ret,E99bbc rb B false 0,E35fb1 B] (fun v L => ∃(y:Nat) (q:Nat),v=undef∧L=[Ed2706 x c (vP ba) (vP rb) ka ps.length kc ma many.length mc now,.sl ka kc encP 0 1 ps 68,Eb05f6 (ps.getD i.toNat 0) (vP y) pv (vP q) rv ra ret.length rc id_,Ee1326 ra rc ret,E99bbc rb B false 0,E35fb1 B,.res (ScanR y c (newSc ret)),.res (RsR q c (newRs ret))]):=by
 refine cB B28 140 Tryz.func28 ?_
 intro F
 refine gX [.e 0,.s 1,.j 1 i.toNat,.z [0,0,1] 1 [0,1,2,6,18]] (gQ x (gO (ka=ka∧ps.length=ps.length) ⟨rfl,(by first | rfl | omega | (simp; done) | (simp; omega))⟩ (gO ((0:Int)≤i∧i<((ps.length:Nat):Int)) (by omega) (gQ (slAt ka i.toNat 1) (gO (i.toNat<ps.length) oW (gS [.o [0,0,1] 1,.c [1,0,1],.c [1,1]] ?_))))))
 refine gC (some 19) [2] Tryz.call32 (k_idleI (ps.getD i.toNat 0) pv sv rv ra rc ret.length id_) ?_
 refine gX [.z [0,1,1] 1 [0,1,2,6,21]] (gS [.o [0,1,1] 1,.c [1,1,1]] ?_)
 refine gC (some 22) [0,3,4] Tryz.call35 (w_word c x ba rb now (.slice ka ps.length kc) (.slice ma many.length mc) B hc hnB hzB) ?_
 refine gC (some 23) [] Tryz.call34 (r13_Unpack (B.ws.getD (ctlAt c 0).toNat 0) hwB) ?_
 refine gX [.sp [26] [.dead] [.sp [50,49] [.e 2,.sp [57,56] [.z q87_2 0 [0,6]] [.dead]] [.dead]]] (gF (decide (i≥2)) (decide_eq_false hi2) (gQ ((bAnd .i64 n_ 3)==0) (gT ((bAnd .i64 n_ 3)==0) (beq_iff_eq.2 h3) (gQ (ps.getD i.toNat 0) (gQ (decide (((ret.length:Nat):Int)>0)) (gT (decide (((ret.length:Nat):Int)>0)) (decide_eq_true hl0) (gS [.c q87_2,.c q87_3,.c [1,1,1,1,1]] ?_)))))))
 refine zG ?_
 refine zN [0,1,2,3,4,5,6,7,8] (kV 0 [.w,.w,.w,.w,.e 3,.w,.w,.w,.e 2]) [0,6,58,59,60,61,62,63,64,65,66] [9] (.e x (.e (ps.getD i.toNat 0) .n)) ⟨?_,trivial⟩
 refine zC (some 67) [1] Tryz.call33 (retire_New_ok c ra rc ret hc hl hin ho) ?_
 rintro v post ⟨s_9_1,rfl,rfl⟩
 refine zN [10,11] [(0,.w),(10,.w),(11,.w)] [67,0,6,58,68,69] [12] .n ⟨?_,trivial⟩
 refine zX (.e 1) (sQ (ps.getD i.toNat 0) (sK ?_))
 refine zE [] [] [0,6] .n ?_
 refine gX [.z q87_4 0 [0,6]] (gS [.c q87_4,.c q87_5,.c [1,1,1,1,1]] ?_)
 refine zG ?_
 refine zN [0,1,2,3,4,5,6,7,8] (kV 0 [.w,.w,.w,.w,.e 2,.w,.w,.w,.e 1]) [0,6,70,71,72,73,74,75,76,77,78] [9] (.e x (.e (ps.getD i.toNat 0) .n)) ⟨?_,trivial⟩
 refine zC (some 79) [5] Tryz.call73 (ref15_New_ok c ra rc ret hc hl hg) ?_
 rintro v post ⟨rs_9_1r1,rfl,rfl⟩
 refine zN [10,11] [(0,.w),(10,.w),(11,.w)] [79,6,70,80,81] [12] .n ⟨?_,trivial⟩
 refine zX (.e 1) (sQ (ps.getD i.toNat 0) (sK ?_))
 refine zE [] [] [] .n ?_
 exact gX [] (gJ [2,0,1,6,3,4,5,7] ⟨s_9_1,rs_9_1r1,rfl,rfl⟩)
theorem w_beginNPx(c:Cfg)(x ba rb:Nat)(now:Int)(ka ma:Option Addr)(kc mc:Nat)(ps:List Nat)(many:List Int)(B:Ar)(i n_:Int)(pv sv rv:Value)(ra:Option Addr)(rc:Nat)(id_:Int)(ret:List Int)(hi:0≤i∧i<4)(hps:ps.length=4)(hc:c.Ok)(hnB:B.ws.length=B.n)(hzB:(B.n:Int)=sizeOfC c)(hwB:U64 (B.ws.getD (ctlAt c 0).toNat 0))(hi2:¬i≥2)(h3:bAnd .i64 n_ 3≠0)(hml:many.length≤2000)(hf:fitK c (((List.replicate (1+(((n_.tmod 6)+6).tmod 6)).toNat ((((many++[(1+(((n_.tmod 6)+6).tmod 6))]).length):Nat):Int)).length:Nat):Int)≠-1):
  Ctr Tryz.prog 28 #[vP x,vI i,vI n_] [Ed2706 x c (vP ba) (vP rb) ka ps.length kc ma many.length mc now,.sl ka kc encP 0 1 ps 68,Ee1326 ma mc many,E4463d (ps.getD i.toNat 0) pv sv rv ra ret.length rc id_,E99bbc rb B false 0,E35fb1 B] (fun v L => ∃(ma2:Option Addr) (mc2:Nat) (la:Option Addr) (lc:Nat) (y:Nat) (k:Nat) (bp:Nat) (bt:Nat) (wa:Option Addr) (wc:Nat) (q:Nat) (k2:Nat),v=undef∧L=[Ed2706 x c (vP ba) (vP rb) ka ps.length kc ma2 ((many++[(1+(((n_.tmod 6)+6).tmod 6))]).length) mc2 now,.sl ka kc encP 0 1 ps 68,Ee1326 ma2 mc2 (many++[(1+(((n_.tmod 6)+6).tmod 6))]),E2d34c (ps.getD i.toNat 0) (vP y) (vP q) sv rv ra ret.length rc ((many++[(1+(((n_.tmod 6)+6).tmod 6))]).length),E99bbc rb B false 0,E35fb1 B,Ef60d6 y (.iface 114 (vP k)) (.func (.func 51) #[] #[vP bp,vP bt]) 0 false c (ctlAt c 0) (ctlEpoch (B.ws.getD (ctlAt c 0).toNat 0)) wa ((List.replicate (1+(((n_.tmod 6)+6).tmod 6)).toNat ((((many++[(1+(((n_.tmod 6)+6).tmod 6))]).length):Nat):Int)).length) wc 0 0 0 0 0,.pts bp [vP y] 23,.pts bt [vP k] 114,E65ea3 k c (newTk (fitK c (((List.replicate (1+(((n_.tmod 6)+6).tmod 6)).toNat ((((many++[(1+(((n_.tmod 6)+6).tmod 6))]).length):Nat):Int)).length:Nat):Int))) k,E54ea0 wa wc (List.replicate (1+(((n_.tmod 6)+6).tmod 6)).toNat ((((many++[(1+(((n_.tmod 6)+6).tmod 6))]).length):Nat):Int)),E54ea0 la lc (List.replicate (1+(((n_.tmod 6)+6).tmod 6)).toNat ((((many++[(1+(((n_.tmod 6)+6).tmod 6))]).length):Nat):Int)),Edf317 q c 0 (ctlEpoch (B.ws.getD (ctlAt c 0).toNat 0)) 1 0 0 la ((List.replicate (1+(((n_.tmod 6)+6).tmod 6)).toNat ((((many++[(1+(((n_.tmod 6)+6).tmod 6))]).length):Nat):Int)).length) lc (vP k2) 0 0 0 0 0,Ef692a k2 c (fitK c (((List.replicate (1+(((n_.tmod 6)+6).tmod 6)).toNat ((((many++[(1+(((n_.tmod 6)+6).tmod 6))]).length):Nat):Int)).length:Nat):Int)) 1 0 0 0]):=by
 refine cB B28 140 Tryz.func28 ?_
 intro F
 have h0:=ctl0_ok hc
 have hc':=hc
 simp only [Cfg.Ok] at hc'
 have hm7:1≤(1+(((n_.tmod 6)+6).tmod 6))∧(1+(((n_.tmod 6)+6).tmod 6))≤6:=msz_rng n_
 have hm6:=tm6_rng n_
 have hmn:(many++[(1+(((n_.tmod 6)+6).tmod 6))]).length=many.length+1:=by simp
 refine gX [.e 0,.s 1,.j 1 i.toNat,.z [0,0,1] 1 [0,1,2,6,18]] (gQ x (gO (ka=ka∧ps.length=ps.length) ⟨rfl,(by first | rfl | omega | (simp; done) | (simp; omega))⟩ (gO ((0:Int)≤i∧i<((ps.length:Nat):Int)) (by omega) (gQ (slAt ka i.toNat 1) (gO (i.toNat<ps.length) (by omega) (gS [.o [0,0,1] 1,.c [1,0,1],.c [1,1]] ?_))))))
 refine gC (some 19) [3] Tryz.call32 (k_idleI (ps.getD i.toNat 0) pv sv rv ra rc ret.length id_) ?_
 refine gX [.z [0,1,1] 1 [0,1,2,6,21]] (gS [.o [0,1,1] 1,.c [1,1,1]] ?_)
 refine gC (some 22) [0,3,4] Tryz.call35 (w_word c x ba rb now (.slice ka ps.length kc) (.slice ma many.length mc) B hc hnB hzB) ?_
 refine gC (some 23) [] Tryz.call34 (r13_Unpack (B.ws.getD (ctlAt c 0).toNat 0) hwB) ?_
 refine gX [.sp [26] [.dead] [.sp [50,49] [.dead] [.n,.n,.n,.n,.e 3,.z q87_6 7 [0,6,7,8,87,91,93]]]] (gF (decide (i≥2)) (decide_eq_false hi2) (gQ ((bAnd .i64 n_ 3)==0) (gF ((bAnd .i64 n_ 3)==0) (beq_eq_false_iff_ne.2 h3) (gO ((6:Int)≠0) (by decide) (gO (InK .i64 ((n_.tmod 6)+6)) (by simp only [InK]; omega) (gO ((6:Int)≠0) (by decide) (gO (InK .i64 (1+(((n_.tmod 6)+6).tmod 6))) (by simp only [InK]; omega) (gQ x (gN fun b_1=>gW (ks:=[.o q87_6 7,.c q87_7]) [(0,vP x),(6,vP (ps.getD i.toNat 0)),(7,vI (ctlEpoch (B.ws.getD (ctlAt c 0).toNat 0))),(8,vI (1+(((n_.tmod 6)+6).tmod 6))),(87,vP x),(91,.slice ma many.length mc),(93,.slice (some ⟨b_1,0,none⟩) 1 1)] [.sl ka kc encP 0 1 ps 68,Ee1326 ma mc many,E4463d (ps.getD i.toNat 0) pv sv rv ra ret.length rc id_,Ed2706 x c (vP ba) (vP rb) ka ps.length kc ma many.length mc now,E99bbc rb B false 0,E35fb1 B,.pts b_1 [vI (1+(((n_.tmod 6)+6).tmod 6))] 3] ?_)))))))))
 refine go_by (some 94) (appO Tryz.prog _) (some (.slice ma (many).length mc,.slice (some ⟨b_1,0,none⟩) 1 1,(3,1,8))) (R_append 1 (a:=ma) (c:=mc) (enc:=encI .i64) (d:=0) (sz:=1) (xs:=many) (te:=3) kR (.slice (some ⟨b_1,0,none⟩) 1 1) [(1+(((n_.tmod 6)+6).tmod 6))] (src_pts (i:=6) (t:=3) kR) (oneI _) 8 oW oW) kR ?_
 rintro v L2 ⟨a_2,c_3,rfl,rfl⟩
 refine gX [.e 3,.e 3,.n,.e 2,.z q87_8 1 [0,6,7,8,106]] (gQ x (gQ x (gO (InK .u64 (((many++[(1+(((n_.tmod 6)+6).tmod 6))]).length:Nat):Int)) (by simp only [InK]; omega) (gQ (ps.getD i.toNat 0) (gW (ks:=[.o q87_8 1,.c q87_9]) [(0,vP x),(6,vP (ps.getD i.toNat 0)),(7,vI (ctlEpoch (B.ws.getD (ctlAt c 0).toNat 0))),(8,vI (1+(((n_.tmod 6)+6).tmod 6))),(106,vI (1+(((n_.tmod 6)+6).tmod 6)))] [.sl ka kc encP 0 1 ps 68,Ee1326 a_2 c_3 (many++[(1+(((n_.tmod 6)+6).tmod 6))]),E72be0 (ps.getD i.toNat 0) pv sv rv ra ret.length rc ((many++[(1+(((n_.tmod 6)+6).tmod 6))]).length),Ed2706 x c (vP ba) (vP rb) ka ps.length kc a_2 ((many++[(1+(((n_.tmod 6)+6).tmod 6))]).length) c_3 now,E99bbc rb B false 0,E35fb1 B,.pts b_1 [vI (1+(((n_.tmod 6)+6).tmod 6))] 3] ?_)))))
 refine go_make (kl:=.i64) (kc:=.i64) (encI .u64) 0 (0:Int) 1 (sizedI _) 60 8 (some 107) (1+(((n_.tmod 6)+6).tmod 6)) (1+(((n_.tmod 6)+6).tmod 6)) kR (by omega) (by omega) (by omega) (by omega) ?_
 intro a_4 c_5
 refine gX [.z q87_10 0 [0,6,7,8,9,10]] (gW (ks:=[.c q87_10,.b 0,.c q87_11]) [(0,vP x),(6,vP (ps.getD i.toNat 0)),(7,vI (ctlEpoch (B.ws.getD (ctlAt c 0).toNat 0))),(8,vI (1+(((n_.tmod 6)+6).tmod 6))),(9,.slice a_4 ((List.replicate (1+(((n_.tmod 6)+6).tmod 6)).toNat (0:Int)).length) c_5),(10,vI 0)] [.sl ka kc encP 0 1 ps 68,Ee1326 a_2 c_3 (many++[(1+(((n_.tmod 6)+6).tmod 6))]),E72be0 (ps.getD i.toNat 0) pv sv rv ra ret.length rc ((many++[(1+(((n_.tmod 6)+6).tmod 6))]).length),Ed2706 x c (vP ba) (vP rb) ka ps.length kc a_2 ((many++[(1+(((n_.tmod 6)+6).tmod 6))]).length) c_3 now,E99bbc rb B false 0,E35fb1 B,.pts b_1 [vI (1+(((n_.tmod 6)+6).tmod 6))] 3,E54ea0 a_4 c_5 (List.replicate (1+(((n_.tmod 6)+6).tmod 6)).toNat (0:Int))] ?_)
 refine go_cast (tm':=[(0,vP x),(6,vP (ps.getD i.toNat 0)),(7,vI (ctlEpoch (B.ws.getD (ctlAt c 0).toNat 0))),(8,vI (1+(((n_.tmod 6)+6).tmod 6))),(9,.slice a_4 ((fillR (1+(((n_.tmod 6)+6).tmod 6)).toNat 0 ((((many++[(1+(((n_.tmod 6)+6).tmod 6))]).length):Nat):Int)).length) c_5),(10,vI 0)]) (L':=[.sl ka kc encP 0 1 ps 68,Ee1326 a_2 c_3 (many++[(1+(((n_.tmod 6)+6).tmod 6))]),E72be0 (ps.getD i.toNat 0) pv sv rv ra ret.length rc ((many++[(1+(((n_.tmod 6)+6).tmod 6))]).length),Ed2706 x c (vP ba) (vP rb) ka ps.length kc a_2 ((many++[(1+(((n_.tmod 6)+6).tmod 6))]).length) c_3 now,E99bbc rb B false 0,E35fb1 B,.pts b_1 [vI (1+(((n_.tmod 6)+6).tmod 6))] 3,E54ea0 a_4 c_5 (fillR (1+(((n_.tmod 6)+6).tmod 6)).toNat 0 ((((many++[(1+(((n_.tmod 6)+6).tmod 6))]).length):Nat):Int))]) (by rw [show(fillR (1+(((n_.tmod 6)+6).tmod 6)).toNat 0 ((((many++[(1+(((n_.tmod 6)+6).tmod 6))]).length):Nat):Int))=List.replicate (1+(((n_.tmod 6)+6).tmod 6)).toNat 0 from rfl]) ?_
 have hlen:∀j:Int,0≤j→j≤(1+(((n_.tmod 6)+6).tmod 6))→(fillR (1+(((n_.tmod 6)+6).tmod 6)).toNat j.toNat ((((many++[(1+(((n_.tmod 6)+6).tmod 6))]).length):Nat):Int)).length=(1+(((n_.tmod 6)+6).tmod 6)).toNat:=fun j h1 h2=>fillR_len (by omega)
 refine go_loop (ι := Int) (fun j=>[(0,vP x),(6,vP (ps.getD i.toNat 0)),(7,vI (ctlEpoch (B.ws.getD (ctlAt c 0).toNat 0))),(8,vI (1+(((n_.tmod 6)+6).tmod 6))),(9,.slice a_4 ((fillR (1+(((n_.tmod 6)+6).tmod 6)).toNat j.toNat ((((many++[(1+(((n_.tmod 6)+6).tmod 6))]).length):Nat):Int)).length) c_5),(10,vI j)]) (fun j=>[.sl ka kc encP 0 1 ps 68,Ee1326 a_2 c_3 (many++[(1+(((n_.tmod 6)+6).tmod 6))]),E72be0 (ps.getD i.toNat 0) pv sv rv ra ret.length rc ((many++[(1+(((n_.tmod 6)+6).tmod 6))]).length),Ed2706 x c (vP ba) (vP rb) ka ps.length kc a_2 ((many++[(1+(((n_.tmod 6)+6).tmod 6))]).length) c_3 now,E99bbc rb B false 0,E35fb1 B,.pts b_1 [vI (1+(((n_.tmod 6)+6).tmod 6))] 3,E54ea0 a_4 c_5 (fillR (1+(((n_.tmod 6)+6).tmod 6)).toNat j.toNat ((((many++[(1+(((n_.tmod 6)+6).tmod 6))]).length):Nat):Int))]) (fun j=>0≤j∧j≤(1+(((n_.tmod 6)+6).tmod 6))) (fun j=>((1+(((n_.tmod 6)+6).tmod 6))-j).toNat) 0 [0,6,7,8,9,10] [0,1,2,3,4,5,6,7] kR rfl rfl kR ⟨Int.le_refl 0,by omega⟩ ?_
 intro j J_6 hj hJ_6
 have hle:=hlen j hj.1 hj.2
 refine go_exec (rs:=[]) kR 4000 [.sp [110] [.e 2,.s 7,.j 7 j.toNat,.n,.z [] 0 [0,6,7,8,9,10]] [.z q87_12 0 [0,6,7,9]]] (o:=.br (decide (j<(1+(((n_.tmod 6)+6).tmod 6)))) (.obl ((ps.getD i.toNat 0)=(ps.getD i.toNat 0)) (.obl (a_4=a_4∧(fillR (1+(((n_.tmod 6)+6).tmod 6)).toNat j.toNat ((((many++[(1+(((n_.tmod 6)+6).tmod 6))]).length):Nat):Int)).length=(fillR (1+(((n_.tmod 6)+6).tmod 6)).toNat j.toNat ((((many++[(1+(((n_.tmod 6)+6).tmod 6))]).length):Nat):Int)).length) (.obl ((0:Int)≤j∧j<(((fillR (1+(((n_.tmod 6)+6).tmod 6)).toNat j.toNat ((((many++[(1+(((n_.tmod 6)+6).tmod 6))]).length):Nat):Int)).length:Nat):Int)) (.obl (slAt a_4 j.toNat 1=slAt a_4 j.toNat 1) (.obl (j.toNat<(fillR (1+(((n_.tmod 6)+6).tmod 6)).toNat j.toNat ((((many++[(1+(((n_.tmod 6)+6).tmod 6))]).length):Nat):Int)).length) (.ex fun x_7:Int=>.obl ([vU (((many++[(1+(((n_.tmod 6)+6).tmod 6))]).length:Nat):Int)]=(encI .u64) x_7) (.obl (InK .i64 (j+1)) (.stop [.j J_6,.b 0,.c q87_11] [(0,vP x),(6,vP (ps.getD i.toNat 0)),(7,vI (ctlEpoch (B.ws.getD (ctlAt c 0).toNat 0))),(8,vI (1+(((n_.tmod 6)+6).tmod 6))),(9,.slice a_4 ((fillR (1+(((n_.tmod 6)+6).tmod 6)).toNat j.toNat ((((many++[(1+(((n_.tmod 6)+6).tmod 6))]).length):Nat):Int)).length) c_5),(10,vI (j+1))] [.sl ka kc encP 0 1 ps 68,Ee1326 a_2 c_3 (many++[(1+(((n_.tmod 6)+6).tmod 6))]),E72be0 (ps.getD i.toNat 0) pv sv rv ra ret.length rc ((many++[(1+(((n_.tmod 6)+6).tmod 6))]).length),Ed2706 x c (vP ba) (vP rb) ka ps.length kc a_2 ((many++[(1+(((n_.tmod 6)+6).tmod 6))]).length) c_3 now,E99bbc rb B false 0,E35fb1 B,.pts b_1 [vI (1+(((n_.tmod 6)+6).tmod 6))] 3,E54ea0 a_4 c_5 ((fillR (1+(((n_.tmod 6)+6).tmod 6)).toNat j.toNat ((((many++[(1+(((n_.tmod 6)+6).tmod 6))]).length):Nat):Int)).set j.toNat x_7)])))))))) (.stop [.o q87_12 0,.c q87_13] [(0,vP x),(6,vP (ps.getD i.toNat 0)),(7,vI (ctlEpoch (B.ws.getD (ctlAt c 0).toNat 0))),(9,.slice a_4 ((fillR (1+(((n_.tmod 6)+6).tmod 6)).toNat j.toNat ((((many++[(1+(((n_.tmod 6)+6).tmod 6))]).length):Nat):Int)).length) c_5)] [.sl ka kc encP 0 1 ps 68,Ee1326 a_2 c_3 (many++[(1+(((n_.tmod 6)+6).tmod 6))]),E72be0 (ps.getD i.toNat 0) pv sv rv ra ret.length rc ((many++[(1+(((n_.tmod 6)+6).tmod 6))]).length),Ed2706 x c (vP ba) (vP rb) ka ps.length kc a_2 ((many++[(1+(((n_.tmod 6)+6).tmod 6))]).length) c_3 now,E99bbc rb B false 0,E35fb1 B,.pts b_1 [vI (1+(((n_.tmod 6)+6).tmod 6))] 3,E54ea0 a_4 c_5 (fillR (1+(((n_.tmod 6)+6).tmod 6)).toNat j.toNat ((((many++[(1+(((n_.tmod 6)+6).tmod 6))]).length):Nat):Int))])) kR ?_
 refine ok_br (fun h_8 => ?_) (fun h_8 => ?_)
 ·replace h_8:=decT h_8
  refine ok_obl rfl ?_
  refine ok_obl ⟨rfl,(by first | rfl | omega | (simp; done) | (simp; omega))⟩ ?_
  refine ok_obl (by omega) ?_
  refine ok_obl rfl ?_
  refine ok_obl (by omega) ?_
  refine ok_ex ((((many++[(1+(((n_.tmod 6)+6).tmod 6))]).length:Nat):Int):Int) ?_
  refine ok_obl rfl ?_
  refine ok_obl (by simp only [InK]; omega) ?_
  refine ok_stop ?_
  have hset:((fillR (1+(((n_.tmod 6)+6).tmod 6)).toNat j.toNat ((((many++[(1+(((n_.tmod 6)+6).tmod 6))]).length):Nat):Int))).set j.toNat ((((many++[(1+(((n_.tmod 6)+6).tmod 6))]).length):Nat):Int)=fillR (1+(((n_.tmod 6)+6).tmod 6)).toNat (j+1).toNat ((((many++[(1+(((n_.tmod 6)+6).tmod 6))]).length):Nat):Int):=by rw [fillR_set (by omega)]; congr 1; omega
  refine go_weak (tm':=[(0,vP x),(6,vP (ps.getD i.toNat 0)),(7,vI (ctlEpoch (B.ws.getD (ctlAt c 0).toNat 0))),(8,vI (1+(((n_.tmod 6)+6).tmod 6))),(9,.slice a_4 ((fillR (1+(((n_.tmod 6)+6).tmod 6)).toNat j.toNat ((((many++[(1+(((n_.tmod 6)+6).tmod 6))]).length):Nat):Int)).length) c_5),(10,vI (j+1))]) (L':=[.sl ka kc encP 0 1 ps 68,Ee1326 a_2 c_3 (many++[(1+(((n_.tmod 6)+6).tmod 6))]),E72be0 (ps.getD i.toNat 0) pv sv rv ra ret.length rc ((many++[(1+(((n_.tmod 6)+6).tmod 6))]).length),Ed2706 x c (vP ba) (vP rb) ka ps.length kc a_2 ((many++[(1+(((n_.tmod 6)+6).tmod 6))]).length) c_3 now,E99bbc rb B false 0,E35fb1 B,.pts b_1 [vI (1+(((n_.tmod 6)+6).tmod 6))] 3,E54ea0 a_4 c_5 ((fillR (1+(((n_.tmod 6)+6).tmod 6)).toNat j.toNat ((((many++[(1+(((n_.tmod 6)+6).tmod 6))]).length):Nat):Int)).set j.toNat (((many++[(1+(((n_.tmod 6)+6).tmod 6))]).length:Nat):Int))]) [0,6,7,8,9,10] [0,1,2,3,4,5,6,7] kR ?_
  refine go_cast (tm':=[(0,vP x),(6,vP (ps.getD i.toNat 0)),(7,vI (ctlEpoch (B.ws.getD (ctlAt c 0).toNat 0))),(8,vI (1+(((n_.tmod 6)+6).tmod 6))),(9,.slice a_4 ((fillR (1+(((n_.tmod 6)+6).tmod 6)).toNat (j+1).toNat ((((many++[(1+(((n_.tmod 6)+6).tmod 6))]).length):Nat):Int)).length) c_5),(10,vI (j+1))]) (L':=[.sl ka kc encP 0 1 ps 68,Ee1326 a_2 c_3 (many++[(1+(((n_.tmod 6)+6).tmod 6))]),E72be0 (ps.getD i.toNat 0) pv sv rv ra ret.length rc ((many++[(1+(((n_.tmod 6)+6).tmod 6))]).length),Ed2706 x c (vP ba) (vP rb) ka ps.length kc a_2 ((many++[(1+(((n_.tmod 6)+6).tmod 6))]).length) c_3 now,E99bbc rb B false 0,E35fb1 B,.pts b_1 [vI (1+(((n_.tmod 6)+6).tmod 6))] 3,E54ea0 a_4 c_5 (fillR (1+(((n_.tmod 6)+6).tmod 6)).toNat (j+1).toNat ((((many++[(1+(((n_.tmod 6)+6).tmod 6))]).length):Nat):Int))]) (by rw [hlen (j+1) (by omega) (by omega),←hset,hle]) ?_
  exact go_back hJ_6 (j+1) [0,1,2,3,4,5,6,7] kR kR kR ⟨by omega,by omega⟩ (by omega)
 ·replace h_8:=decF h_8
  refine ok_stop ?_
  have hfull:(fillR (1+(((n_.tmod 6)+6).tmod 6)).toNat j.toNat ((((many++[(1+(((n_.tmod 6)+6).tmod 6))]).length):Nat):Int))=(List.replicate (1+(((n_.tmod 6)+6).tmod 6)).toNat ((((many++[(1+(((n_.tmod 6)+6).tmod 6))]).length):Nat):Int)):=by rw [show j.toNat=(1+(((n_.tmod 6)+6).tmod 6)).toNat by omega]; exact fillR_all _ _
  refine go_cast (tm':=[(0,vP x),(6,vP (ps.getD i.toNat 0)),(7,vI (ctlEpoch (B.ws.getD (ctlAt c 0).toNat 0))),(9,.slice a_4 ((List.replicate (1+(((n_.tmod 6)+6).tmod 6)).toNat ((((many++[(1+(((n_.tmod 6)+6).tmod 6))]).length):Nat):Int)).length) c_5)]) (L':=[.sl ka kc encP 0 1 ps 68,Ee1326 a_2 c_3 (many++[(1+(((n_.tmod 6)+6).tmod 6))]),E72be0 (ps.getD i.toNat 0) pv sv rv ra ret.length rc ((many++[(1+(((n_.tmod 6)+6).tmod 6))]).length),Ed2706 x c (vP ba) (vP rb) ka ps.length kc a_2 ((many++[(1+(((n_.tmod 6)+6).tmod 6))]).length) c_3 now,E99bbc rb B false 0,E35fb1 B,.pts b_1 [vI (1+(((n_.tmod 6)+6).tmod 6))] 3,E54ea0 a_4 c_5 (List.replicate (1+(((n_.tmod 6)+6).tmod 6)).toNat ((((many++[(1+(((n_.tmod 6)+6).tmod 6))]).length):Nat):Int))]) (by rw [hfull]) ?_
  refine gX [.e 3,.z q87_12 7 [0,6,7,9,120,124,125,126]] (gQ x (gS [.o q87_12 7,.c q87_13] ?_))
  refine go_call (some 127) [7] Tryz.call12 (new_Pub c 0 (ctlEpoch (B.ws.getD (ctlAt c 0).toNat 0)) a_4 c_5 (List.replicate (1+(((n_.tmod 6)+6).tmod 6)).toNat ((((many++[(1+(((n_.tmod 6)+6).tmod 6))]).length):Nat):Int)) hc (by rw [List.length_replicate]; omega) hf (by omega)) kR ?_
  rintro v post ⟨p_9,k_10,bp_11,bt_12,wa_13,wc_14,rfl,rfl⟩
  refine gX [.e 2,.e 3,.z q87_13 7 [130,134,135,136]] (gQ (ps.getD i.toNat 0) (gQ x (gS [.o q87_13 7] ?_)))
  refine go_call (some 137) [] Tryz.call74 (rnew_Pub c 0 (ctlEpoch (B.ws.getD (ctlAt c 0).toNat 0)) a_4 ((List.replicate (1+(((n_.tmod 6)+6).tmod 6)).toNat ((((many++[(1+(((n_.tmod 6)+6).tmod 6))]).length):Nat):Int)).length) c_5 hc hf (by omega)) kR ?_
  rintro v post ⟨q_15,k_16,rfl,rfl⟩
  exact gX [.e 2] (gQ (ps.getD i.toNat 0) (gJ [3,0,1,2,4,5,8,9,10,11,12,7,13,14] ⟨a_2,c_3,a_4,c_5,p_9,k_10,bp_11,bt_12,wa_13,wc_14,q_15,k_16,rfl,rfl⟩))
theorem w_beginNPe(c:Cfg)(x ba rb:Nat)(now:Int)(ka ma:Option Addr)(kc mc:Nat)(ps:List Nat)(many:List Int)(B:Ar)(i n_:Int)(pv sv rv:Value)(ra:Option Addr)(rc:Nat)(id_:Int)(ret:List Int)(hi:0≤i∧i<4)(hps:ps.length=4)(hc:c.Ok)(hnB:B.ws.length=B.n)(hzB:(B.n:Int)=sizeOfC c)(hwB:U64 (B.ws.getD (ctlAt c 0).toNat 0))(hi2:¬i≥2)(h3:bAnd .i64 n_ 3=0)(hl0:¬((ret.length:Nat):Int)>0)(hml:many.length≤2000)(hf:fitK c (((List.replicate (1+(((n_.tmod 6)+6).tmod 6)).toNat ((((many++[(1+(((n_.tmod 6)+6).tmod 6))]).length):Nat):Int)).length:Nat):Int)≠-1):
  Ctr Tryz.prog 28 #[vP x,vI i,vI n_] [Ed2706 x c (vP ba) (vP rb) ka ps.length kc ma many.length mc now,.sl ka kc encP 0 1 ps 68,Ee1326 ma mc many,E4463d (ps.getD i.toNat 0) pv sv rv ra ret.length rc id_,E99bbc rb B false 0,E35fb1 B] (fun v L => ∃(ma2:Option Addr) (mc2:Nat) (la:Option Addr) (lc:Nat) (y:Nat) (k:Nat) (bp:Nat) (bt:Nat) (wa:Option Addr) (wc:Nat) (q:Nat) (k2:Nat),v=undef∧L=[Ed2706 x c (vP ba) (vP rb) ka ps.length kc ma2 ((many++[(1+(((n_.tmod 6)+6).tmod 6))]).length) mc2 now,.sl ka kc encP 0 1 ps 68,Ee1326 ma2 mc2 (many++[(1+(((n_.tmod 6)+6).tmod 6))]),E2d34c (ps.getD i.toNat 0) (vP y) (vP q) sv rv ra ret.length rc ((many++[(1+(((n_.tmod 6)+6).tmod 6))]).length),E99bbc rb B false 0,E35fb1 B,Ef60d6 y (.iface 114 (vP k)) (.func (.func 51) #[] #[vP bp,vP bt]) 0 false c (ctlAt c 0) (ctlEpoch (B.ws.getD (ctlAt c 0).toNat 0)) wa ((List.replicate (1+(((n_.tmod 6)+6).tmod 6)).toNat ((((many++[(1+(((n_.tmod 6)+6).tmod 6))]).length):Nat):Int)).length) wc 0 0 0 0 0,.pts bp [vP y] 23,.pts bt [vP k] 114,E65ea3 k c (newTk (fitK c (((List.replicate (1+(((n_.tmod 6)+6).tmod 6)).toNat ((((many++[(1+(((n_.tmod 6)+6).tmod 6))]).length):Nat):Int)).length:Nat):Int))) k,E54ea0 wa wc (List.replicate (1+(((n_.tmod 6)+6).tmod 6)).toNat ((((many++[(1+(((n_.tmod 6)+6).tmod 6))]).length):Nat):Int)),E54ea0 la lc (List.replicate (1+(((n_.tmod 6)+6).tmod 6)).toNat ((((many++[(1+(((n_.tmod 6)+6).tmod 6))]).length):Nat):Int)),Edf317 q c 0 (ctlEpoch (B.ws.getD (ctlAt c 0).toNat 0)) 1 0 0 la ((List.replicate (1+(((n_.tmod 6)+6).tmod 6)).toNat ((((many++[(1+(((n_.tmod 6)+6).tmod 6))]).length):Nat):Int)).length) lc (vP k2) 0 0 0 0 0,Ef692a k2 c (fitK c (((List.replicate (1+(((n_.tmod 6)+6).tmod 6)).toNat ((((many++[(1+(((n_.tmod 6)+6).tmod 6))]).length):Nat):Int)).length:Nat):Int)) 1 0 0 0]):=by
 refine cB B28 140 Tryz.func28 ?_
 intro F
 have h0:=ctl0_ok hc
 have hc':=hc
 simp only [Cfg.Ok] at hc'
 have hm7:1≤(1+(((n_.tmod 6)+6).tmod 6))∧(1+(((n_.tmod 6)+6).tmod 6))≤6:=msz_rng n_
 have hm6:=tm6_rng n_
 have hmn:(many++[(1+(((n_.tmod 6)+6).tmod 6))]).length=many.length+1:=by simp
 refine gX [.e 0,.s 1,.j 1 i.toNat,.z [0,0,1] 1 [0,1,2,6,18]] (gQ x (gO (ka=ka∧ps.length=ps.length) ⟨rfl,(by first | rfl | omega | (simp; done) | (simp; omega))⟩ (gO ((0:Int)≤i∧i<((ps.length:Nat):Int)) (by omega) (gQ (slAt ka i.toNat 1) (gO (i.toNat<ps.length) (by omega) (gS [.o [0,0,1] 1,.c [1,0,1],.c [1,1]] ?_))))))
 refine gC (some 19) [3] Tryz.call32 (k_idleI (ps.getD i.toNat 0) pv sv rv ra rc ret.length id_) ?_
 refine gX [.z [0,1,1] 1 [0,1,2,6,21]] (gS [.o [0,1,1] 1,.c [1,1,1]] ?_)
 refine gC (some 22) [0,3,4] Tryz.call35 (w_word c x ba rb now (.slice ka ps.length kc) (.slice ma many.length mc) B hc hnB hzB) ?_
 refine gC (some 23) [] Tryz.call34 (r13_Unpack (B.ws.getD (ctlAt c 0).toNat 0) hwB) ?_
 refine gX [.sp [26] [.dead] [.sp [50,49] [.e 2,.sp [57,56] [.dead] [.n,.n,.n,.n,.e 3,.z q87_6 7 [0,6,7,8,87,91,93]]] [.dead]]] (gF (decide (i≥2)) (decide_eq_false hi2) (gQ ((bAnd .i64 n_ 3)==0) (gT ((bAnd .i64 n_ 3)==0) (beq_iff_eq.2 h3) (gQ (ps.getD i.toNat 0) (gQ (decide (((ret.length:Nat):Int)>0)) (gF (decide (((ret.length:Nat):Int)>0)) (decide_eq_false hl0) (gO ((6:Int)≠0) (by decide) (gO (InK .i64 ((n_.tmod 6)+6)) (by simp only [InK]; omega) (gO ((6:Int)≠0) (by decide) (gO (InK .i64 (1+(((n_.tmod 6)+6).tmod 6))) (by simp only [InK]; omega) (gQ x (gN fun b_1=>gW (ks:=[.o q87_6 7,.c q87_7]) [(0,vP x),(6,vP (ps.getD i.toNat 0)),(7,vI (ctlEpoch (B.ws.getD (ctlAt c 0).toNat 0))),(8,vI (1+(((n_.tmod 6)+6).tmod 6))),(87,vP x),(91,.slice ma many.length mc),(93,.slice (some ⟨b_1,0,none⟩) 1 1)] [.sl ka kc encP 0 1 ps 68,Ee1326 ma mc many,E4463d (ps.getD i.toNat 0) pv sv rv ra ret.length rc id_,Ed2706 x c (vP ba) (vP rb) ka ps.length kc ma many.length mc now,E99bbc rb B false 0,E35fb1 B,.pts b_1 [vI (1+(((n_.tmod 6)+6).tmod 6))] 3] ?_))))))))))))
 refine go_by (some 94) (appO Tryz.prog _) (some (.slice ma (many).length mc,.slice (some ⟨b_1,0,none⟩) 1 1,(3,1,8))) (R_append 1 (a:=ma) (c:=mc) (enc:=encI .i64) (d:=0) (sz:=1) (xs:=many) (te:=3) kR (.slice (some ⟨b_1,0,none⟩) 1 1) [(1+(((n_.tmod 6)+6).tmod 6))] (src_pts (i:=6) (t:=3) kR) (oneI _) 8 oW oW) kR ?_
 rintro v L2 ⟨a_2,c_3,rfl,rfl⟩
 refine gX [.e 3,.e 3,.n,.e 2,.z q87_8 1 [0,6,7,8,106]] (gQ x (gQ x (gO (InK .u64 (((many++[(1+(((n_.tmod 6)+6).tmod 6))]).length:Nat):Int)) (by simp only [InK]; omega) (gQ (ps.getD i.toNat 0) (gW (ks:=[.o q87_8 1,.c q87_9]) [(0,vP x),(6,vP (ps.getD i.toNat 0)),(7,vI (ctlEpoch (B.ws.getD (ctlAt c 0).toNat 0))),(8,vI (1+(((n_.tmod 6)+6).tmod 6))),(106,vI (1+(((n_.tmod 6)+6).tmod 6)))] [.sl ka kc encP 0 1 ps 68,Ee1326 a_2 c_3 (many++[(1+(((n_.tmod 6)+6).tmod 6))]),E72be0 (ps.getD i.toNat 0) pv sv rv ra ret.length rc ((many++[(1+(((n_.tmod 6)+6).tmod 6))]).length),Ed2706 x c (vP ba) (vP rb) ka ps.length kc a_2 ((many++[(1+(((n_.tmod 6)+6).tmod 6))]).length) c_3 now,E99bbc rb B false 0,E35fb1 B,.pts b_1 [vI (1+(((n_.tmod 6)+6).tmod 6))] 3] ?_)))))
 refine go_make (kl:=.i64) (kc:=.i64) (encI .u64) 0 (0:Int) 1 (sizedI _) 60 8 (some 107) (1+(((n_.tmod 6)+6).tmod 6)) (1+(((n_.tmod 6)+6).tmod 6)) kR (by omega) (by omega) (by omega) (by omega) ?_
 intro a_4 c_5
 refine gX [.z q87_10 0 [0,6,7,8,9,10]] (gW (ks:=[.c q87_10,.b 0,.c q87_11]) [(0,vP x),(6,vP (ps.getD i.toNat 0)),(7,vI (ctlEpoch (B.ws.getD (ctlAt c 0).toNat 0))),(8,vI (1+(((n_.tmod 6)+6).tmod 6))),(9,.slice a_4 ((List.replicate (1+(((n_.tmod 6)+6).tmod 6)).toNat (0:Int)).length) c_5),(10,vI 0)] [.sl ka kc encP 0 1 ps 68,Ee1326 a_2 c_3 (many++[(1+(((n_.tmod 6)+6).tmod 6))]),E72be0 (ps.getD i.toNat 0) pv sv rv ra ret.length rc ((many++[(1+(((n_.tmod 6)+6).tmod 6))]).length),Ed2706 x c (vP ba) (vP rb) ka ps.length kc a_2 ((many++[(1+(((n_.tmod 6)+6).tmod 6))]).length) c_3 now,E99bbc rb B false 0,E35fb1 B,.pts b_1 [vI (1+(((n_.tmod 6)+6).tmod 6))] 3,E54ea0 a_4 c_5 (List.replicate (1+(((n_.tmod 6)+6).tmod 6)).toNat (0:Int))] ?_)
 refine go_cast (tm':=[(0,vP x),(6,vP (ps.getD i.toNat 0)),(7,vI (ctlEpoch (B.ws.getD (ctlAt c 0).toNat 0))),(8,vI (1+(((n_.tmod 6)+6).tmod 6))),(9,.slice a_4 ((fillR (1+(((n_.tmod 6)+6).tmod 6)).toNat 0 ((((many++[(1+(((n_.tmod 6)+6).tmod 6))]).length):Nat):Int)).length) c_5),(10,vI 0)]) (L':=[.sl ka kc encP 0 1 ps 68,Ee1326 a_2 c_3 (many++[(1+(((n_.tmod 6)+6).tmod 6))]),E72be0 (ps.getD i.toNat 0) pv sv rv ra ret.length rc ((many++[(1+(((n_.tmod 6)+6).tmod 6))]).length),Ed2706 x c (vP ba) (vP rb) ka ps.length kc a_2 ((many++[(1+(((n_.tmod 6)+6).tmod 6))]).length) c_3 now,E99bbc rb B false 0,E35fb1 B,.pts b_1 [vI (1+(((n_.tmod 6)+6).tmod 6))] 3,E54ea0 a_4 c_5 (fillR (1+(((n_.tmod 6)+6).tmod 6)).toNat 0 ((((many++[(1+(((n_.tmod 6)+6).tmod 6))]).length):Nat):Int))]) (by rw [show(fillR (1+(((n_.tmod 6)+6).tmod 6)).toNat 0 ((((many++[(1+(((n_.tmod 6)+6).tmod 6))]).length):Nat):Int))=List.replicate (1+(((n_.tmod 6)+6).tmod 6)).toNat 0 from rfl]) ?_
 have hlen:∀j:Int,0≤j→j≤(1+(((n_.tmod 6)+6).tmod 6))→(fillR (1+(((n_.tmod 6)+6).tmod 6)).toNat j.toNat ((((many++[(1+(((n_.tmod 6)+6).tmod 6))]).length):Nat):Int)).length=(1+(((n_.tmod 6)+6).tmod 6)).toNat:=fun j h1 h2=>fillR_len (by omega)
 refine go_loop (ι := Int) (fun j=>[(0,vP x),(6,vP (ps.getD i.toNat 0)),(7,vI (ctlEpoch (B.ws.getD (ctlAt c 0).toNat 0))),(8,vI (1+(((n_.tmod 6)+6).tmod 6))),(9,.slice a_4 ((fillR (1+(((n_.tmod 6)+6).tmod 6)).toNat j.toNat ((((many++[(1+(((n_.tmod 6)+6).tmod 6))]).length):Nat):Int)).length) c_5),(10,vI j)]) (fun j=>[.sl ka kc encP 0 1 ps 68,Ee1326 a_2 c_3 (many++[(1+(((n_.tmod 6)+6).tmod 6))]),E72be0 (ps.getD i.toNat 0) pv sv rv ra ret.length rc ((many++[(1+(((n_.tmod 6)+6).tmod 6))]).length),Ed2706 x c (vP ba) (vP rb) ka ps.length kc a_2 ((many++[(1+(((n_.tmod 6)+6).tmod 6))]).length) c_3 now,E99bbc rb B false 0,E35fb1 B,.pts b_1 [vI (1+(((n_.tmod 6)+6).tmod 6))] 3,E54ea0 a_4 c_5 (fillR (1+(((n_.tmod 6)+6).tmod 6)).toNat j.toNat ((((many++[(1+(((n_.tmod 6)+6).tmod 6))]).length):Nat):Int))]) (fun j=>0≤j∧j≤(1+(((n_.tmod 6)+6).tmod 6))) (fun j=>((1+(((n_.tmod 6)+6).tmod 6))-j).toNat) 0 [0,6,7,8,9,10] [0,1,2,3,4,5,6,7] kR rfl rfl kR ⟨Int.le_refl 0,by omega⟩ ?_
 intro j J_6 hj hJ_6
 have hle:=hlen j hj.1 hj.2
 refine go_exec (rs:=[]) kR 4000 [.sp [110] [.e 2,.s 7,.j 7 j.toNat,.n,.z [] 0 [0,6,7,8,9,10]] [.z q87_12 0 [0,6,7,9]]] (o:=.br (decide (j<(1+(((n_.tmod 6)+6).tmod 6)))) (.obl ((ps.getD i.toNat 0)=(ps.getD i.toNat 0)) (.obl (a_4=a_4∧(fillR (1+(((n_.tmod 6)+6).tmod 6)).toNat j.toNat ((((many++[(1+(((n_.tmod 6)+6).tmod 6))]).length):Nat):Int)).length=(fillR (1+(((n_.tmod 6)+6).tmod 6)).toNat j.toNat ((((many++[(1+(((n_.tmod 6)+6).tmod 6))]).length):Nat):Int)).length) (.obl ((0:Int)≤j∧j<(((fillR (1+(((n_.tmod 6)+6).tmod 6)).toNat j.toNat ((((many++[(1+(((n_.tmod 6)+6).tmod 6))]).length):Nat):Int)).length:Nat):Int)) (.obl (slAt a_4 j.toNat 1=slAt a_4 j.toNat 1) (.obl (j.toNat<(fillR (1+(((n_.tmod 6)+6).tmod 6)).toNat j.toNat ((((many++[(1+(((n_.tmod 6)+6).tmod 6))]).length):Nat):Int)).length) (.ex fun x_7:Int=>.obl ([vU (((many++[(1+(((n_.tmod 6)+6).tmod 6))]).length:Nat):Int)]=(encI .u64) x_7) (.obl (InK .i64 (j+1)) (.stop [.j J_6,.b 0,.c q87_11] [(0,vP x),(6,vP (ps.getD i.toNat 0)),(7,vI (ctlEpoch (B.ws.getD (ctlAt c 0).toNat 0))),(8,vI (1+(((n_.tmod 6)+6).tmod 6))),(9,.slice a_4 ((fillR (1+(((n_.tmod 6)+6).tmod 6)).toNat j.toNat ((((many++[(1+(((n_.tmod 6)+6).tmod 6))]).length):Nat):Int)).length) c_5),(10,vI (j+1))] [.sl ka kc encP 0 1 ps 68,Ee1326 a_2 c_3 (many++[(1+(((n_.tmod 6)+6).tmod 6))]),E72be0 (ps.getD i.toNat 0) pv sv rv ra ret.length rc ((many++[(1+(((n_.tmod 6)+6).tmod 6))]).length),Ed2706 x c (vP ba) (vP rb) ka ps.length kc a_2 ((many++[(1+(((n_.tmod 6)+6).tmod 6))]).length) c_3 now,E99bbc rb B false 0,E35fb1 B,.pts b_1 [vI (1+(((n_.tmod 6)+6).tmod 6))] 3,E54ea0 a_4 c_5 ((fillR (1+(((n_.tmod 6)+6).tmod 6)).toNat j.toNat ((((many++[(1+(((n_.tmod 6)+6).tmod 6))]).length):Nat):Int)).set j.toNat x_7)])))))))) (.stop [.o q87_12 0,.c q87_13] [(0,vP x),(6,vP (ps.getD i.toNat 0)),(7,vI (ctlEpoch (B.ws.getD (ctlAt c 0).toNat 0))),(9,.slice a_4 ((fillR (1+(((n_.tmod 6)+6).tmod 6)).toNat j.toNat ((((many++[(1+(((n_.tmod 6)+6).tmod 6))]).length):Nat):Int)).length) c_5)] [.sl ka kc encP 0 1 ps 68,Ee1326 a_2 c_3 (many++[(1+(((n_.tmod 6)+6).tmod 6))]),E72be0 (ps.getD i.toNat 0) pv sv rv ra ret.length rc ((many++[(1+(((n_.tmod 6)+6).tmod 6))]).length),Ed2706 x c (vP ba) (vP rb) ka ps.length kc a_2 ((many++[(1+(((n_.tmod 6)+6).tmod 6))]).length) c_3 now,E99bbc rb B false 0,E35fb1 B,.pts b_1 [vI (1+(((n_.tmod 6)+6).tmod 6))] 3,E54ea0 a_4 c_5 (fillR (1+(((n_.tmod 6)+6).tmod 6)).toNat j.toNat ((((many++[(1+(((n_.tmod 6)+6).tmod 6))]).length):Nat):Int))])) kR ?_
 refine ok_br (fun h_8 => ?_) (fun h_8 => ?_)
 ·replace h_8:=decT h_8
  refine ok_obl rfl ?_
  refine ok_obl ⟨rfl,(by first | rfl | omega | (simp; done) | (simp; omega))⟩ ?_
  refine ok_obl (by omega) ?_
  refine ok_obl rfl ?_
  refine ok_obl (by omega) ?_
  refine ok_ex ((((many++[(1+(((n_.tmod 6)+6).tmod 6))]).length:Nat):Int):Int) ?_
  refine ok_obl rfl ?_
  refine ok_obl (by simp only [InK]; omega) ?_
  refine ok_stop ?_
  have hset:((fillR (1+(((n_.tmod 6)+6).tmod 6)).toNat j.toNat ((((many++[(1+(((n_.tmod 6)+6).tmod 6))]).length):Nat):Int))).set j.toNat ((((many++[(1+(((n_.tmod 6)+6).tmod 6))]).length):Nat):Int)=fillR (1+(((n_.tmod 6)+6).tmod 6)).toNat (j+1).toNat ((((many++[(1+(((n_.tmod 6)+6).tmod 6))]).length):Nat):Int):=by rw [fillR_set (by omega)]; congr 1; omega
  refine go_weak (tm':=[(0,vP x),(6,vP (ps.getD i.toNat 0)),(7,vI (ctlEpoch (B.ws.getD (ctlAt c 0).toNat 0))),(8,vI (1+(((n_.tmod 6)+6).tmod 6))),(9,.slice a_4 ((fillR (1+(((n_.tmod 6)+6).tmod 6)).toNat j.toNat ((((many++[(1+(((n_.tmod 6)+6).tmod 6))]).length):Nat):Int)).length) c_5),(10,vI (j+1))]) (L':=[.sl ka kc encP 0 1 ps 68,Ee1326 a_2 c_3 (many++[(1+(((n_.tmod 6)+6).tmod 6))]),E72be0 (ps.getD i.toNat 0) pv sv rv ra ret.length rc ((many++[(1+(((n_.tmod 6)+6).tmod 6))]).length),Ed2706 x c (vP ba) (vP rb) ka ps.length kc a_2 ((many++[(1+(((n_.tmod 6)+6).tmod 6))]).length) c_3 now,E99bbc rb B false 0,E35fb1 B,.pts b_1 [vI (1+(((n_.tmod 6)+6).tmod 6))] 3,E54ea0 a_4 c_5 ((fillR (1+(((n_.tmod 6)+6).tmod 6)).toNat j.toNat ((((many++[(1+(((n_.tmod 6)+6).tmod 6))]).length):Nat):Int)).set j.toNat (((many++[(1+(((n_.tmod 6)+6).tmod 6))]).length:Nat):Int))]) [0,6,7,8,9,10] [0,1,2,3,4,5,6,7] kR ?_
  refine go_cast (tm':=[(0,vP x),(6,vP (ps.getD i.toNat 0)),(7,vI (ctlEpoch (B.ws.getD (ctlAt c 0).toNat 0))),(8,vI (1+(((n_.tmod 6)+6).tmod 6))),(9,.slice a_4 ((fillR (1+(((n_.tmod 6)+6).tmod 6)).toNat (j+1).toNat ((((many++[(1+(((n_.tmod 6)+6).tmod 6))]).length):Nat):Int)).length) c_5),(10,vI (j+1))]) (L':=[.sl ka kc encP 0 1 ps 68,Ee1326 a_2 c_3 (many++[(1+(((n_.tmod 6)+6).tmod 6))]),E72be0 (ps.getD i.toNat 0) pv sv rv ra ret.length rc ((many++[(1+(((n_.tmod 6)+6).tmod 6))]).length),Ed2706 x c (vP ba) (vP rb) ka ps.length kc a_2 ((many++[(1+(((n_.tmod 6)+6).tmod 6))]).length) c_3 now,E99bbc rb B false 0,E35fb1 B,.pts b_1 [vI (1+(((n_.tmod 6)+6).tmod 6))] 3,E54ea0 a_4 c_5 (fillR (1+(((n_.tmod 6)+6).tmod 6)).toNat (j+1).toNat ((((many++[(1+(((n_.tmod 6)+6).tmod 6))]).length):Nat):Int))]) (by rw [hlen (j+1) (by omega) (by omega),←hset,hle]) ?_
  exact go_back hJ_6 (j+1) [0,1,2,3,4,5,6,7] kR kR kR ⟨by omega,by omega⟩ (by omega)
 ·replace h_8:=decF h_8
  refine ok_stop ?_
  have hfull:(fillR (1+(((n_.tmod 6)+6).tmod 6)).toNat j.toNat ((((many++[(1+(((n_.tmod 6)+6).tmod 6))]).length):Nat):Int))=(List.replicate (1+(((n_.tmod 6)+6).tmod 6)).toNat ((((many++[(1+(((n_.tmod 6)+6).tmod 6))]).length):Nat):Int)):=by rw [show j.toNat=(1+(((n_.tmod 6)+6).tmod 6)).toNat by omega]; exact fillR_all _ _
  refine go_cast (tm':=[(0,vP x),(6,vP (ps.getD i.toNat 0)),(7,vI (ctlEpoch (B.ws.getD (ctlAt c 0).toNat 0))),(9,.slice a_4 ((List.replicate (1+(((n_.tmod 6)+6).tmod 6)).toNat ((((many++[(1+(((n_.tmod 6)+6).tmod 6))]).length):Nat):Int)).length) c_5)]) (L':=[.sl ka kc encP 0 1 ps 68,Ee1326 a_2 c_3 (many++[(1+(((n_.tmod 6)+6).tmod 6))]),E72be0 (ps.getD i.toNat 0) pv sv rv ra ret.length rc ((many++[(1+(((n_.tmod 6)+6).tmod 6))]).length),Ed2706 x c (vP ba) (vP rb) ka ps.length kc a_2 ((many++[(1+(((n_.tmod 6)+6).tmod 6))]).length) c_3 now,E99bbc rb B false 0,E35fb1 B,.pts b_1 [vI (1+(((n_.tmod 6)+6).tmod 6))] 3,E54ea0 a_4 c_5 (List.replicate (1+(((n_.tmod 6)+6).tmod 6)).toNat ((((many++[(1+(((n_.tmod 6)+6).tmod 6))]).length):Nat):Int))]) (by rw [hfull]) ?_
  refine gX [.e 3,.z q87_12 7 [0,6,7,9,120,124,125,126]] (gQ x (gS [.o q87_12 7,.c q87_13] ?_))
  refine go_call (some 127) [7] Tryz.call12 (new_Pub c 0 (ctlEpoch (B.ws.getD (ctlAt c 0).toNat 0)) a_4 c_5 (List.replicate (1+(((n_.tmod 6)+6).tmod 6)).toNat ((((many++[(1+(((n_.tmod 6)+6).tmod 6))]).length):Nat):Int)) hc (by rw [List.length_replicate]; omega) hf (by omega)) kR ?_
  rintro v post ⟨p_9,k_10,bp_11,bt_12,wa_13,wc_14,rfl,rfl⟩
  refine gX [.e 2,.e 3,.z q87_13 7 [130,134,135,136]] (gQ (ps.getD i.toNat 0) (gQ x (gS [.o q87_13 7] ?_)))
  refine go_call (some 137) [] Tryz.call74 (rnew_Pub c 0 (ctlEpoch (B.ws.getD (ctlAt c 0).toNat 0)) a_4 ((List.replicate (1+(((n_.tmod 6)+6).tmod 6)).toNat ((((many++[(1+(((n_.tmod 6)+6).tmod 6))]).length):Nat):Int)).length) c_5 hc hf (by omega)) kR ?_
  rintro v post ⟨q_15,k_16,rfl,rfl⟩
  exact gX [.e 2] (gQ (ps.getD i.toNat 0) (gJ [3,0,1,2,4,5,8,9,10,11,12,7,13,14] ⟨a_2,c_3,a_4,c_5,p_9,k_10,bp_11,bt_12,wa_13,wc_14,q_15,k_16,rfl,rfl⟩))
end Go.Proofs.YtpcaijopodhdgaaGreatDoor
namespace Go.Proofs.YtpcaijopodhdgaaGreatDoor
open Go.Sx
abbrev Eff665(x0:Nat)(x1:Value)(x2:Value)(x3:Value)(x4:Value)(x5:Option Addr)(x6:Nat)(x7:Nat)(x8:Int): Ent:=.pts x0 [x1,.pointer none,.pointer none,x2,x3,x4,.slice x5 x6 x7,.int .u64 x8] 74
structure KlH where
 pv:Value
 sv:Value
 rv:Value
 ra:Option Addr
 rc:Nat
 y:Nat
noncomputable def klL(c:Cfg)(p:Nat)(k:Kc)(h:KlH): List Ent:=match k.d with
 | .idle=>[E4463d p h.pv h.sv h.rv h.ra k.ret.length h.rc k.id,Ee1326 h.ra h.rc k.ret]
 | .pub ep ws S=>[Eff665 p (vP h.y) h.pv h.sv h.rv h.ra k.ret.length h.rc k.id,Ee1326 h.ra h.rc k.ret,.res (PbR h.y c (ctlAt c 0) ep ws S)]
 | .scan S=>[Eb05f6 p (vP h.y) h.pv h.sv h.rv h.ra k.ret.length h.rc k.id,Ee1326 h.ra h.rc k.ret,.res (ScanR h.y c S)]
 | .read cl ep S=>[E70a74 p (vP h.y) h.pv h.sv h.rv h.ra k.ret.length h.rc k.id,Ee1326 h.ra h.rc k.ret,.res (RdR h.y c cl 0 ep S)]
noncomputable def KlR(c:Cfg)(p:Nat)(k:Kc): Res:=Box (fun _:KlH=>True) (klL c p k)
noncomputable abbrev KsR(ps:List Nat)(ks:List Kc)(c:Cfg): Res:=AllR (KlR c) (ps.zip ks)
noncomputable abbrev KsX(ps:List Nat)(ks:List Kc)(n:Nat)(c:Cfg): Res:=AllR (KlR c) ((ps.zip ks).eraseIdx n)
theorem zip_at{ps:List Nat}{ks:List Kc}(n:Nat)(h1:n<ps.length)(h2:n<ks.length): (ps.zip ks).getD n (0,dK)=(ps.getD n 0,ks.getD n dK):=by
 have h:n<(ps.zip ks).length:=by rw [List.length_zip]; omega
 simp [List.getD_eq_getElem?_getD,h1,h2,List.getElem?_eq_getElem h]
theorem zip_put{ps:List Nat}{ks:List Kc}(n:Nat)(k:Kc): (ps.zip ks).set n (ps.getD n 0,k)=ps.zip (ks.set n k):=by
 induction ps generalizing ks n with
 | nil=>simp
 | cons p ps ih=>
  cases ks with
  | nil=>simp
  | cons q ks=>
   cases n with
   | zero=>simp
   | succ n=>simpa using ih n
theorem ks_focus{L:List Ent}{ps:List Nat}{ks:List Kc}{c:Cfg}(j n:Nat)(h1:n<ps.length)(h2:n<ks.length)(h:(pick L [j],places L.length [j])=([.res (KsR ps ks c)],true):=by kernel_rfl):
  View L (dropAt L [j]++[.res (KlR c (ps.getD n 0) (ks.getD n dK)),.res (KsX ps ks n c)]):=by
 have hv:=view_focus (M:=dropAt L [j]) (pred:=KlR c) (qs:=ps.zip ks) j n (0,dK) (by rw [List.length_zip]; omega) (by rw [Prod.mk.injEq] at h; rw [h.1,h.2])
 rw [zip_at n h1 h2] at hv
 exact hv
theorem ks_unfocus{L:List Ent}{ps:List Nat}{ks:List Kc}{c:Cfg}(i j n:Nat)(k:Kc)(h1:n<ps.length)(h2:n<ks.length)(h:(pick L [i,j],places L.length [i,j])=([.res (KlR c (ps.getD n 0) k),.res (KsX ps ks n c)],true):=by kernel_rfl):
  View L (dropAt L [i,j]++[.res (KsR ps (ks.set n k) c)]):=by
 have hv:=view_unfocus (M:=dropAt L [i,j]) (pred:=KlR c) (qs:=ps.zip ks) i j n (ps.getD n 0) k (by rw [List.length_zip]; omega) (by rw [Prod.mk.injEq] at h; rw [h.1,h.2])
 rw [zip_put] at hv
 exact hv
theorem ks_back{L:List Ent}{ps:List Nat}{ks:List Kc}{c:Cfg}(i j n:Nat)(k:Kc)(hk:ks.getD n dK=k)(h1:n<ps.length)(h2:n<ks.length)(h:(pick L [i,j],places L.length [i,j])=([.res (KlR c (ps.getD n 0) k),.res (KsX ps ks n c)],true):=by kernel_rfl):
  View L (dropAt L [i,j]++[.res (KsR ps ks c)]):=by
 have hv:=ks_unfocus i j n k h1 h2 h
 have e:ks.set n k=ks:=by
  rw [←hk,List.getD_eq_getElem?_getD,List.getElem?_eq_getElem h2]
  exact List.set_getElem_self h2
 rw [e] at hv
 exact hv
theorem w_step(o_:Obj)(c:Cfg)(x ba rb:Nat)(now:Int)(ka ma:Option Addr)(kc mc:Nat)(ps:List Nat)(many:List Int)(A:Ar)(i:Int)(ks:List Kc)(ho:IsH o_)(hc:c.Ok)(hn:A.ws.length=A.n)(hs:0≤A.steps∧A.steps≤1000000)(hz:(A.n:Int)=sizeOfC c)(hR:RngW A.ws)(hi:0≤i∧i<4)(hps:ps.length=4)(hks:ks.length=4)(hK:Kc.Ok c A i (ks.getD i.toNat dK)):
  Ctr Tryz.prog 29 #[vP x,vI i] [.raw 0 o_,Ed2706 x c (vP ba) (vP rb) ka ps.length kc ma many.length mc now,.sl ka kc encP 0 1 ps 68,E3504b ba A,E35fb1 A,.res (KsR ps ks c)] (fun v L => ∃(a2:Option Addr) (c2:Nat),v = .tuple #[.slice a2 (((ks.getD i.toNat dK).step c now A).t.l.length) c2,vI (((ks.getD i.toNat dK).step c now A).t.e),.bool (((ks.getD i.toNat dK).step c now A).t.done)]∧L=[.raw 0 o_,Ed2706 x c (vP ba) (vP rb) ka ps.length kc ma many.length mc (((ks.getD i.toNat dK).step c now A).now),.sl ka kc encP 0 1 ps 68,E3504b ba (((ks.getD i.toNat dK).step c now A).A),E35fb1 (((ks.getD i.toNat dK).step c now A).A),.res (KsR ps (ks.set i.toNat ((ks.getD i.toNat dK).step c now A).k) c),E54ea0 a2 c2 (((ks.getD i.toNat dK).step c now A).t.l)]):=by
 have hc':=hc
 simp only [Cfg.Ok] at hc'
 have hsz:=sizeOfC_ok hc
 have htp:(0:Int)≤0∧(0:Int)<c.topics:=by omega
 refine ctr_view (ks_focus 5 i.toNat (ps:=ps) (ks:=ks) (c:=c) (by omega) (by omega)) ?_
 generalize hk:ks.getD i.toNat dK=k at hK
 refine oC (I:=fun _:KlH=>True) (LL:=klL c (ps.getD i.toNat 0) k) 5 ?_
 rintro⟨pv,sv,rv,ra,rc,y⟩ -
 obtain⟨d,ret,id_⟩:=k
 have hl:=hK.1
 have hK2:=hK.2
 cases d with
 | idle=>
  have e:Kc.step c now ⟨.idle,ret,id_⟩ A=⟨⟨.idle,ret,id_⟩,A,now,⟨[],1,true⟩⟩:=by rfl
  rw [e]
  refine cP [1,2,6] (w_stepI c x ba rb now ka ma kc mc ps many A i pv sv rv ra rc id_ ret hi hps) ?_
  rintro v post ⟨rfl,rfl⟩
  exact⟨_,(((vK (fun _:KlH=>True) (klL c (ps.getD i.toNat 0) ⟨.idle,ret,id_⟩) ⟨pv,sv,rv,ra,rc,y⟩ [7,4] trivial).trans (ks_unfocus (ps:=ps) (ks:=ks) (c:=c) 6 3 i.toNat ⟨.idle,ret,id_⟩ (by omega) (by omega))).trans (view_nil (encI .u64) 0 1 60 (sizedI _))).trans (vQ [0,3,4,1,2,5,6]),none,0,rfl,rfl⟩
 | pub ep ws S=>
  have hS:=hK2.1
  by_cases hd:(S.step c (ctlAt c 0) ep ws A).1.ph=0
  ·have hcd:0≤(S.step c (ctlAt c 0) ep ws A).1.code:=((pb_step (k:=A.steps) (at_:=ctlAt c 0) (ep:=ep) hc hK2.2.1 hS ⟨hn,hz,hR,hs.1,Int.le_refl _⟩).1).c0
   by_cases ho1:(Pb.told (S.step c (ctlAt c 0) ep ws A).1).1>0
   ·by_cases hk1:(Pb.told (S.step c (ctlAt c 0) ep ws A).1).2=0
    ·skip
     have e:Kc.step c now ⟨.pub ep ws S,ret,id_⟩ A=⟨⟨.idle,ret++[(Pb.told (S.step c (ctlAt c 0) ep ws A).1).1],id_⟩,(S.step c (ctlAt c 0) ep ws A).2,id_,⟨[],(Pb.told (S.step c (ctlAt c 0) ep ws A).1).2,true⟩⟩:=by unfold Kc.step; simp only; rw [if_pos hd,if_pos ho1,if_pos hk1]
     rw [e]
     refine cP [0,1,2,6,7,8,3,4] (w_stepPDYK c x ba rb now ka ma kc mc ps many A i pv sv rv ra rc id_ ret y (ctlAt c 0) ep ws S (.pointer none) (.pointer none) o_ hi hps hc hn (by omega) hz hR (by have:=ctl0_ok hc; omega) hS hd ho1 hk1 hl ho) ?_
     rintro v post ⟨ra2_1,rc2_2,rfl,rfl⟩
     exact⟨_,(((vK (fun _:KlH=>True) (klL c (ps.getD i.toNat 0) ⟨.idle,ret++[(Pb.told (S.step c (ctlAt c 0) ep ws A).1).1],id_⟩) ⟨pv,sv,rv,ra2_1,rc2_2,y⟩ [4,5] trivial).trans (ks_unfocus (ps:=ps) (ks:=ks) (c:=c) 7 0 i.toNat ⟨.idle,ret++[(Pb.told (S.step c (ctlAt c 0) ep ws A).1).1],id_⟩ (by omega) (by omega))).trans (view_nil (encI .u64) 0 1 60 (sizedI _))).trans (vQ [0,1,2,4,5,6,7]),none,0,rfl,rfl⟩
    ·skip
     have e:Kc.step c now ⟨.pub ep ws S,ret,id_⟩ A=⟨⟨.idle,ret++[(Pb.told (S.step c (ctlAt c 0) ep ws A).1).1],id_⟩,(S.step c (ctlAt c 0) ep ws A).2,now,⟨[],(Pb.told (S.step c (ctlAt c 0) ep ws A).1).2,true⟩⟩:=by unfold Kc.step; simp only; rw [if_pos hd,if_pos ho1,if_neg hk1]
     rw [e]
     refine cP [0,1,2,6,7,8,3,4] (w_stepPDYE c x ba rb now ka ma kc mc ps many A i pv sv rv ra rc id_ ret y (ctlAt c 0) ep ws S (.pointer none) (.pointer none) o_ hi hps hc hn (by omega) hz hR (by have:=ctl0_ok hc; omega) hS hd ho1 hk1 hl ho) ?_
     rintro v post ⟨ra2_1,rc2_2,rfl,rfl⟩
     exact⟨_,(((vK (fun _:KlH=>True) (klL c (ps.getD i.toNat 0) ⟨.idle,ret++[(Pb.told (S.step c (ctlAt c 0) ep ws A).1).1],id_⟩) ⟨pv,sv,rv,ra2_1,rc2_2,y⟩ [4,5] trivial).trans (ks_unfocus (ps:=ps) (ks:=ks) (c:=c) 7 0 i.toNat ⟨.idle,ret++[(Pb.told (S.step c (ctlAt c 0) ep ws A).1).1],id_⟩ (by omega) (by omega))).trans (view_nil (encI .u64) 0 1 60 (sizedI _))).trans (vQ [0,1,2,4,5,6,7]),none,0,rfl,rfl⟩
   ·by_cases hk1:(Pb.told (S.step c (ctlAt c 0) ep ws A).1).2=0
    ·skip
     have e:Kc.step c now ⟨.pub ep ws S,ret,id_⟩ A=⟨⟨.idle,ret,id_⟩,(S.step c (ctlAt c 0) ep ws A).2,id_,⟨[],(Pb.told (S.step c (ctlAt c 0) ep ws A).1).2,true⟩⟩:=by unfold Kc.step; simp only; rw [if_pos hd,if_neg ho1,if_pos hk1]
     rw [e]
     refine cP [0,1,2,6,7,8,3,4] (w_stepPDNK c x ba rb now ka ma kc mc ps many A i pv sv rv ra rc id_ ret y (ctlAt c 0) ep ws S (.pointer none) (.pointer none) o_ hi hps hc hn (by omega) hz hR (by have:=ctl0_ok hc; omega) hS hd ho1 hk1 hl ho) ?_
     rintro v post ⟨rfl,rfl⟩
     exact⟨_,(((vK (fun _:KlH=>True) (klL c (ps.getD i.toNat 0) ⟨.idle,ret,id_⟩) ⟨pv,sv,rv,ra,rc,y⟩ [4,5] trivial).trans (ks_unfocus (ps:=ps) (ks:=ks) (c:=c) 7 0 i.toNat ⟨.idle,ret,id_⟩ (by omega) (by omega))).trans (view_nil (encI .u64) 0 1 60 (sizedI _))).trans (vQ [0,1,2,4,5,6,7]),none,0,rfl,rfl⟩
    ·skip
     have e:Kc.step c now ⟨.pub ep ws S,ret,id_⟩ A=⟨⟨.idle,ret,id_⟩,(S.step c (ctlAt c 0) ep ws A).2,now,⟨[],(Pb.told (S.step c (ctlAt c 0) ep ws A).1).2,true⟩⟩:=by unfold Kc.step; simp only; rw [if_pos hd,if_neg ho1,if_neg hk1]
     rw [e]
     refine cP [0,1,2,6,7,8,3,4] (w_stepPDNE c x ba rb now ka ma kc mc ps many A i pv sv rv ra rc id_ ret y (ctlAt c 0) ep ws S (.pointer none) (.pointer none) o_ hi hps hc hn (by omega) hz hR (by have:=ctl0_ok hc; omega) hS hd ho1 hk1 hl ho) ?_
     rintro v post ⟨rfl,rfl⟩
     exact⟨_,(((vK (fun _:KlH=>True) (klL c (ps.getD i.toNat 0) ⟨.idle,ret,id_⟩) ⟨pv,sv,rv,ra,rc,y⟩ [4,5] trivial).trans (ks_unfocus (ps:=ps) (ks:=ks) (c:=c) 7 0 i.toNat ⟨.idle,ret,id_⟩ (by omega) (by omega))).trans (view_nil (encI .u64) 0 1 60 (sizedI _))).trans (vQ [0,1,2,4,5,6,7]),none,0,rfl,rfl⟩
  ·skip
   have e:Kc.step c now ⟨.pub ep ws S,ret,id_⟩ A=⟨⟨.pub ep ws (S.step c (ctlAt c 0) ep ws A).1,ret,id_⟩,(S.step c (ctlAt c 0) ep ws A).2,now,⟨[],0,false⟩⟩:=by unfold Kc.step; simp only; rw [if_neg hd]
   rw [e]
   refine cP [1,2,6,8,3,4] (w_stepPN c x ba rb now ka ma kc mc ps many A i pv sv rv ra rc id_ ret y (ctlAt c 0) ep ws S (.pointer none) (.pointer none) hi hps hc hn (by omega) hz hR (by have:=ctl0_ok hc; omega) hS hd) ?_
   rintro v post ⟨rfl,rfl⟩
   exact⟨_,(((vK (fun _:KlH=>True) (klL c (ps.getD i.toNat 0) ⟨.pub ep ws (S.step c (ctlAt c 0) ep ws A).1,ret,id_⟩) ⟨pv,sv,rv,ra,rc,y⟩ [5,2,6] trivial).trans (ks_unfocus (ps:=ps) (ks:=ks) (c:=c) 6 1 i.toNat ⟨.pub ep ws (S.step c (ctlAt c 0) ep ws A).1,ret,id_⟩ (by omega) (by omega))).trans (view_nil (encI .u64) 0 1 60 (sizedI _))).trans (vQ [0,1,2,3,4,5,6]),none,0,rfl,rfl⟩
 | scan S=>
  have hA:A.Ok c:=ArW.ok ⟨hn,hz,hR,hs.1,Int.le_refl _⟩ (by omega)
  have hS:=hK2.1.ok hc hz
  have hl:=(sc_step hc hK2.1 (k:=A.steps) ⟨hn,hz,hR,hs.1,Int.le_refl _⟩).1.len
  have hl:(S.step c A).1.kept.length+(S.step c A).1.left.length≤100:=by omega
  cases hd:Sc.done c (S.step c A).1 with
  | true=>
   have e:Kc.step c now ⟨.scan S,ret,id_⟩ A=⟨⟨.idle,((S.step c A).1.kept++(S.step c A).1.left),id_⟩,(S.step c A).2,now,⟨[],0,true⟩⟩:=by unfold Kc.step; simp only; rw [hd]; rfl
   rw [e]
   refine cP [1,2,6,8,3,4] (w_stepSD c x ba rb now ka ma kc mc ps many A i pv sv rv ra rc id_ ret y S (.pointer none) hi hps hc hS hA hl hd) ?_
   rintro v post ⟨ra2_1,rc2_2,rfl,rfl⟩
   exact⟨_,(((vK (fun _:KlH=>True) (klL c (ps.getD i.toNat 0) ⟨.idle,((S.step c A).1.kept++(S.step c A).1.left),id_⟩) ⟨pv,sv,rv,ra2_1,rc2_2,y⟩ [5,6] trivial).trans (ks_unfocus (ps:=ps) (ks:=ks) (c:=c) 8 1 i.toNat ⟨.idle,((S.step c A).1.kept++(S.step c A).1.left),id_⟩ (by omega) (by omega))).trans (view_nil (encI .u64) 0 1 60 (sizedI _))).trans (vQ [0,2,3,5,6,7,8]),none,0,rfl,rfl⟩
  | false=>
   have e:Kc.step c now ⟨.scan S,ret,id_⟩ A=⟨⟨.scan (S.step c A).1,((S.step c A).1.kept++(S.step c A).1.left),id_⟩,(S.step c A).2,now,⟨[],0,false⟩⟩:=by unfold Kc.step; simp only; rw [hd]; rfl
   rw [e]
   refine cP [1,2,6,8,3,4] (w_stepSN c x ba rb now ka ma kc mc ps many A i pv sv rv ra rc id_ ret y S (.pointer none) hi hps hc hS hA hl hd) ?_
   rintro v post ⟨ra2_1,rc2_2,rfl,rfl⟩
   exact⟨_,(((vK (fun _:KlH=>True) (klL c (ps.getD i.toNat 0) ⟨.scan (S.step c A).1,((S.step c A).1.kept++(S.step c A).1.left),id_⟩) ⟨pv,sv,rv,ra2_1,rc2_2,y⟩ [5,6,7] trivial).trans (ks_unfocus (ps:=ps) (ks:=ks) (c:=c) 7 1 i.toNat ⟨.scan (S.step c A).1,((S.step c A).1.kept++(S.step c A).1.left),id_⟩ (by omega) (by omega))).trans (view_nil (encI .u64) 0 1 60 (sizedI _))).trans (vQ [0,2,3,4,5,6,7]),none,0,rfl,rfl⟩
 | read cl ep S=>
  have hS:=hK2.1
  have hC:=hK2.2.2.1
  by_cases hd:(S.step c cl 0 ep A).1.ph=0
  ·have hl:=(rd_step (ep:=ep) hc hS (k:=A.steps) ⟨hn,hz,hR,hs.1,Int.le_refl _⟩ htp hC).1.wl
   have e:Kc.step c now ⟨.read cl ep S,ret,id_⟩ A=⟨⟨.idle,ret,id_⟩,(S.step c cl 0 ep A).2,now,⟨(Rd.told (S.step c cl 0 ep A).1).1,(Rd.told (S.step c cl 0 ep A).1).2,true⟩⟩:=by unfold Kc.step; simp only; rw [if_pos hd]
   rw [e]
   refine cP [0,1,2,6,8,3,4] (w_stepRD c x ba rb now ka ma kc mc ps many A i pv sv rv ra rc id_ ret y cl 0 ep S o_ hi hps hc hn (by omega) hz hR htp hC hS ho hd hl) ?_
   rintro v post ⟨a2_1,c2_2,rfl,rfl⟩
   exact⟨_,((vK (fun _:KlH=>True) (klL c (ps.getD i.toNat 0) ⟨.idle,ret,id_⟩) ⟨pv,sv,rv,ra,rc,y⟩ [5,1] trivial).trans (ks_unfocus (ps:=ps) (ks:=ks) (c:=c) 8 0 i.toNat ⟨.idle,ret,id_⟩ (by omega) (by omega))).trans (vQ [0,1,2,5,6,7,4]),a2_1,c2_2,rfl,rfl⟩
  ·skip
   have e:Kc.step c now ⟨.read cl ep S,ret,id_⟩ A=⟨⟨.read cl ep (S.step c cl 0 ep A).1,ret,id_⟩,(S.step c cl 0 ep A).2,now,⟨[],0,false⟩⟩:=by unfold Kc.step; simp only; rw [if_neg hd]
   rw [e]
   refine cP [0,1,2,6,8,3,4] (w_stepRN c x ba rb now ka ma kc mc ps many A i pv sv rv ra rc id_ ret y cl 0 ep S o_ hi hps hc hn (by omega) hz hR htp hC hS ho hd) ?_
   rintro v post ⟨rfl,rfl⟩
   exact⟨_,(((vK (fun _:KlH=>True) (klL c (ps.getD i.toNat 0) ⟨.read cl ep (S.step c cl 0 ep A).1,ret,id_⟩) ⟨pv,sv,rv,ra,rc,y⟩ [5,1,6] trivial).trans (ks_unfocus (ps:=ps) (ks:=ks) (c:=c) 6 0 i.toNat ⟨.read cl ep (S.step c cl 0 ep A).1,ret,id_⟩ (by omega) (by omega))).trans (view_nil (encI .u64) 0 1 60 (sizedI _))).trans (vQ [0,1,2,3,4,5,6]),none,0,rfl,rfl⟩
theorem w_begin(c:Cfg)(x ba rb:Nat)(now:Int)(ka ma:Option Addr)(kc mc:Nat)(ps:List Nat)(many:List Int)(B:Ar)(i n_:Int)(ks:List Kc)(hi:0≤i∧i<4)(hps:ps.length=4)(hc:c.Ok)(hnB:B.ws.length=B.n)(hzB:(B.n:Int)=sizeOfC c)(hwB:U64 (B.ws.getD (ctlAt c 0).toNat 0))(hml:many.length≤2000)(hcl:c.clients=4∧c.s0=4∧c.s1=6)(hks:ks.length=4)(hG:goodRow c (ks.getD i.toNat dK).ret∧(ks.getD i.toNat dK).ret.length≤100):
  Ctr Tryz.prog 28 #[vP x,vI i,vI n_] [Ed2706 x c (vP ba) (vP rb) ka ps.length kc ma many.length mc now,.sl ka kc encP 0 1 ps 68,Ee1326 ma mc many,E99bbc rb B false 0,E35fb1 B,.res (KsR ps ks c)] (fun v L => ∃(ma2:Option Addr) (mc2:Nat),v=undef∧L=[Ed2706 x c (vP ba) (vP rb) ka ps.length kc ma2 (((ks.getD i.toNat dK).beginD c (ctlEpoch (B.ws.getD (ctlAt c 0).toNat 0)) many i n_).2.length) mc2 now,.sl ka kc encP 0 1 ps 68,Ee1326 ma2 mc2 (((ks.getD i.toNat dK).beginD c (ctlEpoch (B.ws.getD (ctlAt c 0).toNat 0)) many i n_).2),E99bbc rb B false 0,E35fb1 B,.res (KsR ps (ks.set i.toNat ((ks.getD i.toNat dK).beginD c (ctlEpoch (B.ws.getD (ctlAt c 0).toNat 0)) many i n_).1) c)]):=by
 refine ctr_view (ks_focus 5 i.toNat (ps:=ps) (ks:=ks) (c:=c) (by omega) (by omega)) ?_
 generalize hk:ks.getD i.toNat dK=k at hG
 refine oC (I:=fun _:KlH=>True) (LL:=klL c (ps.getD i.toNat 0) k) 5 ?_
 rintro⟨pv,sv,rv,ra,rc,y⟩ -
 obtain⟨d,ret,id_⟩:=k
 simp only at hG
 cases d with
 | idle=>
  by_cases hi2:i≥2
  ·skip
   have e:Kc.beginD c (ctlEpoch (B.ws.getD (ctlAt c 0).toNat 0)) many i n_ ⟨.idle,ret,id_⟩=(⟨.read i (ctlEpoch (B.ws.getD (ctlAt c 0).toNat 0)) (newRd i),ret,id_⟩,many):=by unfold Kc.beginD; simp only; rw [if_pos hi2]
   rw [e]
   refine cP [0,1,6,3,4] (w_beginNR c x ba rb now ka ma kc mc ps many B i n_ pv sv rv ra rc id_ ret hi hps hc hnB hzB hwB hi2 (by omega)) ?_
   rintro v post ⟨y_1,k_2,b1_3,b2_4,b3_5,b4_6,b5_7,b6_8,q_9,k2_10,rfl,rfl⟩
   exact⟨_,(((((view_nil (encI .u64) 0 1 60 (sizedI _)).trans (vC [9,10,11,12,13,14,15])).trans (vK (fun _:RdH=>True) (rdL y_1 c i 0 (ctlEpoch (B.ws.getD (ctlAt c 0).toNat 0)) (newRd i)) ⟨.nilFunc,.nilFunc,none,0,k_2,b1_3,b2_4,b3_5,b4_6,b5_7,b6_8,0,0,0,0,0,0⟩ [8,11,12] trivial)).trans (vK (fun _:KlH=>True) (klL c (ps.getD i.toNat 0) ⟨.read i (ctlEpoch (B.ws.getD (ctlAt c 0).toNat 0)) (newRd i),ret,id_⟩) ⟨pv,sv,vP q_9,ra,rc,y_1⟩ [5,2,10] trivial)).trans (ks_unfocus (ps:=ps) (ks:=ks) (c:=c) 8 1 i.toNat ⟨.read i (ctlEpoch (B.ws.getD (ctlAt c 0).toNat 0)) (newRd i),ret,id_⟩ (by omega) (by omega))).trans (vQ [1,2,0,3,4,7]),ma,mc,rfl,rfl⟩
  ·have hm7:=msz_rng n_
   have hf:fitK c (((List.replicate (1+(((n_.tmod 6)+6).tmod 6)).toNat ((((many++[(1+(((n_.tmod 6)+6).tmod 6))]).length):Nat):Int)).length:Nat):Int)≠-1:=by
    have e:(((List.replicate (1+(((n_.tmod 6)+6).tmod 6)).toNat ((((many++[(1+(((n_.tmod 6)+6).tmod 6))]).length):Nat):Int)).length:Nat):Int)=msz n_:=by rw [List.length_replicate]; show((msz n_).toNat:Int)=msz n_; omega
    rw [e]; unfold fitK; rw [if_neg (by omega)]; split
    ·omega
    ·rw [if_pos (by omega)]; omega
   by_cases h3:bAnd .i64 n_ 3=0
   ·by_cases hl0:((ret.length:Nat):Int)>0
    ·have hin:=good_in hc hG.1
     have e:Kc.beginD c (ctlEpoch (B.ws.getD (ctlAt c 0).toNat 0)) many i n_ ⟨.idle,ret,id_⟩=(⟨.scan (newSc ret),ret,id_⟩,many):=by unfold Kc.beginD; simp only; rw [if_neg hi2,if_pos ⟨h3,fun h=>by rw [h] at hl0; simp at hl0⟩]
     rw [e]
     refine cP [0,1,6,7,3,4] (w_beginNSok c x ba rb now ka ma kc mc ps many B i n_ pv sv rv ra rc id_ ret hi hps hc hnB hzB hwB hi2 h3 hl0 hG.2 hin (newOk_iff.2 hG.1) hG.1) ?_
     rintro v post ⟨y_1,q_2,rfl,rfl⟩
     exact⟨_,((vK (fun _:KlH=>True) (klL c (ps.getD i.toNat 0) ⟨.scan (newSc ret),ret,id_⟩) ⟨pv,vP q_2,rv,ra,rc,y_1⟩ [4,5,8] trivial).trans (ks_unfocus (ps:=ps) (ks:=ks) (c:=c) 7 1 i.toNat ⟨.scan (newSc ret),ret,id_⟩ (by omega) (by omega))).trans (vQ [1,2,0,3,4,6]),ma,mc,rfl,rfl⟩
    ·skip
     have e:Kc.beginD c (ctlEpoch (B.ws.getD (ctlAt c 0).toNat 0)) many i n_ ⟨.idle,ret,id_⟩=(⟨.pub (ctlEpoch (B.ws.getD (ctlAt c 0).toNat 0)) (List.replicate (1+(((n_.tmod 6)+6).tmod 6)).toNat ((((many++[(1+(((n_.tmod 6)+6).tmod 6))]).length):Nat):Int)) (newPb (fitK c (((List.replicate (1+(((n_.tmod 6)+6).tmod 6)).toNat ((((many++[(1+(((n_.tmod 6)+6).tmod 6))]).length):Nat):Int)).length:Nat):Int))),ret,((((many++[(1+(((n_.tmod 6)+6).tmod 6))]).length):Nat):Int)⟩,many++[(1+(((n_.tmod 6)+6).tmod 6))]):=by unfold Kc.beginD; simp only; rw [if_neg hi2,if_neg (fun h=>h.2 (List.eq_nil_of_length_eq_zero (by omega)))]; rfl
     rw [e]
     refine cP [0,1,2,6,3,4] (w_beginNPe c x ba rb now ka ma kc mc ps many B i n_ pv sv rv ra rc id_ ret hi hps hc hnB hzB hwB hi2 h3 hl0 hml hf) ?_
     rintro v post ⟨ma2_1,mc2_2,la_3,lc_4,y_5,k_6,bp_7,bt_8,wa_9,wc_10,q_11,k2_12,rfl,rfl⟩
     exact⟨_,((((vC [9,10,11]).trans (vK (fun _:PbH=>True) (pbL y_5 c (ctlAt c 0) (ctlEpoch (B.ws.getD (ctlAt c 0).toNat 0)) (List.replicate (1+(((n_.tmod 6)+6).tmod 6)).toNat ((((many++[(1+(((n_.tmod 6)+6).tmod 6))]).length):Nat):Int)) (newPb (fitK c (((List.replicate (1+(((n_.tmod 6)+6).tmod 6)).toNat ((((many++[(1+(((n_.tmod 6)+6).tmod 6))]).length):Nat):Int)).length:Nat):Int)))) ⟨.nilFunc,.nilFunc,wa_9,wc_10,k_6,bp_7,bt_8,0,0,0,0,0,0,0⟩ [8,9,13] trivial)).trans (vK (fun _:KlH=>True) (klL c (ps.getD i.toNat 0) ⟨.pub (ctlEpoch (B.ws.getD (ctlAt c 0).toNat 0)) (List.replicate (1+(((n_.tmod 6)+6).tmod 6)).toNat ((((many++[(1+(((n_.tmod 6)+6).tmod 6))]).length):Nat):Int)) (newPb (fitK c (((List.replicate (1+(((n_.tmod 6)+6).tmod 6)).toNat ((((many++[(1+(((n_.tmod 6)+6).tmod 6))]).length):Nat):Int)).length:Nat):Int))),ret,((((many++[(1+(((n_.tmod 6)+6).tmod 6))]).length):Nat):Int)⟩) ⟨vP q_11,sv,rv,ra,rc,y_5⟩ [5,1,11] trivial)).trans (ks_unfocus (ps:=ps) (ks:=ks) (c:=c) 9 0 i.toNat ⟨.pub (ctlEpoch (B.ws.getD (ctlAt c 0).toNat 0)) (List.replicate (1+(((n_.tmod 6)+6).tmod 6)).toNat ((((many++[(1+(((n_.tmod 6)+6).tmod 6))]).length):Nat):Int)) (newPb (fitK c (((List.replicate (1+(((n_.tmod 6)+6).tmod 6)).toNat ((((many++[(1+(((n_.tmod 6)+6).tmod 6))]).length):Nat):Int)).length:Nat):Int))),ret,((((many++[(1+(((n_.tmod 6)+6).tmod 6))]).length):Nat):Int)⟩ (by omega) (by omega))).trans (vQ [0,1,2,3,4,8]),ma2_1,mc2_2,rfl,rfl⟩
   ·skip
    have e:Kc.beginD c (ctlEpoch (B.ws.getD (ctlAt c 0).toNat 0)) many i n_ ⟨.idle,ret,id_⟩=(⟨.pub (ctlEpoch (B.ws.getD (ctlAt c 0).toNat 0)) (List.replicate (1+(((n_.tmod 6)+6).tmod 6)).toNat ((((many++[(1+(((n_.tmod 6)+6).tmod 6))]).length):Nat):Int)) (newPb (fitK c (((List.replicate (1+(((n_.tmod 6)+6).tmod 6)).toNat ((((many++[(1+(((n_.tmod 6)+6).tmod 6))]).length):Nat):Int)).length:Nat):Int))),ret,((((many++[(1+(((n_.tmod 6)+6).tmod 6))]).length):Nat):Int)⟩,many++[(1+(((n_.tmod 6)+6).tmod 6))]):=by unfold Kc.beginD; simp only; rw [if_neg hi2,if_neg (fun h=>h3 h.1)]; rfl
    rw [e]
    refine cP [0,1,2,6,3,4] (w_beginNPx c x ba rb now ka ma kc mc ps many B i n_ pv sv rv ra rc id_ ret hi hps hc hnB hzB hwB hi2 h3 hml hf) ?_
    rintro v post ⟨ma2_1,mc2_2,la_3,lc_4,y_5,k_6,bp_7,bt_8,wa_9,wc_10,q_11,k2_12,rfl,rfl⟩
    exact⟨_,((((vC [9,10,11]).trans (vK (fun _:PbH=>True) (pbL y_5 c (ctlAt c 0) (ctlEpoch (B.ws.getD (ctlAt c 0).toNat 0)) (List.replicate (1+(((n_.tmod 6)+6).tmod 6)).toNat ((((many++[(1+(((n_.tmod 6)+6).tmod 6))]).length):Nat):Int)) (newPb (fitK c (((List.replicate (1+(((n_.tmod 6)+6).tmod 6)).toNat ((((many++[(1+(((n_.tmod 6)+6).tmod 6))]).length):Nat):Int)).length:Nat):Int)))) ⟨.nilFunc,.nilFunc,wa_9,wc_10,k_6,bp_7,bt_8,0,0,0,0,0,0,0⟩ [8,9,13] trivial)).trans (vK (fun _:KlH=>True) (klL c (ps.getD i.toNat 0) ⟨.pub (ctlEpoch (B.ws.getD (ctlAt c 0).toNat 0)) (List.replicate (1+(((n_.tmod 6)+6).tmod 6)).toNat ((((many++[(1+(((n_.tmod 6)+6).tmod 6))]).length):Nat):Int)) (newPb (fitK c (((List.replicate (1+(((n_.tmod 6)+6).tmod 6)).toNat ((((many++[(1+(((n_.tmod 6)+6).tmod 6))]).length):Nat):Int)).length:Nat):Int))),ret,((((many++[(1+(((n_.tmod 6)+6).tmod 6))]).length):Nat):Int)⟩) ⟨vP q_11,sv,rv,ra,rc,y_5⟩ [5,1,11] trivial)).trans (ks_unfocus (ps:=ps) (ks:=ks) (c:=c) 9 0 i.toNat ⟨.pub (ctlEpoch (B.ws.getD (ctlAt c 0).toNat 0)) (List.replicate (1+(((n_.tmod 6)+6).tmod 6)).toNat ((((many++[(1+(((n_.tmod 6)+6).tmod 6))]).length):Nat):Int)) (newPb (fitK c (((List.replicate (1+(((n_.tmod 6)+6).tmod 6)).toNat ((((many++[(1+(((n_.tmod 6)+6).tmod 6))]).length):Nat):Int)).length:Nat):Int))),ret,((((many++[(1+(((n_.tmod 6)+6).tmod 6))]).length):Nat):Int)⟩ (by omega) (by omega))).trans (vQ [0,1,2,3,4,8]),ma2_1,mc2_2,rfl,rfl⟩
 | pub ep ws S=>
  have e:Kc.beginD c (ctlEpoch (B.ws.getD (ctlAt c 0).toNat 0)) many i n_ ⟨.pub ep ws S,ret,id_⟩=(⟨.pub ep ws S,ret,id_⟩,many):=by rfl
  rw [e]
  refine cP [0,1,6] (w_beginP c x ba rb now ka ma kc mc ps many B i n_ pv sv rv ra rc id_ ret y (.pointer none) (.pointer none) hi hps) ?_
  rintro v post ⟨rfl,rfl⟩
  exact⟨_,((vK (fun _:KlH=>True) (klL c (ps.getD i.toNat 0) ⟨.pub ep ws S,ret,id_⟩) ⟨pv,sv,rv,ra,rc,y⟩ [8,4,5] trivial).trans (ks_unfocus (ps:=ps) (ks:=ks) (c:=c) 6 3 i.toNat ⟨.pub ep ws S,ret,id_⟩ (by omega) (by omega))).trans (vQ [3,4,0,1,2,5]),ma,mc,rfl,rfl⟩
 | scan S=>
  have e:Kc.beginD c (ctlEpoch (B.ws.getD (ctlAt c 0).toNat 0)) many i n_ ⟨.scan S,ret,id_⟩=(⟨.scan S,ret,id_⟩,many):=by rfl
  rw [e]
  refine cP [0,1,6] (w_beginS c x ba rb now ka ma kc mc ps many B i n_ pv sv rv ra rc id_ ret y (.pointer none) hi hps) ?_
  rintro v post ⟨rfl,rfl⟩
  exact⟨_,((vK (fun _:KlH=>True) (klL c (ps.getD i.toNat 0) ⟨.scan S,ret,id_⟩) ⟨pv,sv,rv,ra,rc,y⟩ [8,4,5] trivial).trans (ks_unfocus (ps:=ps) (ks:=ks) (c:=c) 6 3 i.toNat ⟨.scan S,ret,id_⟩ (by omega) (by omega))).trans (vQ [3,4,0,1,2,5]),ma,mc,rfl,rfl⟩
 | read cl ep S=>
  have e:Kc.beginD c (ctlEpoch (B.ws.getD (ctlAt c 0).toNat 0)) many i n_ ⟨.read cl ep S,ret,id_⟩=(⟨.read cl ep S,ret,id_⟩,many):=by rfl
  rw [e]
  refine cP [0,1,6] (w_beginR c x ba rb now ka ma kc mc ps many B i n_ pv sv rv ra rc id_ ret y hi hps) ?_
  rintro v post ⟨rfl,rfl⟩
  exact⟨_,((vK (fun _:KlH=>True) (klL c (ps.getD i.toNat 0) ⟨.read cl ep S,ret,id_⟩) ⟨pv,sv,rv,ra,rc,y⟩ [8,4,5] trivial).trans (ks_unfocus (ps:=ps) (ks:=ks) (c:=c) 6 3 i.toNat ⟨.read cl ep S,ret,id_⟩ (by omega) (by omega))).trans (vQ [3,4,0,1,2,5]),ma,mc,rfl,rfl⟩
theorem w_who(c:Cfg)(x ba rb:Nat)(now:Int)(ka ma:Option Addr)(kc mc:Nat)(ps:List Nat)(many:List Int)(A B:Ar)(wh n_:Int)(ks:List Kc)(hc:c.Ok)(hnB:B.ws.length=B.n)(hzB:(B.n:Int)=sizeOfC c)(hnA:A.ws.length=A.n)(hzA:(A.n:Int)=sizeOfC c)(hsA:0≤A.steps∧A.steps≤900000)(hsB:0≤B.steps∧B.steps≤900000)(hwB:U64 (B.ws.getD (ctlAt c 0).toNat 0))(hps:ps.length=4)(hks:ks.length=4)(hl:(ks.getD 0 dK).ret.length≤1000):
  Ctr Tryz.prog 27 #[vP x,.agg #[vI wh,vI n_]] [Ed2706 x c (vP ba) (vP rb) ka ps.length kc ma many.length mc now,.sl ka kc encP 0 1 ps 68,E3504b ba A,E35fb1 A,E99bbc rb B false 0,E35fb1 B,.res (KsR ps ks c)] (Ret (vI (((ks.getD 0 dK).whoD (B.ws.getD (ctlAt c 0).toNat 0) wh n_).1)) [Ed2706 x c (vP ba) (vP rb) ka ps.length kc ma many.length mc (bif ((ks.getD 0 dK).whoD (B.ws.getD (ctlAt c 0).toNat 0) wh n_).2.1 then 0 else now),.sl ka kc encP 0 1 ps 68,E3504b ba (bif ((ks.getD 0 dK).whoD (B.ws.getD (ctlAt c 0).toNat 0) wh n_).2.1 then(anewW c (B.ws.getD (ctlAt c 0).toNat 0) A) else A),E35fb1 (bif ((ks.getD 0 dK).whoD (B.ws.getD (ctlAt c 0).toNat 0) wh n_).2.1 then(anewW c (B.ws.getD (ctlAt c 0).toNat 0) A) else A),E99bbc rb (bif ((ks.getD 0 dK).whoD (B.ws.getD (ctlAt c 0).toNat 0) wh n_).2.1 then(anewW c (B.ws.getD (ctlAt c 0).toNat 0) B) else B) false 0,E35fb1 (bif ((ks.getD 0 dK).whoD (B.ws.getD (ctlAt c 0).toNat 0) wh n_).2.1 then(anewW c (B.ws.getD (ctlAt c 0).toNat 0) B) else B),.res (KsR ps (ks.set 0 ((ks.getD 0 dK).whoD (B.ws.getD (ctlAt c 0).toNat 0) wh n_).2.2) c)]):=by
 refine ctr_view (ks_focus 6 0 (ps:=ps) (ks:=ks) (c:=c) (by omega) (by omega)) ?_
 generalize hk:ks.getD 0 dK=k at hl
 refine oC (I:=fun _:KlH=>True) (LL:=klL c (ps.getD 0 0) k) 6 ?_
 rintro⟨pv,sv,rv,ra,rc,y⟩ -
 obtain⟨d,ret,id_⟩:=k
 simp only at hl
 cases d with
 | idle=>
  by_cases h4:bAnd .i64 wh 4=0
  ·skip
   have e:Kc.whoD (B.ws.getD (ctlAt c 0).toNat 0) ⟨.idle,ret,id_⟩ wh n_ = (bAnd .i64 wh 3,false,⟨.idle,ret,id_⟩):=by unfold Kc.whoD; simp only; rw [if_pos (.inl h4)]
   rw [e]
   refine cP [0] (w_whoa c x ba rb now (.slice ka ps.length kc) (.slice ma many.length mc) wh n_ h4) ?_
   rintro v post ⟨rfl,rfl⟩
   exact⟨_,((vK (fun _:KlH=>True) (klL c (ps.getD 0 0) ⟨.idle,ret,id_⟩) ⟨pv,sv,rv,ra,rc,y⟩ [6,7] trivial).trans (ks_unfocus (ps:=ps) (ks:=ks) (c:=c) 7 5 0 ⟨.idle,ret,id_⟩ (by omega) (by omega))).trans (vQ [5,0,1,2,3,4,6]),rfl,rfl⟩
  ·by_cases h15:bAnd .i64 n_ 15=0
   ·by_cases hbp:ctlBlock (B.ws.getD (ctlAt c 0).toNat 0)>0
    ·skip
     have e:Kc.whoD (B.ws.getD (ctlAt c 0).toNat 0) ⟨.idle,ret,id_⟩ wh n_ = (-1,true,⟨.idle,ret++[ctlBlock (B.ws.getD (ctlAt c 0).toNat 0)],id_⟩):=by unfold Kc.whoD; simp only; rw [if_neg (fun h=>h.elim h4 (fun h=>h h15)),if_pos hbp]; rfl
     rw [e]
     refine cP [0,1,7,8,2,3,4,5] (w_whoR c x ba rb now ka ma kc mc ps many A B wh n_ (.pointer none) (.pointer none) pv sv rv ra rc id_ ret hc hnB hzB hnA hzA hsA hsB hwB hps hl h4 h15 hbp) ?_
     rintro v post ⟨ra2_1,rc2_2,rfl,rfl⟩
     exact⟨_,((vK (fun _:KlH=>True) (klL c (ps.getD 0 0) ⟨.idle,ret++[ctlBlock (B.ws.getD (ctlAt c 0).toNat 0)],id_⟩) ⟨pv,sv,rv,ra2_1,rc2_2,y⟩ [3,4] trivial).trans (ks_unfocus (ps:=ps) (ks:=ks) (c:=c) 7 0 0 ⟨.idle,ret++[ctlBlock (B.ws.getD (ctlAt c 0).toNat 0)],id_⟩ (by omega) (by omega))).trans (vQ [0,1,2,3,4,5,6]),rfl,rfl⟩
    ·skip
     have e:Kc.whoD (B.ws.getD (ctlAt c 0).toNat 0) ⟨.idle,ret,id_⟩ wh n_ = (-1,true,⟨.idle,ret,id_⟩):=by unfold Kc.whoD; simp only; rw [if_neg (fun h=>h.elim h4 (fun h=>h h15)),if_neg hbp]
     rw [e]
     refine cP [0,2,3,4,5] (w_whoN c x ba rb now ka ma kc mc ps many A B wh n_ hc hnB hzB hnA hzA hsA hsB hwB h4 h15 hbp) ?_
     rintro v post ⟨rfl,rfl⟩
     exact⟨_,((vK (fun _:KlH=>True) (klL c (ps.getD 0 0) ⟨.idle,ret,id_⟩) ⟨pv,sv,rv,ra,rc,y⟩ [2,3] trivial).trans (ks_unfocus (ps:=ps) (ks:=ks) (c:=c) 7 1 0 ⟨.idle,ret,id_⟩ (by omega) (by omega))).trans (vQ [1,0,2,3,4,5,6]),rfl,rfl⟩
   ·skip
    have e:Kc.whoD (B.ws.getD (ctlAt c 0).toNat 0) ⟨.idle,ret,id_⟩ wh n_ = (bAnd .i64 wh 3,false,⟨.idle,ret,id_⟩):=by unfold Kc.whoD; simp only; rw [if_pos (.inr h15)]
    rw [e]
    refine cP [0] (w_whob c x ba rb now (.slice ka ps.length kc) (.slice ma many.length mc) wh n_ h4 h15) ?_
    rintro v post ⟨rfl,rfl⟩
    exact⟨_,((vK (fun _:KlH=>True) (klL c (ps.getD 0 0) ⟨.idle,ret,id_⟩) ⟨pv,sv,rv,ra,rc,y⟩ [6,7] trivial).trans (ks_unfocus (ps:=ps) (ks:=ks) (c:=c) 7 5 0 ⟨.idle,ret,id_⟩ (by omega) (by omega))).trans (vQ [5,0,1,2,3,4,6]),rfl,rfl⟩
 | pub ep ws S=>
  by_cases h4:bAnd .i64 wh 4=0
  ·skip
   have e:Kc.whoD (B.ws.getD (ctlAt c 0).toNat 0) ⟨.pub ep ws S,ret,id_⟩ wh n_ = (bAnd .i64 wh 3,false,⟨.pub ep ws S,ret,id_⟩):=by unfold Kc.whoD; simp only; rw [if_pos (.inl h4)]
   rw [e]
   refine cP [0] (w_whoa c x ba rb now (.slice ka ps.length kc) (.slice ma many.length mc) wh n_ h4) ?_
   rintro v post ⟨rfl,rfl⟩
   exact⟨_,((vK (fun _:KlH=>True) (klL c (ps.getD 0 0) ⟨.pub ep ws S,ret,id_⟩) ⟨pv,sv,rv,ra,rc,y⟩ [6,7,8] trivial).trans (ks_unfocus (ps:=ps) (ks:=ks) (c:=c) 7 5 0 ⟨.pub ep ws S,ret,id_⟩ (by omega) (by omega))).trans (vQ [5,0,1,2,3,4,6]),rfl,rfl⟩
  ·by_cases h15:bAnd .i64 n_ 15=0
   ·by_cases hbp:ctlBlock (B.ws.getD (ctlAt c 0).toNat 0)>0
    ·skip
     have e:Kc.whoD (B.ws.getD (ctlAt c 0).toNat 0) ⟨.pub ep ws S,ret,id_⟩ wh n_ = (-1,true,⟨.pub ep ws S,ret++[ctlBlock (B.ws.getD (ctlAt c 0).toNat 0)],id_⟩):=by unfold Kc.whoD; simp only; rw [if_neg (fun h=>h.elim h4 (fun h=>h h15)),if_pos hbp]; rfl
     rw [e]
     refine cP [0,1,7,8,2,3,4,5] (w_whoR c x ba rb now ka ma kc mc ps many A B wh n_ (vP y) (.pointer none) pv sv rv ra rc id_ ret hc hnB hzB hnA hzA hsA hsB hwB hps hl h4 h15 hbp) ?_
     rintro v post ⟨ra2_1,rc2_2,rfl,rfl⟩
     exact⟨_,((vK (fun _:KlH=>True) (klL c (ps.getD 0 0) ⟨.pub ep ws S,ret++[ctlBlock (B.ws.getD (ctlAt c 0).toNat 0)],id_⟩) ⟨pv,sv,rv,ra2_1,rc2_2,y⟩ [4,5,1] trivial).trans (ks_unfocus (ps:=ps) (ks:=ks) (c:=c) 7 0 0 ⟨.pub ep ws S,ret++[ctlBlock (B.ws.getD (ctlAt c 0).toNat 0)],id_⟩ (by omega) (by omega))).trans (vQ [0,1,2,3,4,5,6]),rfl,rfl⟩
    ·skip
     have e:Kc.whoD (B.ws.getD (ctlAt c 0).toNat 0) ⟨.pub ep ws S,ret,id_⟩ wh n_ = (-1,true,⟨.pub ep ws S,ret,id_⟩):=by unfold Kc.whoD; simp only; rw [if_neg (fun h=>h.elim h4 (fun h=>h h15)),if_neg hbp]
     rw [e]
     refine cP [0,2,3,4,5] (w_whoN c x ba rb now ka ma kc mc ps many A B wh n_ hc hnB hzB hnA hzA hsA hsB hwB h4 h15 hbp) ?_
     rintro v post ⟨rfl,rfl⟩
     exact⟨_,((vK (fun _:KlH=>True) (klL c (ps.getD 0 0) ⟨.pub ep ws S,ret,id_⟩) ⟨pv,sv,rv,ra,rc,y⟩ [2,3,4] trivial).trans (ks_unfocus (ps:=ps) (ks:=ks) (c:=c) 7 1 0 ⟨.pub ep ws S,ret,id_⟩ (by omega) (by omega))).trans (vQ [1,0,2,3,4,5,6]),rfl,rfl⟩
   ·skip
    have e:Kc.whoD (B.ws.getD (ctlAt c 0).toNat 0) ⟨.pub ep ws S,ret,id_⟩ wh n_ = (bAnd .i64 wh 3,false,⟨.pub ep ws S,ret,id_⟩):=by unfold Kc.whoD; simp only; rw [if_pos (.inr h15)]
    rw [e]
    refine cP [0] (w_whob c x ba rb now (.slice ka ps.length kc) (.slice ma many.length mc) wh n_ h4 h15) ?_
    rintro v post ⟨rfl,rfl⟩
    exact⟨_,((vK (fun _:KlH=>True) (klL c (ps.getD 0 0) ⟨.pub ep ws S,ret,id_⟩) ⟨pv,sv,rv,ra,rc,y⟩ [6,7,8] trivial).trans (ks_unfocus (ps:=ps) (ks:=ks) (c:=c) 7 5 0 ⟨.pub ep ws S,ret,id_⟩ (by omega) (by omega))).trans (vQ [5,0,1,2,3,4,6]),rfl,rfl⟩
 | scan S=>
  by_cases h4:bAnd .i64 wh 4=0
  ·skip
   have e:Kc.whoD (B.ws.getD (ctlAt c 0).toNat 0) ⟨.scan S,ret,id_⟩ wh n_ = (bAnd .i64 wh 3,false,⟨.scan S,ret,id_⟩):=by unfold Kc.whoD; simp only; rw [if_pos (.inl h4)]
   rw [e]
   refine cP [0] (w_whoa c x ba rb now (.slice ka ps.length kc) (.slice ma many.length mc) wh n_ h4) ?_
   rintro v post ⟨rfl,rfl⟩
   exact⟨_,((vK (fun _:KlH=>True) (klL c (ps.getD 0 0) ⟨.scan S,ret,id_⟩) ⟨pv,sv,rv,ra,rc,y⟩ [6,7,8] trivial).trans (ks_unfocus (ps:=ps) (ks:=ks) (c:=c) 7 5 0 ⟨.scan S,ret,id_⟩ (by omega) (by omega))).trans (vQ [5,0,1,2,3,4,6]),rfl,rfl⟩
  ·by_cases h15:bAnd .i64 n_ 15=0
   ·by_cases hbp:ctlBlock (B.ws.getD (ctlAt c 0).toNat 0)>0
    ·skip
     have e:Kc.whoD (B.ws.getD (ctlAt c 0).toNat 0) ⟨.scan S,ret,id_⟩ wh n_ = (bAnd .i64 wh 3,false,⟨.scan S,ret,id_⟩):=by unfold Kc.whoD; simp only; rw [if_neg (fun h=>h.elim h4 (fun h=>h h15)),if_pos hbp]; rfl
     rw [e]
     refine cP [0,1,7,4,5] (w_whoS c x ba rb now ka ma kc mc ps many wh n_ B y (.pointer none) (.pointer none) pv sv rv ra rc id_ ret hc hnB hzB hps hwB h4 h15 hbp) ?_
     rintro v post ⟨rfl,rfl⟩
     exact⟨_,((vK (fun _:KlH=>True) (klL c (ps.getD 0 0) ⟨.scan S,ret,id_⟩) ⟨pv,sv,rv,ra,rc,y⟩ [7,3,4] trivial).trans (ks_unfocus (ps:=ps) (ks:=ks) (c:=c) 7 2 0 ⟨.scan S,ret,id_⟩ (by omega) (by omega))).trans (vQ [2,3,0,1,4,5,6]),rfl,rfl⟩
    ·skip
     have e:Kc.whoD (B.ws.getD (ctlAt c 0).toNat 0) ⟨.scan S,ret,id_⟩ wh n_ = (-1,true,⟨.scan S,ret,id_⟩):=by unfold Kc.whoD; simp only; rw [if_neg (fun h=>h.elim h4 (fun h=>h h15)),if_neg hbp]
     rw [e]
     refine cP [0,2,3,4,5] (w_whoN c x ba rb now ka ma kc mc ps many A B wh n_ hc hnB hzB hnA hzA hsA hsB hwB h4 h15 hbp) ?_
     rintro v post ⟨rfl,rfl⟩
     exact⟨_,((vK (fun _:KlH=>True) (klL c (ps.getD 0 0) ⟨.scan S,ret,id_⟩) ⟨pv,sv,rv,ra,rc,y⟩ [2,3,4] trivial).trans (ks_unfocus (ps:=ps) (ks:=ks) (c:=c) 7 1 0 ⟨.scan S,ret,id_⟩ (by omega) (by omega))).trans (vQ [1,0,2,3,4,5,6]),rfl,rfl⟩
   ·skip
    have e:Kc.whoD (B.ws.getD (ctlAt c 0).toNat 0) ⟨.scan S,ret,id_⟩ wh n_ = (bAnd .i64 wh 3,false,⟨.scan S,ret,id_⟩):=by unfold Kc.whoD; simp only; rw [if_pos (.inr h15)]
    rw [e]
    refine cP [0] (w_whob c x ba rb now (.slice ka ps.length kc) (.slice ma many.length mc) wh n_ h4 h15) ?_
    rintro v post ⟨rfl,rfl⟩
    exact⟨_,((vK (fun _:KlH=>True) (klL c (ps.getD 0 0) ⟨.scan S,ret,id_⟩) ⟨pv,sv,rv,ra,rc,y⟩ [6,7,8] trivial).trans (ks_unfocus (ps:=ps) (ks:=ks) (c:=c) 7 5 0 ⟨.scan S,ret,id_⟩ (by omega) (by omega))).trans (vQ [5,0,1,2,3,4,6]),rfl,rfl⟩
 | read cl ep S=>
  by_cases h4:bAnd .i64 wh 4=0
  ·skip
   have e:Kc.whoD (B.ws.getD (ctlAt c 0).toNat 0) ⟨.read cl ep S,ret,id_⟩ wh n_ = (bAnd .i64 wh 3,false,⟨.read cl ep S,ret,id_⟩):=by unfold Kc.whoD; simp only; rw [if_pos (.inl h4)]
   rw [e]
   refine cP [0] (w_whoa c x ba rb now (.slice ka ps.length kc) (.slice ma many.length mc) wh n_ h4) ?_
   rintro v post ⟨rfl,rfl⟩
   exact⟨_,((vK (fun _:KlH=>True) (klL c (ps.getD 0 0) ⟨.read cl ep S,ret,id_⟩) ⟨pv,sv,rv,ra,rc,y⟩ [6,7,8] trivial).trans (ks_unfocus (ps:=ps) (ks:=ks) (c:=c) 7 5 0 ⟨.read cl ep S,ret,id_⟩ (by omega) (by omega))).trans (vQ [5,0,1,2,3,4,6]),rfl,rfl⟩
  ·by_cases h15:bAnd .i64 n_ 15=0
   ·by_cases hbp:ctlBlock (B.ws.getD (ctlAt c 0).toNat 0)>0
    ·skip
     have e:Kc.whoD (B.ws.getD (ctlAt c 0).toNat 0) ⟨.read cl ep S,ret,id_⟩ wh n_ = (-1,true,⟨.read cl ep S,ret++[ctlBlock (B.ws.getD (ctlAt c 0).toNat 0)],id_⟩):=by unfold Kc.whoD; simp only; rw [if_neg (fun h=>h.elim h4 (fun h=>h h15)),if_pos hbp]; rfl
     rw [e]
     refine cP [0,1,7,8,2,3,4,5] (w_whoR c x ba rb now ka ma kc mc ps many A B wh n_ (.pointer none) (vP y) pv sv rv ra rc id_ ret hc hnB hzB hnA hzA hsA hsB hwB hps hl h4 h15 hbp) ?_
     rintro v post ⟨ra2_1,rc2_2,rfl,rfl⟩
     exact⟨_,((vK (fun _:KlH=>True) (klL c (ps.getD 0 0) ⟨.read cl ep S,ret++[ctlBlock (B.ws.getD (ctlAt c 0).toNat 0)],id_⟩) ⟨pv,sv,rv,ra2_1,rc2_2,y⟩ [4,5,1] trivial).trans (ks_unfocus (ps:=ps) (ks:=ks) (c:=c) 7 0 0 ⟨.read cl ep S,ret++[ctlBlock (B.ws.getD (ctlAt c 0).toNat 0)],id_⟩ (by omega) (by omega))).trans (vQ [0,1,2,3,4,5,6]),rfl,rfl⟩
    ·skip
     have e:Kc.whoD (B.ws.getD (ctlAt c 0).toNat 0) ⟨.read cl ep S,ret,id_⟩ wh n_ = (-1,true,⟨.read cl ep S,ret,id_⟩):=by unfold Kc.whoD; simp only; rw [if_neg (fun h=>h.elim h4 (fun h=>h h15)),if_neg hbp]
     rw [e]
     refine cP [0,2,3,4,5] (w_whoN c x ba rb now ka ma kc mc ps many A B wh n_ hc hnB hzB hnA hzA hsA hsB hwB h4 h15 hbp) ?_
     rintro v post ⟨rfl,rfl⟩
     exact⟨_,((vK (fun _:KlH=>True) (klL c (ps.getD 0 0) ⟨.read cl ep S,ret,id_⟩) ⟨pv,sv,rv,ra,rc,y⟩ [2,3,4] trivial).trans (ks_unfocus (ps:=ps) (ks:=ks) (c:=c) 7 1 0 ⟨.read cl ep S,ret,id_⟩ (by omega) (by omega))).trans (vQ [1,0,2,3,4,5,6]),rfl,rfl⟩
   ·skip
    have e:Kc.whoD (B.ws.getD (ctlAt c 0).toNat 0) ⟨.read cl ep S,ret,id_⟩ wh n_ = (bAnd .i64 wh 3,false,⟨.read cl ep S,ret,id_⟩):=by unfold Kc.whoD; simp only; rw [if_pos (.inr h15)]
    rw [e]
    refine cP [0] (w_whob c x ba rb now (.slice ka ps.length kc) (.slice ma many.length mc) wh n_ h4 h15) ?_
    rintro v post ⟨rfl,rfl⟩
    exact⟨_,((vK (fun _:KlH=>True) (klL c (ps.getD 0 0) ⟨.read cl ep S,ret,id_⟩) ⟨pv,sv,rv,ra,rc,y⟩ [6,7,8] trivial).trans (ks_unfocus (ps:=ps) (ks:=ks) (c:=c) 7 5 0 ⟨.read cl ep S,ret,id_⟩ (by omega) (by omega))).trans (vQ [5,0,1,2,3,4,6]),rfl,rfl⟩
end Go.Proofs.YtpcaijopodhdgaaGreatDoor
namespace Go.Proofs.YtpcaijopodhdgaaGreatDoor
open Go.Sx
abbrev E0b46c(x0:Nat)(x1:Int): Ent:=.pts x0 [.pointer none,.pointer none,.pointer none,.pointer none,.pointer none,.pointer none,.slice none 0 0,.int .u64 x1] 74
abbrev E9e911(x0:Nat)(x1:Value)(x2:Value)(x3:Value)(x4:Value): Ent:=.pts x0 [x1,x2,x3,x4] 68
abbrev E6e29b(x0:Nat)(c1:Cfg)(x2:Value)(x3:Value)(x4:Value)(x5:Int): Ent:=.pts x0 [.int .i64 c1.topics,.int .i64 c1.small,.int .i64 c1.slots,.int .i64 c1.clients,.int .i64 c1.s0,.int .i64 c1.n0,.int .i64 c1.s1,.int .i64 c1.n1,.int .i64 c1.retry,x2,x3,x4,.slice none 0 0,.int .u64 x5] 62
abbrev zK: Value:=.agg #[.pointer none,.pointer none,.pointer none,.pointer none,.pointer none,.pointer none,.slice none 0 0,vU 0]
theorem law17_configC(c:Cfg)(q0 q1 q2:Int)(hq:c=cfgL q0 q1 q2):
  Ctr Tryz.prog 9 #[.agg #[vI q0,vI q1,vI q2]] [] (Ret (cfgV c) []):=by
 subst hq
 exact law17_config q0 q1 q2
noncomputable def B26: Code:=(Tryz.f26.body).getD .skip
abbrev Ylaw17_begun(c:Cfg): Value→List Ent→Prop:=(fun v L => ∃(x:Nat) (ba:Nat) (rb:Nat) (ka:Option Addr) (kc:Nat) (ps:List Nat) (aw:Option Addr) (cw:Nat) (aw2:Option Addr) (cw2:Nat),v=vP x∧L=[Ed2706 x c (vP ba) (vP rb) ka ps.length kc none 0 0 0,.sl ka kc encP 0 1 ps 68,Ee1326 none 0 ([]:List Int),E3504b ba ((mkAr c aw cw).store (ctlAt c 0) (bornW 0)),E35fb1 ((mkAr c aw cw).store (ctlAt c 0) (bornW 0)),E99bbc rb ((rmAr c (rpackW c) aw2 cw2).store (ctlAt c 0) (bornW 0)) false 0,E35fb1 ((rmAr c (rpackW c) aw2 cw2).store (ctlAt c 0) (bornW 0)),.res (KsR ps four c)]∧(ps.length=4))
set_option maxHeartbeats 4000000 in
theorem law17_begun(c:Cfg)(q0 q1 q2:Int)(hq:c=cfgL q0 q1 q2):
  Ctr Tryz.prog 26 #[.agg #[vI q0,vI q1,vI q2]] [] (Ylaw17_begun c):=by
 refine cB B26 35 Tryz.func26 ?_
 intro F
 have hc:c.Ok:=hq▸cfgL_ok q0 q1 q2
 refine gX [.e 0,.z [0,1] 1 [7]] (gN fun b_1=>gQ b_1 (gS [.o [0,1] 1,.c [1,1]] ?_))
 refine gC (some 8) [] Tryz.call9 (law17_configC c q0 q1 q2 hq) ?_
 refine gX [.e 1,.e 1,.z [0,1,1] 1 [3,10]] (gN fun b_3=>gQ b_3 (gQ b_3 (gS [.o [0,1,1] 1,.c [1,1,1]] ?_)))
 refine go_call (some 11) [] Tryz.call60 (plan_Make c hc) kR ?_
 rintro v post ⟨ba_4,aw_5,cw_6,rfl,rfl⟩
 refine gX [.z [0,1,1,1,1] 0 [3,4]] (gS [.c [0,1,1,1,1],.c [1,1,1,1,1]] ?_)
 refine zG ?_
 have aS_154:∀(ra_3_1:Nat) (aw_3_1:Option Addr) (cw_3_1:Nat) (b_5_1:Nat) (b_7_1:Nat) (b_9_1:Nat) (b_11_1:Nat) (b_12_1:Nat) (b_14_1:Nat),Lz Tryz.prog Tryz.f26 B26 35 F (RetR F (Ylaw17_begun c)) (regOps B26 [0,1,1,1,1]) [.c [1,1,1,1,1]] (mk 16 [0,1,2,3,4,5,6,7,8,9,10,11,12,13,14]) [] [(30,vP b_14_1)] [.pts b_1 [vI q0,vI q1,vI q2] 22,Efdc04 b_3 c,E3504b ba_4 (mkAr c aw_5 cw_6),E35fb1 (mkAr c aw_5 cw_6),E99bbc ra_3_1 (rmAr c (rpackW c) aw_3_1 cw_3_1) false 0,E35fb1 (rmAr c (rpackW c) aw_3_1 cw_3_1),E0b46c b_5_1 0,E0b46c b_7_1 0,E0b46c b_9_1 0,E0b46c b_11_1 0,E9e911 b_12_1 (vP b_5_1) (vP b_7_1) (vP b_9_1) (vP b_11_1),E6e29b b_14_1 c (vP ba_4) (vP ra_3_1) (.slice (some ⟨b_12_1,0,none⟩) 4 4) 0]:=by
  intro ra_3_1 aw_3_1 cw_3_1 b_5_1 b_7_1 b_9_1 b_11_1 b_12_1 b_14_1
  refine zE [15] (kV 15 [.w]) [6] .n ?_
  refine gX [.z [0,1,1,1,1,1] 0 [6]] (gW (ks:=[.o [0,1,1,1,1,1] 0,.c [1,1,1,1,1,1]]) [(6,vP b_14_1)] [.pts b_1 [vI q0,vI q1,vI q2] 22,Efdc04 b_3 c,E3504b ba_4 (mkAr c aw_5 cw_6),E35fb1 (mkAr c aw_5 cw_6),E99bbc ra_3_1 (rmAr c (rpackW c) aw_3_1 cw_3_1) false 0,E35fb1 (rmAr c (rpackW c) aw_3_1 cw_3_1),E0b46c b_5_1 0,E0b46c b_7_1 0,E0b46c b_9_1 0,E0b46c b_11_1 0,E9e911 b_12_1 (vP b_5_1) (vP b_7_1) (vP b_9_1) (vP b_11_1),E6e29b b_14_1 c (vP ba_4) (vP ra_3_1) (.slice (some ⟨b_12_1,0,none⟩) 4 4) 0] ?_)
  have hA0:=mkAr_ok hc aw_5 cw_6
  have hT0:Go.Sx.Twin (mkAr c aw_5 cw_6) (rmAr c (rpackW c) aw_3_1 cw_3_1) 0:=by rw [hq]; exact L_twinQ q0 q1 q2 aw_5 aw_3_1 cw_6 cw_3_1
  have hB0:=rm_arW hc hA0 hT0
  have hA1:=hA0.1
  have hA2:=hA0.2.1
  have hA3:=hA0.2.2.2
  have hB1:=hB0.1
  have hB2:=hB0.2.1
  have hB3:=hB0.2.2.2
  have hU0:U64 0:=by unfold U64; decide
  refine gX [.z [0,1,1,1,1,1] 1 [6,31]] (gS [.o [0,1,1,1,1,1] 1,.c [1,1,1,1,1,1]] ?_)
  refine gC (some 32) [] Tryz.call70 (r13_Born 0 hU0) ?_
  refine gC (some 33) [11,2,3,4,5] Tryz.call69 (w_put c b_14_1 ba_4 ra_3_1 0 (.slice (some ⟨b_12_1,0,none⟩) 4 4) (.slice none 0 0) (mkAr c aw_5 cw_6) (rmAr c (rpackW c) aw_3_1 cw_3_1) (bornW 0) hc hB1 hB2 hA1 hA2 (by omega) (by omega)) ?_
  refine gX [] (gW0 (vP b_14_1) [.pts b_1 [vI q0,vI q1,vI q2] 22,Efdc04 b_3 c,E0b46c b_5_1 0,E0b46c b_7_1 0,E0b46c b_9_1 0,E0b46c b_11_1 0,E9e911 b_12_1 (vP b_5_1) (vP b_7_1) (vP b_9_1) (vP b_11_1),E6e29b b_14_1 c (vP ba_4) (vP ra_3_1) (.slice (some ⟨b_12_1,0,none⟩) 4 4) 0,E3504b ba_4 ((mkAr c aw_5 cw_6).store (ctlAt c 0) (bornW 0)),E35fb1 ((mkAr c aw_5 cw_6).store (ctlAt c 0) (bornW 0)),E99bbc ra_3_1 ((rmAr c (rpackW c) aw_3_1 cw_3_1).store (ctlAt c 0) (bornW 0)) false 0,E35fb1 ((rmAr c (rpackW c) aw_3_1 cw_3_1).store (ctlAt c 0) (bornW 0))] ?_)
  refine ret_view (L':=[.pts b_1 [vI q0,vI q1,vI q2] 22,Efdc04 b_3 c,E0b46c b_5_1 0,E0b46c b_7_1 0,E0b46c b_9_1 0,E0b46c b_11_1 0,.sl (some ⟨b_12_1,0,none⟩) 4 encP 0 1 ([b_5_1,b_7_1,b_9_1,b_11_1]:List Nat) 68,E6e29b b_14_1 c (vP ba_4) (vP ra_3_1) (.slice (some ⟨b_12_1,0,none⟩) 4 4) 0,E3504b ba_4 ((mkAr c aw_5 cw_6).store (ctlAt c 0) (bornW 0)),E35fb1 ((mkAr c aw_5 cw_6).store (ctlAt c 0) (bornW 0)),E99bbc ra_3_1 ((rmAr c (rpackW c) aw_3_1 cw_3_1).store (ctlAt c 0) (bornW 0)) false 0,E35fb1 ((rmAr c (rpackW c) aw_3_1 cw_3_1).store (ctlAt c 0) (bornW 0))]) (view_row 6 (b:=b_12_1) encP 0 1 ([b_5_1,b_7_1,b_9_1,b_11_1]:List Nat) 68 sized_encP (by simp [maxLen]) kR) ?_
  refine ret_view (L':=[.pts b_1 [vI q0,vI q1,vI q2] 22,Efdc04 b_3 c,E0b46c b_5_1 0,E0b46c b_7_1 0,E0b46c b_9_1 0,E0b46c b_11_1 0,.sl (some ⟨b_12_1,0,none⟩) 4 encP 0 1 ([b_5_1,b_7_1,b_9_1,b_11_1]:List Nat) 68,E6e29b b_14_1 c (vP ba_4) (vP ra_3_1) (.slice (some ⟨b_12_1,0,none⟩) 4 4) 0,E3504b ba_4 ((mkAr c aw_5 cw_6).store (ctlAt c 0) (bornW 0)),E35fb1 ((mkAr c aw_5 cw_6).store (ctlAt c 0) (bornW 0)),E99bbc ra_3_1 ((rmAr c (rpackW c) aw_3_1 cw_3_1).store (ctlAt c 0) (bornW 0)) false 0,E35fb1 ((rmAr c (rpackW c) aw_3_1 cw_3_1).store (ctlAt c 0) (bornW 0)),Ee1326 none 0 ([]:List Int)]) (view_nil (encI .i64) 0 1 3 (sizedI _)) ?_
  refine ret_view (L':=[.pts b_1 [vI q0,vI q1,vI q2] 22,Efdc04 b_3 c,E0b46c b_7_1 0,E0b46c b_9_1 0,E0b46c b_11_1 0,.sl (some ⟨b_12_1,0,none⟩) 4 encP 0 1 ([b_5_1,b_7_1,b_9_1,b_11_1]:List Nat) 68,E6e29b b_14_1 c (vP ba_4) (vP ra_3_1) (.slice (some ⟨b_12_1,0,none⟩) 4 4) 0,E3504b ba_4 ((mkAr c aw_5 cw_6).store (ctlAt c 0) (bornW 0)),E35fb1 ((mkAr c aw_5 cw_6).store (ctlAt c 0) (bornW 0)),E99bbc ra_3_1 ((rmAr c (rpackW c) aw_3_1 cw_3_1).store (ctlAt c 0) (bornW 0)) false 0,E35fb1 ((rmAr c (rpackW c) aw_3_1 cw_3_1).store (ctlAt c 0) (bornW 0)),.res (KlR c b_5_1 dK)]) (vK (fun _:KlH=>True) (klL c b_5_1 dK) ⟨.pointer none,.pointer none,.pointer none,none,0,0⟩ [2,12] trivial) ?_
  refine ret_view (L':=[.pts b_1 [vI q0,vI q1,vI q2] 22,Efdc04 b_3 c,E0b46c b_7_1 0,E0b46c b_9_1 0,E0b46c b_11_1 0,.sl (some ⟨b_12_1,0,none⟩) 4 encP 0 1 ([b_5_1,b_7_1,b_9_1,b_11_1]:List Nat) 68,E6e29b b_14_1 c (vP ba_4) (vP ra_3_1) (.slice (some ⟨b_12_1,0,none⟩) 4 4) 0,E3504b ba_4 ((mkAr c aw_5 cw_6).store (ctlAt c 0) (bornW 0)),E35fb1 ((mkAr c aw_5 cw_6).store (ctlAt c 0) (bornW 0)),E99bbc ra_3_1 ((rmAr c (rpackW c) aw_3_1 cw_3_1).store (ctlAt c 0) (bornW 0)) false 0,E35fb1 ((rmAr c (rpackW c) aw_3_1 cw_3_1).store (ctlAt c 0) (bornW 0)),.res (KlR c b_5_1 dK),Ee1326 none 0 ([]:List Int)]) (view_nil (encI .i64) 0 1 3 (sizedI _)) ?_
  refine ret_view (L':=[.pts b_1 [vI q0,vI q1,vI q2] 22,Efdc04 b_3 c,E0b46c b_9_1 0,E0b46c b_11_1 0,.sl (some ⟨b_12_1,0,none⟩) 4 encP 0 1 ([b_5_1,b_7_1,b_9_1,b_11_1]:List Nat) 68,E6e29b b_14_1 c (vP ba_4) (vP ra_3_1) (.slice (some ⟨b_12_1,0,none⟩) 4 4) 0,E3504b ba_4 ((mkAr c aw_5 cw_6).store (ctlAt c 0) (bornW 0)),E35fb1 ((mkAr c aw_5 cw_6).store (ctlAt c 0) (bornW 0)),E99bbc ra_3_1 ((rmAr c (rpackW c) aw_3_1 cw_3_1).store (ctlAt c 0) (bornW 0)) false 0,E35fb1 ((rmAr c (rpackW c) aw_3_1 cw_3_1).store (ctlAt c 0) (bornW 0)),.res (KlR c b_5_1 dK),.res (KlR c b_7_1 dK)]) (vK (fun _:KlH=>True) (klL c b_7_1 dK) ⟨.pointer none,.pointer none,.pointer none,none,0,0⟩ [2,12] trivial) ?_
  refine ret_view (L':=[.pts b_1 [vI q0,vI q1,vI q2] 22,Efdc04 b_3 c,E0b46c b_9_1 0,E0b46c b_11_1 0,.sl (some ⟨b_12_1,0,none⟩) 4 encP 0 1 ([b_5_1,b_7_1,b_9_1,b_11_1]:List Nat) 68,E6e29b b_14_1 c (vP ba_4) (vP ra_3_1) (.slice (some ⟨b_12_1,0,none⟩) 4 4) 0,E3504b ba_4 ((mkAr c aw_5 cw_6).store (ctlAt c 0) (bornW 0)),E35fb1 ((mkAr c aw_5 cw_6).store (ctlAt c 0) (bornW 0)),E99bbc ra_3_1 ((rmAr c (rpackW c) aw_3_1 cw_3_1).store (ctlAt c 0) (bornW 0)) false 0,E35fb1 ((rmAr c (rpackW c) aw_3_1 cw_3_1).store (ctlAt c 0) (bornW 0)),.res (KlR c b_5_1 dK),.res (KlR c b_7_1 dK),Ee1326 none 0 ([]:List Int)]) (view_nil (encI .i64) 0 1 3 (sizedI _)) ?_
  refine ret_view (L':=[.pts b_1 [vI q0,vI q1,vI q2] 22,Efdc04 b_3 c,E0b46c b_11_1 0,.sl (some ⟨b_12_1,0,none⟩) 4 encP 0 1 ([b_5_1,b_7_1,b_9_1,b_11_1]:List Nat) 68,E6e29b b_14_1 c (vP ba_4) (vP ra_3_1) (.slice (some ⟨b_12_1,0,none⟩) 4 4) 0,E3504b ba_4 ((mkAr c aw_5 cw_6).store (ctlAt c 0) (bornW 0)),E35fb1 ((mkAr c aw_5 cw_6).store (ctlAt c 0) (bornW 0)),E99bbc ra_3_1 ((rmAr c (rpackW c) aw_3_1 cw_3_1).store (ctlAt c 0) (bornW 0)) false 0,E35fb1 ((rmAr c (rpackW c) aw_3_1 cw_3_1).store (ctlAt c 0) (bornW 0)),.res (KlR c b_5_1 dK),.res (KlR c b_7_1 dK),.res (KlR c b_9_1 dK)]) (vK (fun _:KlH=>True) (klL c b_9_1 dK) ⟨.pointer none,.pointer none,.pointer none,none,0,0⟩ [2,12] trivial) ?_
  refine ret_view (L':=[.pts b_1 [vI q0,vI q1,vI q2] 22,Efdc04 b_3 c,E0b46c b_11_1 0,.sl (some ⟨b_12_1,0,none⟩) 4 encP 0 1 ([b_5_1,b_7_1,b_9_1,b_11_1]:List Nat) 68,E6e29b b_14_1 c (vP ba_4) (vP ra_3_1) (.slice (some ⟨b_12_1,0,none⟩) 4 4) 0,E3504b ba_4 ((mkAr c aw_5 cw_6).store (ctlAt c 0) (bornW 0)),E35fb1 ((mkAr c aw_5 cw_6).store (ctlAt c 0) (bornW 0)),E99bbc ra_3_1 ((rmAr c (rpackW c) aw_3_1 cw_3_1).store (ctlAt c 0) (bornW 0)) false 0,E35fb1 ((rmAr c (rpackW c) aw_3_1 cw_3_1).store (ctlAt c 0) (bornW 0)),.res (KlR c b_5_1 dK),.res (KlR c b_7_1 dK),.res (KlR c b_9_1 dK),Ee1326 none 0 ([]:List Int)]) (view_nil (encI .i64) 0 1 3 (sizedI _)) ?_
  refine ret_view (L':=[.pts b_1 [vI q0,vI q1,vI q2] 22,Efdc04 b_3 c,.sl (some ⟨b_12_1,0,none⟩) 4 encP 0 1 ([b_5_1,b_7_1,b_9_1,b_11_1]:List Nat) 68,E6e29b b_14_1 c (vP ba_4) (vP ra_3_1) (.slice (some ⟨b_12_1,0,none⟩) 4 4) 0,E3504b ba_4 ((mkAr c aw_5 cw_6).store (ctlAt c 0) (bornW 0)),E35fb1 ((mkAr c aw_5 cw_6).store (ctlAt c 0) (bornW 0)),E99bbc ra_3_1 ((rmAr c (rpackW c) aw_3_1 cw_3_1).store (ctlAt c 0) (bornW 0)) false 0,E35fb1 ((rmAr c (rpackW c) aw_3_1 cw_3_1).store (ctlAt c 0) (bornW 0)),.res (KlR c b_5_1 dK),.res (KlR c b_7_1 dK),.res (KlR c b_9_1 dK),.res (KlR c b_11_1 dK)]) (vK (fun _:KlH=>True) (klL c b_11_1 dK) ⟨.pointer none,.pointer none,.pointer none,none,0,0⟩ [2,12] trivial) ?_
  refine ret_view (L':=[.pts b_1 [vI q0,vI q1,vI q2] 22,Efdc04 b_3 c,.sl (some ⟨b_12_1,0,none⟩) 4 encP 0 1 ([b_5_1,b_7_1,b_9_1,b_11_1]:List Nat) 68,E6e29b b_14_1 c (vP ba_4) (vP ra_3_1) (.slice (some ⟨b_12_1,0,none⟩) 4 4) 0,E3504b ba_4 ((mkAr c aw_5 cw_6).store (ctlAt c 0) (bornW 0)),E35fb1 ((mkAr c aw_5 cw_6).store (ctlAt c 0) (bornW 0)),E99bbc ra_3_1 ((rmAr c (rpackW c) aw_3_1 cw_3_1).store (ctlAt c 0) (bornW 0)) false 0,E35fb1 ((rmAr c (rpackW c) aw_3_1 cw_3_1).store (ctlAt c 0) (bornW 0)),.res (KsR ([b_5_1,b_7_1,b_9_1,b_11_1]:List Nat) four c)]) (vC [8,9,10,11]) ?_
  refine ret_view (L':=[.pts b_1 [vI q0,vI q1,vI q2] 22,Efdc04 b_3 c,.sl (some ⟨b_12_1,0,none⟩) 4 encP 0 1 ([b_5_1,b_7_1,b_9_1,b_11_1]:List Nat) 68,E6e29b b_14_1 c (vP ba_4) (vP ra_3_1) (.slice (some ⟨b_12_1,0,none⟩) 4 4) 0,E3504b ba_4 ((mkAr c aw_5 cw_6).store (ctlAt c 0) (bornW 0)),E35fb1 ((mkAr c aw_5 cw_6).store (ctlAt c 0) (bornW 0)),E99bbc ra_3_1 ((rmAr c (rpackW c) aw_3_1 cw_3_1).store (ctlAt c 0) (bornW 0)) false 0,E35fb1 ((rmAr c (rpackW c) aw_3_1 cw_3_1).store (ctlAt c 0) (bornW 0)),.res (KsR ([b_5_1,b_7_1,b_9_1,b_11_1]:List Nat) four c),Ee1326 none 0 ([]:List Int)]) (view_nil (encI .i64) 0 1 3 (sizedI _)) ?_
  exact ret_ok (post:=[E6e29b b_14_1 c (vP ba_4) (vP ra_3_1) (.slice (some ⟨b_12_1,0,none⟩) 4 4) 0,.sl (some ⟨b_12_1,0,none⟩) 4 encP 0 1 ([b_5_1,b_7_1,b_9_1,b_11_1]:List Nat) 68,Ee1326 none 0 ([]:List Int),E3504b ba_4 ((mkAr c aw_5 cw_6).store (ctlAt c 0) (bornW 0)),E35fb1 ((mkAr c aw_5 cw_6).store (ctlAt c 0) (bornW 0)),E99bbc ra_3_1 ((rmAr c (rpackW c) aw_3_1 cw_3_1).store (ctlAt c 0) (bornW 0)) false 0,E35fb1 ((rmAr c (rpackW c) aw_3_1 cw_3_1).store (ctlAt c 0) (bornW 0)),.res (KsR ([b_5_1,b_7_1,b_9_1,b_11_1]:List Nat) four c)]) [3,2,9,4,5,6,7,8] kR ⟨b_14_1,ba_4,ra_3_1,(some ⟨b_12_1,0,none⟩),4,[b_5_1,b_7_1,b_9_1,b_11_1],aw_5,cw_6,aw_3_1,cw_3_1,rfl,kR,rfl⟩
 have aS_155:∀(ra_3_1:Nat) (aw_3_1:Option Addr) (cw_3_1:Nat) (b_5_1:Nat) (b_7_1:Nat) (b_9_1:Nat) (b_11_1:Nat) (b_12_1:Nat),Lz Tryz.prog Tryz.f26 B26 35 F (RetR F (Ylaw17_begun c)) (regOps B26 [0,1,1,1,1]) [.c [1,1,1,1,1]] (mk 16 [0,1,2,3,4,5,6,7,8,9,10,11,12]) [0,1] [(28,.slice (some ⟨b_12_1,0,none⟩) 4 4),(19,vP ra_3_1),(3,vP b_3),(4,vP ba_4),(16,cfgV c),(17,vP ba_4)] [.pts b_1 [vI q0,vI q1,vI q2] 22,Efdc04 b_3 c,E3504b ba_4 (mkAr c aw_5 cw_6),E35fb1 (mkAr c aw_5 cw_6),E99bbc ra_3_1 (rmAr c (rpackW c) aw_3_1 cw_3_1) false 0,E35fb1 (rmAr c (rpackW c) aw_3_1 cw_3_1),E0b46c b_5_1 0,E0b46c b_7_1 0,E0b46c b_9_1 0,E0b46c b_11_1 0,E9e911 b_12_1 (vP b_5_1) (vP b_7_1) (vP b_9_1) (vP b_11_1)]:=by
  intro ra_3_1 aw_3_1 cw_3_1 b_5_1 b_7_1 b_9_1 b_11_1 b_12_1
  refine zN [13] [(0,.e 1),(1,.w),(13,.w)] [28,19,3,4,16,17,29] [14] (.e b_3 .n) ⟨?_,trivial⟩
  refine zX .w (sN fun b_14_1=>(sV ?_))
  exact zW [30] [0,1,2,3,4,5,6,7,8,9,10,11] (aS_154 ra_3_1 aw_3_1 cw_3_1 b_5_1 b_7_1 b_9_1 b_11_1 b_12_1 b_14_1)
 have aS_156:∀(ra_3_1:Nat) (aw_3_1:Option Addr) (cw_3_1:Nat) (b_5_1:Nat) (b_7_1:Nat) (b_9_1:Nat) (b_11_1:Nat),Lz Tryz.prog Tryz.f26 B26 35 F (RetR F (Ylaw17_begun c)) (regOps B26 [0,1,1,1,1]) [.c [1,1,1,1,1]] (mk 16 [0,1,2,3,4,5,6,7,8,9,10,11]) [0,1] [(27,vP b_11_1),(25,vP b_9_1),(23,vP b_7_1),(21,vP b_5_1),(19,vP ra_3_1),(3,vP b_3),(4,vP ba_4),(16,cfgV c),(17,vP ba_4)] [.pts b_1 [vI q0,vI q1,vI q2] 22,Efdc04 b_3 c,E3504b ba_4 (mkAr c aw_5 cw_6),E35fb1 (mkAr c aw_5 cw_6),E99bbc ra_3_1 (rmAr c (rpackW c) aw_3_1 cw_3_1) false 0,E35fb1 (rmAr c (rpackW c) aw_3_1 cw_3_1),E0b46c b_5_1 0,E0b46c b_7_1 0,E0b46c b_9_1 0,E0b46c b_11_1 0]:=by
  intro ra_3_1 aw_3_1 cw_3_1 b_5_1 b_7_1 b_9_1 b_11_1
  refine zN [] (kV 0 [.e 1,.w]) [27,25,23,21,19,3,4,16,17] [12] (.e b_3 .n) ⟨?_,trivial⟩
  refine zX .w (sN fun b_12_1=>(sV ?_))
  exact zW [28,19,3,4,16,17] [0,1,2,3,4,5,6,7,8,9,10] (aS_155 ra_3_1 aw_3_1 cw_3_1 b_5_1 b_7_1 b_9_1 b_11_1 b_12_1)
 have aS_157:∀(b_5_1:Nat) (b_7_1:Nat) (b_9_1:Nat) (b_11_1:Nat) (b_12_1:Nat),Lz Tryz.prog Tryz.f26 B26 35 F (RetR F (Ylaw17_begun c)) (regOps B26 [0,1,1,1,1]) [.c [1,1,1,1,1]] (mk 16 [0,1,2,4,5,6,7,8,9,10,11,12]) [0,1,2] [(28,.slice (some ⟨b_12_1,0,none⟩) 4 4),(3,vP b_3),(4,vP ba_4),(16,cfgV c),(17,vP ba_4),(18,cfgV c)] [.pts b_1 [vI q0,vI q1,vI q2] 22,Efdc04 b_3 c,E3504b ba_4 (mkAr c aw_5 cw_6),E35fb1 (mkAr c aw_5 cw_6),E0b46c b_5_1 0,E0b46c b_7_1 0,E0b46c b_9_1 0,E0b46c b_11_1 0,E9e911 b_12_1 (vP b_5_1) (vP b_7_1) (vP b_9_1) (vP b_11_1)]:=by
  intro b_5_1 b_7_1 b_9_1 b_11_1 b_12_1
  refine zN [] (kV 0 [.e 1,.w,.e 1]) [28,3,4,16,17,18] [3] (.e b_3 (.e b_3 .n)) ⟨?_,trivial⟩
  refine zC (some 19) [] Tryz.call68 (ref_MakeX c hc) ?_
  rintro v post ⟨ra_3_1,aw_3_1,cw_3_1,rfl,rfl⟩
  exact zW [28,19,3,4,16,17] [0,1,2,3,9,10,4,5,6,7,8] (aS_155 ra_3_1 aw_3_1 cw_3_1 b_5_1 b_7_1 b_9_1 b_11_1 b_12_1)
 have aS_158:∀(ra_3_1:Nat) (aw_3_1:Option Addr) (cw_3_1:Nat) (b_5_1:Nat) (b_7_1:Nat) (b_9_1:Nat),Lz Tryz.prog Tryz.f26 B26 35 F (RetR F (Ylaw17_begun c)) (regOps B26 [0,1,1,1,1]) [.c [1,1,1,1,1]] (mk 16 [0,1,2,3,4,5,6,7,8,9,10]) [0,1,10] [(25,vP b_9_1),(23,vP b_7_1),(21,vP b_5_1),(19,vP ra_3_1),(3,vP b_3),(4,vP ba_4),(16,cfgV c),(17,vP ba_4),(26,zK)] [.pts b_1 [vI q0,vI q1,vI q2] 22,Efdc04 b_3 c,E3504b ba_4 (mkAr c aw_5 cw_6),E35fb1 (mkAr c aw_5 cw_6),E99bbc ra_3_1 (rmAr c (rpackW c) aw_3_1 cw_3_1) false 0,E35fb1 (rmAr c (rpackW c) aw_3_1 cw_3_1),E0b46c b_5_1 0,E0b46c b_7_1 0,E0b46c b_9_1 0]:=by
  intro ra_3_1 aw_3_1 cw_3_1 b_5_1 b_7_1 b_9_1
  refine zN [] [(0,.e 1),(1,.w),(10,.w)] [25,23,21,19,3,4,16,17,26] [11] (.e b_3 .n) ⟨?_,trivial⟩
  refine zX .w (sN fun b_11_1=>(sV ?_))
  exact zW [27,25,23,21,19,3,4,16,17] [0,1,2,3,4,5,6,7,8,9] (aS_156 ra_3_1 aw_3_1 cw_3_1 b_5_1 b_7_1 b_9_1 b_11_1)
 have aS_159:∀(ra_3_1:Nat) (aw_3_1:Option Addr) (cw_3_1:Nat) (b_5_1:Nat) (b_7_1:Nat) (b_11_1:Nat),Lz Tryz.prog Tryz.f26 B26 35 F (RetR F (Ylaw17_begun c)) (regOps B26 [0,1,1,1,1]) [.c [1,1,1,1,1]] (mk 16 [0,1,2,3,4,5,6,7,8,10,11]) [0,1,8] [(27,vP b_11_1),(23,vP b_7_1),(21,vP b_5_1),(19,vP ra_3_1),(3,vP b_3),(4,vP ba_4),(16,cfgV c),(17,vP ba_4),(24,zK)] [.pts b_1 [vI q0,vI q1,vI q2] 22,Efdc04 b_3 c,E3504b ba_4 (mkAr c aw_5 cw_6),E35fb1 (mkAr c aw_5 cw_6),E99bbc ra_3_1 (rmAr c (rpackW c) aw_3_1 cw_3_1) false 0,E35fb1 (rmAr c (rpackW c) aw_3_1 cw_3_1),E0b46c b_5_1 0,E0b46c b_7_1 0,E0b46c b_11_1 0]:=by
  intro ra_3_1 aw_3_1 cw_3_1 b_5_1 b_7_1 b_11_1
  refine zN [] [(0,.e 1),(1,.w),(8,.w)] [27,23,21,19,3,4,16,17,24] [9] (.e b_3 .n) ⟨?_,trivial⟩
  refine zX .w (sN fun b_9_1=>(sV ?_))
  exact zW [27,25,23,21,19,3,4,16,17] [0,1,2,3,4,5,6,7,9,8] (aS_156 ra_3_1 aw_3_1 cw_3_1 b_5_1 b_7_1 b_9_1 b_11_1)
 have aS_160:∀(ra_3_1:Nat) (aw_3_1:Option Addr) (cw_3_1:Nat) (b_5_1:Nat) (b_9_1:Nat) (b_11_1:Nat),Lz Tryz.prog Tryz.f26 B26 35 F (RetR F (Ylaw17_begun c)) (regOps B26 [0,1,1,1,1]) [.c [1,1,1,1,1]] (mk 16 [0,1,2,3,4,5,6,8,9,10,11]) [0,1,6] [(27,vP b_11_1),(25,vP b_9_1),(21,vP b_5_1),(19,vP ra_3_1),(3,vP b_3),(4,vP ba_4),(16,cfgV c),(17,vP ba_4),(22,zK)] [.pts b_1 [vI q0,vI q1,vI q2] 22,Efdc04 b_3 c,E3504b ba_4 (mkAr c aw_5 cw_6),E35fb1 (mkAr c aw_5 cw_6),E99bbc ra_3_1 (rmAr c (rpackW c) aw_3_1 cw_3_1) false 0,E35fb1 (rmAr c (rpackW c) aw_3_1 cw_3_1),E0b46c b_5_1 0,E0b46c b_9_1 0,E0b46c b_11_1 0]:=by
  intro ra_3_1 aw_3_1 cw_3_1 b_5_1 b_9_1 b_11_1
  refine zN [] [(0,.e 1),(1,.w),(6,.w)] [27,25,21,19,3,4,16,17,22] [7] (.e b_3 .n) ⟨?_,trivial⟩
  refine zX .w (sN fun b_7_1=>(sV ?_))
  exact zW [27,25,23,21,19,3,4,16,17] [0,1,2,3,4,5,6,9,7,8] (aS_156 ra_3_1 aw_3_1 cw_3_1 b_5_1 b_7_1 b_9_1 b_11_1)
 have aS_161:∀(ra_3_1:Nat) (aw_3_1:Option Addr) (cw_3_1:Nat) (b_7_1:Nat) (b_9_1:Nat) (b_11_1:Nat),Lz Tryz.prog Tryz.f26 B26 35 F (RetR F (Ylaw17_begun c)) (regOps B26 [0,1,1,1,1]) [.c [1,1,1,1,1]] (mk 16 [0,1,2,3,4,6,7,8,9,10,11]) [0,1,4] [(27,vP b_11_1),(25,vP b_9_1),(23,vP b_7_1),(19,vP ra_3_1),(3,vP b_3),(4,vP ba_4),(16,cfgV c),(17,vP ba_4),(20,zK)] [.pts b_1 [vI q0,vI q1,vI q2] 22,Efdc04 b_3 c,E3504b ba_4 (mkAr c aw_5 cw_6),E35fb1 (mkAr c aw_5 cw_6),E99bbc ra_3_1 (rmAr c (rpackW c) aw_3_1 cw_3_1) false 0,E35fb1 (rmAr c (rpackW c) aw_3_1 cw_3_1),E0b46c b_7_1 0,E0b46c b_9_1 0,E0b46c b_11_1 0]:=by
  intro ra_3_1 aw_3_1 cw_3_1 b_7_1 b_9_1 b_11_1
  refine zN [] [(0,.e 1),(1,.w),(4,.w)] [27,25,23,19,3,4,16,17,20] [5] (.e b_3 .n) ⟨?_,trivial⟩
  refine zX .w (sN fun b_5_1=>(sV ?_))
  exact zW [27,25,23,21,19,3,4,16,17] [0,1,2,3,4,5,9,6,7,8] (aS_156 ra_3_1 aw_3_1 cw_3_1 b_5_1 b_7_1 b_9_1 b_11_1)
 have aS_162:∀(b_5_1:Nat) (b_7_1:Nat) (b_9_1:Nat) (b_11_1:Nat),Lz Tryz.prog Tryz.f26 B26 35 F (RetR F (Ylaw17_begun c)) (regOps B26 [0,1,1,1,1]) [.c [1,1,1,1,1]] (mk 16 [0,1,2,4,5,6,7,8,9,10,11]) [0,1,2] [(27,vP b_11_1),(25,vP b_9_1),(23,vP b_7_1),(21,vP b_5_1),(3,vP b_3),(4,vP ba_4),(16,cfgV c),(17,vP ba_4),(18,cfgV c)] [.pts b_1 [vI q0,vI q1,vI q2] 22,Efdc04 b_3 c,E3504b ba_4 (mkAr c aw_5 cw_6),E35fb1 (mkAr c aw_5 cw_6),E0b46c b_5_1 0,E0b46c b_7_1 0,E0b46c b_9_1 0,E0b46c b_11_1 0]:=by
  intro b_5_1 b_7_1 b_9_1 b_11_1
  refine zN [] (kV 0 [.e 1,.w,.e 1]) [27,25,23,21,3,4,16,17,18] [3,12] (.e b_3 (.e b_3 .n)) ⟨?_, ?_,trivial⟩
  ·refine zC (some 19) [] Tryz.call68 (ref_MakeX c hc) ?_
   rintro v post ⟨ra_3_1,aw_3_1,cw_3_1,rfl,rfl⟩
   exact zW [27,25,23,21,19,3,4,16,17] [0,1,2,3,8,9,4,5,6,7] (aS_156 ra_3_1 aw_3_1 cw_3_1 b_5_1 b_7_1 b_9_1 b_11_1)
  ·refine zX .w (sN fun b_12_1=>(sV ?_))
   exact zW [28,3,4,16,17,18] [0,1,2,3,4,5,6,7,8] (aS_157 b_5_1 b_7_1 b_9_1 b_11_1 b_12_1)
 have aS_163:∀(ra_3_1:Nat) (aw_3_1:Option Addr) (cw_3_1:Nat) (b_5_1:Nat) (b_7_1:Nat),Lz Tryz.prog Tryz.f26 B26 35 F (RetR F (Ylaw17_begun c)) (regOps B26 [0,1,1,1,1]) [.c [1,1,1,1,1]] (mk 16 [0,1,2,3,4,5,6,7,8,10]) [0,1,8,10] [(23,vP b_7_1),(21,vP b_5_1),(19,vP ra_3_1),(3,vP b_3),(4,vP ba_4),(16,cfgV c),(17,vP ba_4),(24,zK),(26,zK)] [.pts b_1 [vI q0,vI q1,vI q2] 22,Efdc04 b_3 c,E3504b ba_4 (mkAr c aw_5 cw_6),E35fb1 (mkAr c aw_5 cw_6),E99bbc ra_3_1 (rmAr c (rpackW c) aw_3_1 cw_3_1) false 0,E35fb1 (rmAr c (rpackW c) aw_3_1 cw_3_1),E0b46c b_5_1 0,E0b46c b_7_1 0]:=by
  intro ra_3_1 aw_3_1 cw_3_1 b_5_1 b_7_1
  refine zN [] [(0,.e 1),(1,.w),(8,.w),(10,.w)] [23,21,19,3,4,16,17,24,26] [9,11] (.e b_3 .n) ⟨?_, ?_,trivial⟩
  ·refine zX .w (sN fun b_9_1=>(sV ?_))
   exact zW [25,23,21,19,3,4,16,17,26] [0,1,2,3,4,5,6,7,8] (aS_158 ra_3_1 aw_3_1 cw_3_1 b_5_1 b_7_1 b_9_1)
  ·refine zX .w (sN fun b_11_1=>(sV ?_))
   exact zW [27,23,21,19,3,4,16,17,24] [0,1,2,3,4,5,6,7,8] (aS_159 ra_3_1 aw_3_1 cw_3_1 b_5_1 b_7_1 b_11_1)
 have aS_164:∀(ra_3_1:Nat) (aw_3_1:Option Addr) (cw_3_1:Nat) (b_5_1:Nat) (b_9_1:Nat),Lz Tryz.prog Tryz.f26 B26 35 F (RetR F (Ylaw17_begun c)) (regOps B26 [0,1,1,1,1]) [.c [1,1,1,1,1]] (mk 16 [0,1,2,3,4,5,6,8,9,10]) [0,1,6,10] [(25,vP b_9_1),(21,vP b_5_1),(19,vP ra_3_1),(3,vP b_3),(4,vP ba_4),(16,cfgV c),(17,vP ba_4),(22,zK),(26,zK)] [.pts b_1 [vI q0,vI q1,vI q2] 22,Efdc04 b_3 c,E3504b ba_4 (mkAr c aw_5 cw_6),E35fb1 (mkAr c aw_5 cw_6),E99bbc ra_3_1 (rmAr c (rpackW c) aw_3_1 cw_3_1) false 0,E35fb1 (rmAr c (rpackW c) aw_3_1 cw_3_1),E0b46c b_5_1 0,E0b46c b_9_1 0]:=by
  intro ra_3_1 aw_3_1 cw_3_1 b_5_1 b_9_1
  refine zN [] [(0,.e 1),(1,.w),(6,.w),(10,.w)] [25,21,19,3,4,16,17,22,26] [7,11] (.e b_3 .n) ⟨?_, ?_,trivial⟩
  ·refine zX .w (sN fun b_7_1=>(sV ?_))
   exact zW [25,23,21,19,3,4,16,17,26] [0,1,2,3,4,5,6,8,7] (aS_158 ra_3_1 aw_3_1 cw_3_1 b_5_1 b_7_1 b_9_1)
  ·refine zX .w (sN fun b_11_1=>(sV ?_))
   exact zW [27,25,21,19,3,4,16,17,22] [0,1,2,3,4,5,6,7,8] (aS_160 ra_3_1 aw_3_1 cw_3_1 b_5_1 b_9_1 b_11_1)
 have aS_165:∀(ra_3_1:Nat) (aw_3_1:Option Addr) (cw_3_1:Nat) (b_5_1:Nat) (b_11_1:Nat),Lz Tryz.prog Tryz.f26 B26 35 F (RetR F (Ylaw17_begun c)) (regOps B26 [0,1,1,1,1]) [.c [1,1,1,1,1]] (mk 16 [0,1,2,3,4,5,6,8,10,11]) [0,1,6,8] [(27,vP b_11_1),(21,vP b_5_1),(19,vP ra_3_1),(3,vP b_3),(4,vP ba_4),(16,cfgV c),(17,vP ba_4),(22,zK),(24,zK)] [.pts b_1 [vI q0,vI q1,vI q2] 22,Efdc04 b_3 c,E3504b ba_4 (mkAr c aw_5 cw_6),E35fb1 (mkAr c aw_5 cw_6),E99bbc ra_3_1 (rmAr c (rpackW c) aw_3_1 cw_3_1) false 0,E35fb1 (rmAr c (rpackW c) aw_3_1 cw_3_1),E0b46c b_5_1 0,E0b46c b_11_1 0]:=by
  intro ra_3_1 aw_3_1 cw_3_1 b_5_1 b_11_1
  refine zN [] [(0,.e 1),(1,.w),(6,.w),(8,.w)] [27,21,19,3,4,16,17,22,24] [7,9] (.e b_3 .n) ⟨?_, ?_,trivial⟩
  ·refine zX .w (sN fun b_7_1=>(sV ?_))
   exact zW [27,23,21,19,3,4,16,17,24] [0,1,2,3,4,5,6,8,7] (aS_159 ra_3_1 aw_3_1 cw_3_1 b_5_1 b_7_1 b_11_1)
  ·refine zX .w (sN fun b_9_1=>(sV ?_))
   exact zW [27,25,21,19,3,4,16,17,22] [0,1,2,3,4,5,6,8,7] (aS_160 ra_3_1 aw_3_1 cw_3_1 b_5_1 b_9_1 b_11_1)
 have aS_166:∀(ra_3_1:Nat) (aw_3_1:Option Addr) (cw_3_1:Nat) (b_7_1:Nat) (b_9_1:Nat),Lz Tryz.prog Tryz.f26 B26 35 F (RetR F (Ylaw17_begun c)) (regOps B26 [0,1,1,1,1]) [.c [1,1,1,1,1]] (mk 16 [0,1,2,3,4,6,7,8,9,10]) [0,1,4,10] [(25,vP b_9_1),(23,vP b_7_1),(19,vP ra_3_1),(3,vP b_3),(4,vP ba_4),(16,cfgV c),(17,vP ba_4),(20,zK),(26,zK)] [.pts b_1 [vI q0,vI q1,vI q2] 22,Efdc04 b_3 c,E3504b ba_4 (mkAr c aw_5 cw_6),E35fb1 (mkAr c aw_5 cw_6),E99bbc ra_3_1 (rmAr c (rpackW c) aw_3_1 cw_3_1) false 0,E35fb1 (rmAr c (rpackW c) aw_3_1 cw_3_1),E0b46c b_7_1 0,E0b46c b_9_1 0]:=by
  intro ra_3_1 aw_3_1 cw_3_1 b_7_1 b_9_1
  refine zN [] [(0,.e 1),(1,.w),(4,.w),(10,.w)] [25,23,19,3,4,16,17,20,26] [5,11] (.e b_3 .n) ⟨?_, ?_,trivial⟩
  ·refine zX .w (sN fun b_5_1=>(sV ?_))
   exact zW [25,23,21,19,3,4,16,17,26] [0,1,2,3,4,5,8,6,7] (aS_158 ra_3_1 aw_3_1 cw_3_1 b_5_1 b_7_1 b_9_1)
  ·refine zX .w (sN fun b_11_1=>(sV ?_))
   exact zW [27,25,23,19,3,4,16,17,20] [0,1,2,3,4,5,6,7,8] (aS_161 ra_3_1 aw_3_1 cw_3_1 b_7_1 b_9_1 b_11_1)
 have aS_167:∀(ra_3_1:Nat) (aw_3_1:Option Addr) (cw_3_1:Nat) (b_7_1:Nat) (b_11_1:Nat),Lz Tryz.prog Tryz.f26 B26 35 F (RetR F (Ylaw17_begun c)) (regOps B26 [0,1,1,1,1]) [.c [1,1,1,1,1]] (mk 16 [0,1,2,3,4,6,7,8,10,11]) [0,1,4,8] [(27,vP b_11_1),(23,vP b_7_1),(19,vP ra_3_1),(3,vP b_3),(4,vP ba_4),(16,cfgV c),(17,vP ba_4),(20,zK),(24,zK)] [.pts b_1 [vI q0,vI q1,vI q2] 22,Efdc04 b_3 c,E3504b ba_4 (mkAr c aw_5 cw_6),E35fb1 (mkAr c aw_5 cw_6),E99bbc ra_3_1 (rmAr c (rpackW c) aw_3_1 cw_3_1) false 0,E35fb1 (rmAr c (rpackW c) aw_3_1 cw_3_1),E0b46c b_7_1 0,E0b46c b_11_1 0]:=by
  intro ra_3_1 aw_3_1 cw_3_1 b_7_1 b_11_1
  refine zN [] [(0,.e 1),(1,.w),(4,.w),(8,.w)] [27,23,19,3,4,16,17,20,24] [5,9] (.e b_3 .n) ⟨?_, ?_,trivial⟩
  ·refine zX .w (sN fun b_5_1=>(sV ?_))
   exact zW [27,23,21,19,3,4,16,17,24] [0,1,2,3,4,5,8,6,7] (aS_159 ra_3_1 aw_3_1 cw_3_1 b_5_1 b_7_1 b_11_1)
  ·refine zX .w (sN fun b_9_1=>(sV ?_))
   exact zW [27,25,23,19,3,4,16,17,20] [0,1,2,3,4,5,6,8,7] (aS_161 ra_3_1 aw_3_1 cw_3_1 b_7_1 b_9_1 b_11_1)
 have aS_168:∀(ra_3_1:Nat) (aw_3_1:Option Addr) (cw_3_1:Nat) (b_9_1:Nat) (b_11_1:Nat),Lz Tryz.prog Tryz.f26 B26 35 F (RetR F (Ylaw17_begun c)) (regOps B26 [0,1,1,1,1]) [.c [1,1,1,1,1]] (mk 16 [0,1,2,3,4,6,8,9,10,11]) [0,1,4,6] [(27,vP b_11_1),(25,vP b_9_1),(19,vP ra_3_1),(3,vP b_3),(4,vP ba_4),(16,cfgV c),(17,vP ba_4),(20,zK),(22,zK)] [.pts b_1 [vI q0,vI q1,vI q2] 22,Efdc04 b_3 c,E3504b ba_4 (mkAr c aw_5 cw_6),E35fb1 (mkAr c aw_5 cw_6),E99bbc ra_3_1 (rmAr c (rpackW c) aw_3_1 cw_3_1) false 0,E35fb1 (rmAr c (rpackW c) aw_3_1 cw_3_1),E0b46c b_9_1 0,E0b46c b_11_1 0]:=by
  intro ra_3_1 aw_3_1 cw_3_1 b_9_1 b_11_1
  refine zN [] [(0,.e 1),(1,.w),(4,.w),(6,.w)] [27,25,19,3,4,16,17,20,22] [5,7] (.e b_3 .n) ⟨?_, ?_,trivial⟩
  ·refine zX .w (sN fun b_5_1=>(sV ?_))
   exact zW [27,25,21,19,3,4,16,17,22] [0,1,2,3,4,5,8,6,7] (aS_160 ra_3_1 aw_3_1 cw_3_1 b_5_1 b_9_1 b_11_1)
  ·refine zX .w (sN fun b_7_1=>(sV ?_))
   exact zW [27,25,23,19,3,4,16,17,20] [0,1,2,3,4,5,8,6,7] (aS_161 ra_3_1 aw_3_1 cw_3_1 b_7_1 b_9_1 b_11_1)
 have aS_169:∀(b_5_1:Nat) (b_7_1:Nat) (b_9_1:Nat),Lz Tryz.prog Tryz.f26 B26 35 F (RetR F (Ylaw17_begun c)) (regOps B26 [0,1,1,1,1]) [.c [1,1,1,1,1]] (mk 16 [0,1,2,4,5,6,7,8,9,10]) [0,1,2,10] [(25,vP b_9_1),(23,vP b_7_1),(21,vP b_5_1),(3,vP b_3),(4,vP ba_4),(16,cfgV c),(17,vP ba_4),(18,cfgV c),(26,zK)] [.pts b_1 [vI q0,vI q1,vI q2] 22,Efdc04 b_3 c,E3504b ba_4 (mkAr c aw_5 cw_6),E35fb1 (mkAr c aw_5 cw_6),E0b46c b_5_1 0,E0b46c b_7_1 0,E0b46c b_9_1 0]:=by
  intro b_5_1 b_7_1 b_9_1
  refine zN [] [(0,.e 1),(1,.w),(2,.e 1),(10,.w)] [25,23,21,3,4,16,17,18,26] [3,11] (.e b_3 (.e b_3 .n)) ⟨?_, ?_,trivial⟩
  ·refine zC (some 19) [] Tryz.call68 (ref_MakeX c hc) ?_
   rintro v post ⟨ra_3_1,aw_3_1,cw_3_1,rfl,rfl⟩
   exact zW [25,23,21,19,3,4,16,17,26] [0,1,2,3,7,8,4,5,6] (aS_158 ra_3_1 aw_3_1 cw_3_1 b_5_1 b_7_1 b_9_1)
  ·refine zX .w (sN fun b_11_1=>(sV ?_))
   exact zW [27,25,23,21,3,4,16,17,18] [0,1,2,3,4,5,6,7] (aS_162 b_5_1 b_7_1 b_9_1 b_11_1)
 have aS_170:∀(b_5_1:Nat) (b_7_1:Nat) (b_11_1:Nat),Lz Tryz.prog Tryz.f26 B26 35 F (RetR F (Ylaw17_begun c)) (regOps B26 [0,1,1,1,1]) [.c [1,1,1,1,1]] (mk 16 [0,1,2,4,5,6,7,8,10,11]) [0,1,2,8] [(27,vP b_11_1),(23,vP b_7_1),(21,vP b_5_1),(3,vP b_3),(4,vP ba_4),(16,cfgV c),(17,vP ba_4),(18,cfgV c),(24,zK)] [.pts b_1 [vI q0,vI q1,vI q2] 22,Efdc04 b_3 c,E3504b ba_4 (mkAr c aw_5 cw_6),E35fb1 (mkAr c aw_5 cw_6),E0b46c b_5_1 0,E0b46c b_7_1 0,E0b46c b_11_1 0]:=by
  intro b_5_1 b_7_1 b_11_1
  refine zN [] [(0,.e 1),(1,.w),(2,.e 1),(8,.w)] [27,23,21,3,4,16,17,18,24] [3,9] (.e b_3 (.e b_3 .n)) ⟨?_, ?_,trivial⟩
  ·refine zC (some 19) [] Tryz.call68 (ref_MakeX c hc) ?_
   rintro v post ⟨ra_3_1,aw_3_1,cw_3_1,rfl,rfl⟩
   exact zW [27,23,21,19,3,4,16,17,24] [0,1,2,3,7,8,4,5,6] (aS_159 ra_3_1 aw_3_1 cw_3_1 b_5_1 b_7_1 b_11_1)
  ·refine zX .w (sN fun b_9_1=>(sV ?_))
   exact zW [27,25,23,21,3,4,16,17,18] [0,1,2,3,4,5,7,6] (aS_162 b_5_1 b_7_1 b_9_1 b_11_1)
 have aS_171:∀(b_5_1:Nat) (b_9_1:Nat) (b_11_1:Nat),Lz Tryz.prog Tryz.f26 B26 35 F (RetR F (Ylaw17_begun c)) (regOps B26 [0,1,1,1,1]) [.c [1,1,1,1,1]] (mk 16 [0,1,2,4,5,6,8,9,10,11]) [0,1,2,6] [(27,vP b_11_1),(25,vP b_9_1),(21,vP b_5_1),(3,vP b_3),(4,vP ba_4),(16,cfgV c),(17,vP ba_4),(18,cfgV c),(22,zK)] [.pts b_1 [vI q0,vI q1,vI q2] 22,Efdc04 b_3 c,E3504b ba_4 (mkAr c aw_5 cw_6),E35fb1 (mkAr c aw_5 cw_6),E0b46c b_5_1 0,E0b46c b_9_1 0,E0b46c b_11_1 0]:=by
  intro b_5_1 b_9_1 b_11_1
  refine zN [] [(0,.e 1),(1,.w),(2,.e 1),(6,.w)] [27,25,21,3,4,16,17,18,22] [3,7] (.e b_3 (.e b_3 .n)) ⟨?_, ?_,trivial⟩
  ·refine zC (some 19) [] Tryz.call68 (ref_MakeX c hc) ?_
   rintro v post ⟨ra_3_1,aw_3_1,cw_3_1,rfl,rfl⟩
   exact zW [27,25,21,19,3,4,16,17,22] [0,1,2,3,7,8,4,5,6] (aS_160 ra_3_1 aw_3_1 cw_3_1 b_5_1 b_9_1 b_11_1)
  ·refine zX .w (sN fun b_7_1=>(sV ?_))
   exact zW [27,25,23,21,3,4,16,17,18] [0,1,2,3,4,7,5,6] (aS_162 b_5_1 b_7_1 b_9_1 b_11_1)
 have aS_172:∀(b_7_1:Nat) (b_9_1:Nat) (b_11_1:Nat),Lz Tryz.prog Tryz.f26 B26 35 F (RetR F (Ylaw17_begun c)) (regOps B26 [0,1,1,1,1]) [.c [1,1,1,1,1]] (mk 16 [0,1,2,4,6,7,8,9,10,11]) [0,1,2,4] [(27,vP b_11_1),(25,vP b_9_1),(23,vP b_7_1),(3,vP b_3),(4,vP ba_4),(16,cfgV c),(17,vP ba_4),(18,cfgV c),(20,zK)] [.pts b_1 [vI q0,vI q1,vI q2] 22,Efdc04 b_3 c,E3504b ba_4 (mkAr c aw_5 cw_6),E35fb1 (mkAr c aw_5 cw_6),E0b46c b_7_1 0,E0b46c b_9_1 0,E0b46c b_11_1 0]:=by
  intro b_7_1 b_9_1 b_11_1
  refine zN [] [(0,.e 1),(1,.w),(2,.e 1),(4,.w)] [27,25,23,3,4,16,17,18,20] [3,5] (.e b_3 (.e b_3 .n)) ⟨?_, ?_,trivial⟩
  ·refine zC (some 19) [] Tryz.call68 (ref_MakeX c hc) ?_
   rintro v post ⟨ra_3_1,aw_3_1,cw_3_1,rfl,rfl⟩
   exact zW [27,25,23,19,3,4,16,17,20] [0,1,2,3,7,8,4,5,6] (aS_161 ra_3_1 aw_3_1 cw_3_1 b_7_1 b_9_1 b_11_1)
  ·refine zX .w (sN fun b_5_1=>(sV ?_))
   exact zW [27,25,23,21,3,4,16,17,18] [0,1,2,3,7,4,5,6] (aS_162 b_5_1 b_7_1 b_9_1 b_11_1)
 have aS_173:∀(ra_3_1:Nat) (aw_3_1:Option Addr) (cw_3_1:Nat) (b_5_1:Nat),Lz Tryz.prog Tryz.f26 B26 35 F (RetR F (Ylaw17_begun c)) (regOps B26 [0,1,1,1,1]) [.c [1,1,1,1,1]] (mk 16 [0,1,2,3,4,5,6,8,10]) [0,1,6,8,10] [(21,vP b_5_1),(19,vP ra_3_1),(3,vP b_3),(4,vP ba_4),(16,cfgV c),(17,vP ba_4),(22,zK),(24,zK),(26,zK)] [.pts b_1 [vI q0,vI q1,vI q2] 22,Efdc04 b_3 c,E3504b ba_4 (mkAr c aw_5 cw_6),E35fb1 (mkAr c aw_5 cw_6),E99bbc ra_3_1 (rmAr c (rpackW c) aw_3_1 cw_3_1) false 0,E35fb1 (rmAr c (rpackW c) aw_3_1 cw_3_1),E0b46c b_5_1 0]:=by
  intro ra_3_1 aw_3_1 cw_3_1 b_5_1
  refine zN [] [(0,.e 1),(1,.w),(6,.w),(8,.w),(10,.w)] [21,19,3,4,16,17,22,24,26] [7,9,11] (.e b_3 .n) ⟨?_, ?_, ?_,trivial⟩
  ·refine zX .w (sN fun b_7_1=>(sV ?_))
   exact zW [23,21,19,3,4,16,17,24,26] [0,1,2,3,4,5,6,7] (aS_163 ra_3_1 aw_3_1 cw_3_1 b_5_1 b_7_1)
  ·refine zX .w (sN fun b_9_1=>(sV ?_))
   exact zW [25,21,19,3,4,16,17,22,26] [0,1,2,3,4,5,6,7] (aS_164 ra_3_1 aw_3_1 cw_3_1 b_5_1 b_9_1)
  ·refine zX .w (sN fun b_11_1=>(sV ?_))
   exact zW [27,21,19,3,4,16,17,22,24] [0,1,2,3,4,5,6,7] (aS_165 ra_3_1 aw_3_1 cw_3_1 b_5_1 b_11_1)
 have aS_174:∀(ra_3_1:Nat) (aw_3_1:Option Addr) (cw_3_1:Nat) (b_7_1:Nat),Lz Tryz.prog Tryz.f26 B26 35 F (RetR F (Ylaw17_begun c)) (regOps B26 [0,1,1,1,1]) [.c [1,1,1,1,1]] (mk 16 [0,1,2,3,4,6,7,8,10]) [0,1,4,8,10] [(23,vP b_7_1),(19,vP ra_3_1),(3,vP b_3),(4,vP ba_4),(16,cfgV c),(17,vP ba_4),(20,zK),(24,zK),(26,zK)] [.pts b_1 [vI q0,vI q1,vI q2] 22,Efdc04 b_3 c,E3504b ba_4 (mkAr c aw_5 cw_6),E35fb1 (mkAr c aw_5 cw_6),E99bbc ra_3_1 (rmAr c (rpackW c) aw_3_1 cw_3_1) false 0,E35fb1 (rmAr c (rpackW c) aw_3_1 cw_3_1),E0b46c b_7_1 0]:=by
  intro ra_3_1 aw_3_1 cw_3_1 b_7_1
  refine zN [] [(0,.e 1),(1,.w),(4,.w),(8,.w),(10,.w)] [23,19,3,4,16,17,20,24,26] [5,9,11] (.e b_3 .n) ⟨?_, ?_, ?_,trivial⟩
  ·refine zX .w (sN fun b_5_1=>(sV ?_))
   exact zW [23,21,19,3,4,16,17,24,26] [0,1,2,3,4,5,7,6] (aS_163 ra_3_1 aw_3_1 cw_3_1 b_5_1 b_7_1)
  ·refine zX .w (sN fun b_9_1=>(sV ?_))
   exact zW [25,23,19,3,4,16,17,20,26] [0,1,2,3,4,5,6,7] (aS_166 ra_3_1 aw_3_1 cw_3_1 b_7_1 b_9_1)
  ·refine zX .w (sN fun b_11_1=>(sV ?_))
   exact zW [27,23,19,3,4,16,17,20,24] [0,1,2,3,4,5,6,7] (aS_167 ra_3_1 aw_3_1 cw_3_1 b_7_1 b_11_1)
 have aS_175:∀(ra_3_1:Nat) (aw_3_1:Option Addr) (cw_3_1:Nat) (b_9_1:Nat),Lz Tryz.prog Tryz.f26 B26 35 F (RetR F (Ylaw17_begun c)) (regOps B26 [0,1,1,1,1]) [.c [1,1,1,1,1]] (mk 16 [0,1,2,3,4,6,8,9,10]) [0,1,4,6,10] [(25,vP b_9_1),(19,vP ra_3_1),(3,vP b_3),(4,vP ba_4),(16,cfgV c),(17,vP ba_4),(20,zK),(22,zK),(26,zK)] [.pts b_1 [vI q0,vI q1,vI q2] 22,Efdc04 b_3 c,E3504b ba_4 (mkAr c aw_5 cw_6),E35fb1 (mkAr c aw_5 cw_6),E99bbc ra_3_1 (rmAr c (rpackW c) aw_3_1 cw_3_1) false 0,E35fb1 (rmAr c (rpackW c) aw_3_1 cw_3_1),E0b46c b_9_1 0]:=by
  intro ra_3_1 aw_3_1 cw_3_1 b_9_1
  refine zN [] [(0,.e 1),(1,.w),(4,.w),(6,.w),(10,.w)] [25,19,3,4,16,17,20,22,26] [5,7,11] (.e b_3 .n) ⟨?_, ?_, ?_,trivial⟩
  ·refine zX .w (sN fun b_5_1=>(sV ?_))
   exact zW [25,21,19,3,4,16,17,22,26] [0,1,2,3,4,5,7,6] (aS_164 ra_3_1 aw_3_1 cw_3_1 b_5_1 b_9_1)
  ·refine zX .w (sN fun b_7_1=>(sV ?_))
   exact zW [25,23,19,3,4,16,17,20,26] [0,1,2,3,4,5,7,6] (aS_166 ra_3_1 aw_3_1 cw_3_1 b_7_1 b_9_1)
  ·refine zX .w (sN fun b_11_1=>(sV ?_))
   exact zW [27,25,19,3,4,16,17,20,22] [0,1,2,3,4,5,6,7] (aS_168 ra_3_1 aw_3_1 cw_3_1 b_9_1 b_11_1)
 have aS_176:∀(ra_3_1:Nat) (aw_3_1:Option Addr) (cw_3_1:Nat) (b_11_1:Nat),Lz Tryz.prog Tryz.f26 B26 35 F (RetR F (Ylaw17_begun c)) (regOps B26 [0,1,1,1,1]) [.c [1,1,1,1,1]] (mk 16 [0,1,2,3,4,6,8,10,11]) [0,1,4,6,8] [(27,vP b_11_1),(19,vP ra_3_1),(3,vP b_3),(4,vP ba_4),(16,cfgV c),(17,vP ba_4),(20,zK),(22,zK),(24,zK)] [.pts b_1 [vI q0,vI q1,vI q2] 22,Efdc04 b_3 c,E3504b ba_4 (mkAr c aw_5 cw_6),E35fb1 (mkAr c aw_5 cw_6),E99bbc ra_3_1 (rmAr c (rpackW c) aw_3_1 cw_3_1) false 0,E35fb1 (rmAr c (rpackW c) aw_3_1 cw_3_1),E0b46c b_11_1 0]:=by
  intro ra_3_1 aw_3_1 cw_3_1 b_11_1
  refine zN [] [(0,.e 1),(1,.w),(4,.w),(6,.w),(8,.w)] [27,19,3,4,16,17,20,22,24] [5,7,9] (.e b_3 .n) ⟨?_, ?_, ?_,trivial⟩
  ·refine zX .w (sN fun b_5_1=>(sV ?_))
   exact zW [27,21,19,3,4,16,17,22,24] [0,1,2,3,4,5,7,6] (aS_165 ra_3_1 aw_3_1 cw_3_1 b_5_1 b_11_1)
  ·refine zX .w (sN fun b_7_1=>(sV ?_))
   exact zW [27,23,19,3,4,16,17,20,24] [0,1,2,3,4,5,7,6] (aS_167 ra_3_1 aw_3_1 cw_3_1 b_7_1 b_11_1)
  ·refine zX .w (sN fun b_9_1=>(sV ?_))
   exact zW [27,25,19,3,4,16,17,20,22] [0,1,2,3,4,5,7,6] (aS_168 ra_3_1 aw_3_1 cw_3_1 b_9_1 b_11_1)
 have aS_177:∀(b_5_1:Nat) (b_7_1:Nat),Lz Tryz.prog Tryz.f26 B26 35 F (RetR F (Ylaw17_begun c)) (regOps B26 [0,1,1,1,1]) [.c [1,1,1,1,1]] (mk 16 [0,1,2,4,5,6,7,8,10]) [0,1,2,8,10] [(23,vP b_7_1),(21,vP b_5_1),(3,vP b_3),(4,vP ba_4),(16,cfgV c),(17,vP ba_4),(18,cfgV c),(24,zK),(26,zK)] [.pts b_1 [vI q0,vI q1,vI q2] 22,Efdc04 b_3 c,E3504b ba_4 (mkAr c aw_5 cw_6),E35fb1 (mkAr c aw_5 cw_6),E0b46c b_5_1 0,E0b46c b_7_1 0]:=by
  intro b_5_1 b_7_1
  refine zN [] [(0,.e 1),(1,.w),(2,.e 1),(8,.w),(10,.w)] [23,21,3,4,16,17,18,24,26] [3,9,11] (.e b_3 (.e b_3 .n)) ⟨?_, ?_, ?_,trivial⟩
  ·refine zC (some 19) [] Tryz.call68 (ref_MakeX c hc) ?_
   rintro v post ⟨ra_3_1,aw_3_1,cw_3_1,rfl,rfl⟩
   exact zW [23,21,19,3,4,16,17,24,26] [0,1,2,3,6,7,4,5] (aS_163 ra_3_1 aw_3_1 cw_3_1 b_5_1 b_7_1)
  ·refine zX .w (sN fun b_9_1=>(sV ?_))
   exact zW [25,23,21,3,4,16,17,18,26] [0,1,2,3,4,5,6] (aS_169 b_5_1 b_7_1 b_9_1)
  ·refine zX .w (sN fun b_11_1=>(sV ?_))
   exact zW [27,23,21,3,4,16,17,18,24] [0,1,2,3,4,5,6] (aS_170 b_5_1 b_7_1 b_11_1)
 have aS_178:∀(b_5_1:Nat) (b_9_1:Nat),Lz Tryz.prog Tryz.f26 B26 35 F (RetR F (Ylaw17_begun c)) (regOps B26 [0,1,1,1,1]) [.c [1,1,1,1,1]] (mk 16 [0,1,2,4,5,6,8,9,10]) [0,1,2,6,10] [(25,vP b_9_1),(21,vP b_5_1),(3,vP b_3),(4,vP ba_4),(16,cfgV c),(17,vP ba_4),(18,cfgV c),(22,zK),(26,zK)] [.pts b_1 [vI q0,vI q1,vI q2] 22,Efdc04 b_3 c,E3504b ba_4 (mkAr c aw_5 cw_6),E35fb1 (mkAr c aw_5 cw_6),E0b46c b_5_1 0,E0b46c b_9_1 0]:=by
  intro b_5_1 b_9_1
  refine zN [] [(0,.e 1),(1,.w),(2,.e 1),(6,.w),(10,.w)] [25,21,3,4,16,17,18,22,26] [3,7,11] (.e b_3 (.e b_3 .n)) ⟨?_, ?_, ?_,trivial⟩
  ·refine zC (some 19) [] Tryz.call68 (ref_MakeX c hc) ?_
   rintro v post ⟨ra_3_1,aw_3_1,cw_3_1,rfl,rfl⟩
   exact zW [25,21,19,3,4,16,17,22,26] [0,1,2,3,6,7,4,5] (aS_164 ra_3_1 aw_3_1 cw_3_1 b_5_1 b_9_1)
  ·refine zX .w (sN fun b_7_1=>(sV ?_))
   exact zW [25,23,21,3,4,16,17,18,26] [0,1,2,3,4,6,5] (aS_169 b_5_1 b_7_1 b_9_1)
  ·refine zX .w (sN fun b_11_1=>(sV ?_))
   exact zW [27,25,21,3,4,16,17,18,22] [0,1,2,3,4,5,6] (aS_171 b_5_1 b_9_1 b_11_1)
 have aS_179:∀(b_5_1:Nat) (b_11_1:Nat),Lz Tryz.prog Tryz.f26 B26 35 F (RetR F (Ylaw17_begun c)) (regOps B26 [0,1,1,1,1]) [.c [1,1,1,1,1]] (mk 16 [0,1,2,4,5,6,8,10,11]) [0,1,2,6,8] [(27,vP b_11_1),(21,vP b_5_1),(3,vP b_3),(4,vP ba_4),(16,cfgV c),(17,vP ba_4),(18,cfgV c),(22,zK),(24,zK)] [.pts b_1 [vI q0,vI q1,vI q2] 22,Efdc04 b_3 c,E3504b ba_4 (mkAr c aw_5 cw_6),E35fb1 (mkAr c aw_5 cw_6),E0b46c b_5_1 0,E0b46c b_11_1 0]:=by
  intro b_5_1 b_11_1
  refine zN [] [(0,.e 1),(1,.w),(2,.e 1),(6,.w),(8,.w)] [27,21,3,4,16,17,18,22,24] [3,7,9] (.e b_3 (.e b_3 .n)) ⟨?_, ?_, ?_,trivial⟩
  ·refine zC (some 19) [] Tryz.call68 (ref_MakeX c hc) ?_
   rintro v post ⟨ra_3_1,aw_3_1,cw_3_1,rfl,rfl⟩
   exact zW [27,21,19,3,4,16,17,22,24] [0,1,2,3,6,7,4,5] (aS_165 ra_3_1 aw_3_1 cw_3_1 b_5_1 b_11_1)
  ·refine zX .w (sN fun b_7_1=>(sV ?_))
   exact zW [27,23,21,3,4,16,17,18,24] [0,1,2,3,4,6,5] (aS_170 b_5_1 b_7_1 b_11_1)
  ·refine zX .w (sN fun b_9_1=>(sV ?_))
   exact zW [27,25,21,3,4,16,17,18,22] [0,1,2,3,4,6,5] (aS_171 b_5_1 b_9_1 b_11_1)
 have aS_180:∀(b_7_1:Nat) (b_9_1:Nat),Lz Tryz.prog Tryz.f26 B26 35 F (RetR F (Ylaw17_begun c)) (regOps B26 [0,1,1,1,1]) [.c [1,1,1,1,1]] (mk 16 [0,1,2,4,6,7,8,9,10]) [0,1,2,4,10] [(25,vP b_9_1),(23,vP b_7_1),(3,vP b_3),(4,vP ba_4),(16,cfgV c),(17,vP ba_4),(18,cfgV c),(20,zK),(26,zK)] [.pts b_1 [vI q0,vI q1,vI q2] 22,Efdc04 b_3 c,E3504b ba_4 (mkAr c aw_5 cw_6),E35fb1 (mkAr c aw_5 cw_6),E0b46c b_7_1 0,E0b46c b_9_1 0]:=by
  intro b_7_1 b_9_1
  refine zN [] [(0,.e 1),(1,.w),(2,.e 1),(4,.w),(10,.w)] [25,23,3,4,16,17,18,20,26] [3,5,11] (.e b_3 (.e b_3 .n)) ⟨?_, ?_, ?_,trivial⟩
  ·refine zC (some 19) [] Tryz.call68 (ref_MakeX c hc) ?_
   rintro v post ⟨ra_3_1,aw_3_1,cw_3_1,rfl,rfl⟩
   exact zW [25,23,19,3,4,16,17,20,26] [0,1,2,3,6,7,4,5] (aS_166 ra_3_1 aw_3_1 cw_3_1 b_7_1 b_9_1)
  ·refine zX .w (sN fun b_5_1=>(sV ?_))
   exact zW [25,23,21,3,4,16,17,18,26] [0,1,2,3,6,4,5] (aS_169 b_5_1 b_7_1 b_9_1)
  ·refine zX .w (sN fun b_11_1=>(sV ?_))
   exact zW [27,25,23,3,4,16,17,18,20] [0,1,2,3,4,5,6] (aS_172 b_7_1 b_9_1 b_11_1)
 have aS_181:∀(b_7_1:Nat) (b_11_1:Nat),Lz Tryz.prog Tryz.f26 B26 35 F (RetR F (Ylaw17_begun c)) (regOps B26 [0,1,1,1,1]) [.c [1,1,1,1,1]] (mk 16 [0,1,2,4,6,7,8,10,11]) [0,1,2,4,8] [(27,vP b_11_1),(23,vP b_7_1),(3,vP b_3),(4,vP ba_4),(16,cfgV c),(17,vP ba_4),(18,cfgV c),(20,zK),(24,zK)] [.pts b_1 [vI q0,vI q1,vI q2] 22,Efdc04 b_3 c,E3504b ba_4 (mkAr c aw_5 cw_6),E35fb1 (mkAr c aw_5 cw_6),E0b46c b_7_1 0,E0b46c b_11_1 0]:=by
  intro b_7_1 b_11_1
  refine zN [] [(0,.e 1),(1,.w),(2,.e 1),(4,.w),(8,.w)] [27,23,3,4,16,17,18,20,24] [3,5,9] (.e b_3 (.e b_3 .n)) ⟨?_, ?_, ?_,trivial⟩
  ·refine zC (some 19) [] Tryz.call68 (ref_MakeX c hc) ?_
   rintro v post ⟨ra_3_1,aw_3_1,cw_3_1,rfl,rfl⟩
   exact zW [27,23,19,3,4,16,17,20,24] [0,1,2,3,6,7,4,5] (aS_167 ra_3_1 aw_3_1 cw_3_1 b_7_1 b_11_1)
  ·refine zX .w (sN fun b_5_1=>(sV ?_))
   exact zW [27,23,21,3,4,16,17,18,24] [0,1,2,3,6,4,5] (aS_170 b_5_1 b_7_1 b_11_1)
  ·refine zX .w (sN fun b_9_1=>(sV ?_))
   exact zW [27,25,23,3,4,16,17,18,20] [0,1,2,3,4,6,5] (aS_172 b_7_1 b_9_1 b_11_1)
 have aS_182:∀(b_9_1:Nat) (b_11_1:Nat),Lz Tryz.prog Tryz.f26 B26 35 F (RetR F (Ylaw17_begun c)) (regOps B26 [0,1,1,1,1]) [.c [1,1,1,1,1]] (mk 16 [0,1,2,4,6,8,9,10,11]) [0,1,2,4,6] [(27,vP b_11_1),(25,vP b_9_1),(3,vP b_3),(4,vP ba_4),(16,cfgV c),(17,vP ba_4),(18,cfgV c),(20,zK),(22,zK)] [.pts b_1 [vI q0,vI q1,vI q2] 22,Efdc04 b_3 c,E3504b ba_4 (mkAr c aw_5 cw_6),E35fb1 (mkAr c aw_5 cw_6),E0b46c b_9_1 0,E0b46c b_11_1 0]:=by
  intro b_9_1 b_11_1
  refine zN [] [(0,.e 1),(1,.w),(2,.e 1),(4,.w),(6,.w)] [27,25,3,4,16,17,18,20,22] [3,5,7] (.e b_3 (.e b_3 .n)) ⟨?_, ?_, ?_,trivial⟩
  ·refine zC (some 19) [] Tryz.call68 (ref_MakeX c hc) ?_
   rintro v post ⟨ra_3_1,aw_3_1,cw_3_1,rfl,rfl⟩
   exact zW [27,25,19,3,4,16,17,20,22] [0,1,2,3,6,7,4,5] (aS_168 ra_3_1 aw_3_1 cw_3_1 b_9_1 b_11_1)
  ·refine zX .w (sN fun b_5_1=>(sV ?_))
   exact zW [27,25,21,3,4,16,17,18,22] [0,1,2,3,6,4,5] (aS_171 b_5_1 b_9_1 b_11_1)
  ·refine zX .w (sN fun b_7_1=>(sV ?_))
   exact zW [27,25,23,3,4,16,17,18,20] [0,1,2,3,6,4,5] (aS_172 b_7_1 b_9_1 b_11_1)
 have aS_183:∀(ra_3_1:Nat) (aw_3_1:Option Addr) (cw_3_1:Nat),Lz Tryz.prog Tryz.f26 B26 35 F (RetR F (Ylaw17_begun c)) (regOps B26 [0,1,1,1,1]) [.c [1,1,1,1,1]] (mk 16 [0,1,2,3,4,6,8,10]) [0,1,4,6,8,10] [(19,vP ra_3_1),(3,vP b_3),(4,vP ba_4),(16,cfgV c),(17,vP ba_4),(20,zK),(22,zK),(24,zK),(26,zK)] [.pts b_1 [vI q0,vI q1,vI q2] 22,Efdc04 b_3 c,E3504b ba_4 (mkAr c aw_5 cw_6),E35fb1 (mkAr c aw_5 cw_6),E99bbc ra_3_1 (rmAr c (rpackW c) aw_3_1 cw_3_1) false 0,E35fb1 (rmAr c (rpackW c) aw_3_1 cw_3_1)]:=by
  intro ra_3_1 aw_3_1 cw_3_1
  refine zN [] [(0,.e 1),(1,.w),(4,.w),(6,.w),(8,.w),(10,.w)] [19,3,4,16,17,20,22,24,26] [5,7,9,11] (.e b_3 .n) ⟨?_, ?_, ?_, ?_,trivial⟩
  ·refine zX .w (sN fun b_5_1=>(sV ?_))
   exact zW [21,19,3,4,16,17,22,24,26] [0,1,2,3,4,5,6] (aS_173 ra_3_1 aw_3_1 cw_3_1 b_5_1)
  ·refine zX .w (sN fun b_7_1=>(sV ?_))
   exact zW [23,19,3,4,16,17,20,24,26] [0,1,2,3,4,5,6] (aS_174 ra_3_1 aw_3_1 cw_3_1 b_7_1)
  ·refine zX .w (sN fun b_9_1=>(sV ?_))
   exact zW [25,19,3,4,16,17,20,22,26] [0,1,2,3,4,5,6] (aS_175 ra_3_1 aw_3_1 cw_3_1 b_9_1)
  ·refine zX .w (sN fun b_11_1=>(sV ?_))
   exact zW [27,19,3,4,16,17,20,22,24] [0,1,2,3,4,5,6] (aS_176 ra_3_1 aw_3_1 cw_3_1 b_11_1)
 have aS_184:∀(b_5_1:Nat),Lz Tryz.prog Tryz.f26 B26 35 F (RetR F (Ylaw17_begun c)) (regOps B26 [0,1,1,1,1]) [.c [1,1,1,1,1]] (mk 16 [0,1,2,4,5,6,8,10]) [0,1,2,6,8,10] [(21,vP b_5_1),(3,vP b_3),(4,vP ba_4),(16,cfgV c),(17,vP ba_4),(18,cfgV c),(22,zK),(24,zK),(26,zK)] [.pts b_1 [vI q0,vI q1,vI q2] 22,Efdc04 b_3 c,E3504b ba_4 (mkAr c aw_5 cw_6),E35fb1 (mkAr c aw_5 cw_6),E0b46c b_5_1 0]:=by
  intro b_5_1
  refine zN [] [(0,.e 1),(1,.w),(2,.e 1),(6,.w),(8,.w),(10,.w)] [21,3,4,16,17,18,22,24,26] [3,7,9,11] (.e b_3 (.e b_3 .n)) ⟨?_, ?_, ?_, ?_,trivial⟩
  ·refine zC (some 19) [] Tryz.call68 (ref_MakeX c hc) ?_
   rintro v post ⟨ra_3_1,aw_3_1,cw_3_1,rfl,rfl⟩
   exact zW [21,19,3,4,16,17,22,24,26] [0,1,2,3,5,6,4] (aS_173 ra_3_1 aw_3_1 cw_3_1 b_5_1)
  ·refine zX .w (sN fun b_7_1=>(sV ?_))
   exact zW [23,21,3,4,16,17,18,24,26] [0,1,2,3,4,5] (aS_177 b_5_1 b_7_1)
  ·refine zX .w (sN fun b_9_1=>(sV ?_))
   exact zW [25,21,3,4,16,17,18,22,26] [0,1,2,3,4,5] (aS_178 b_5_1 b_9_1)
  ·refine zX .w (sN fun b_11_1=>(sV ?_))
   exact zW [27,21,3,4,16,17,18,22,24] [0,1,2,3,4,5] (aS_179 b_5_1 b_11_1)
 have aS_185:∀(b_7_1:Nat),Lz Tryz.prog Tryz.f26 B26 35 F (RetR F (Ylaw17_begun c)) (regOps B26 [0,1,1,1,1]) [.c [1,1,1,1,1]] (mk 16 [0,1,2,4,6,7,8,10]) [0,1,2,4,8,10] [(23,vP b_7_1),(3,vP b_3),(4,vP ba_4),(16,cfgV c),(17,vP ba_4),(18,cfgV c),(20,zK),(24,zK),(26,zK)] [.pts b_1 [vI q0,vI q1,vI q2] 22,Efdc04 b_3 c,E3504b ba_4 (mkAr c aw_5 cw_6),E35fb1 (mkAr c aw_5 cw_6),E0b46c b_7_1 0]:=by
  intro b_7_1
  refine zN [] [(0,.e 1),(1,.w),(2,.e 1),(4,.w),(8,.w),(10,.w)] [23,3,4,16,17,18,20,24,26] [3,5,9,11] (.e b_3 (.e b_3 .n)) ⟨?_, ?_, ?_, ?_,trivial⟩
  ·refine zC (some 19) [] Tryz.call68 (ref_MakeX c hc) ?_
   rintro v post ⟨ra_3_1,aw_3_1,cw_3_1,rfl,rfl⟩
   exact zW [23,19,3,4,16,17,20,24,26] [0,1,2,3,5,6,4] (aS_174 ra_3_1 aw_3_1 cw_3_1 b_7_1)
  ·refine zX .w (sN fun b_5_1=>(sV ?_))
   exact zW [23,21,3,4,16,17,18,24,26] [0,1,2,3,5,4] (aS_177 b_5_1 b_7_1)
  ·refine zX .w (sN fun b_9_1=>(sV ?_))
   exact zW [25,23,3,4,16,17,18,20,26] [0,1,2,3,4,5] (aS_180 b_7_1 b_9_1)
  ·refine zX .w (sN fun b_11_1=>(sV ?_))
   exact zW [27,23,3,4,16,17,18,20,24] [0,1,2,3,4,5] (aS_181 b_7_1 b_11_1)
 have aS_186:∀(b_9_1:Nat),Lz Tryz.prog Tryz.f26 B26 35 F (RetR F (Ylaw17_begun c)) (regOps B26 [0,1,1,1,1]) [.c [1,1,1,1,1]] (mk 16 [0,1,2,4,6,8,9,10]) [0,1,2,4,6,10] [(25,vP b_9_1),(3,vP b_3),(4,vP ba_4),(16,cfgV c),(17,vP ba_4),(18,cfgV c),(20,zK),(22,zK),(26,zK)] [.pts b_1 [vI q0,vI q1,vI q2] 22,Efdc04 b_3 c,E3504b ba_4 (mkAr c aw_5 cw_6),E35fb1 (mkAr c aw_5 cw_6),E0b46c b_9_1 0]:=by
  intro b_9_1
  refine zN [] [(0,.e 1),(1,.w),(2,.e 1),(4,.w),(6,.w),(10,.w)] [25,3,4,16,17,18,20,22,26] [3,5,7,11] (.e b_3 (.e b_3 .n)) ⟨?_, ?_, ?_, ?_,trivial⟩
  ·refine zC (some 19) [] Tryz.call68 (ref_MakeX c hc) ?_
   rintro v post ⟨ra_3_1,aw_3_1,cw_3_1,rfl,rfl⟩
   exact zW [25,19,3,4,16,17,20,22,26] [0,1,2,3,5,6,4] (aS_175 ra_3_1 aw_3_1 cw_3_1 b_9_1)
  ·refine zX .w (sN fun b_5_1=>(sV ?_))
   exact zW [25,21,3,4,16,17,18,22,26] [0,1,2,3,5,4] (aS_178 b_5_1 b_9_1)
  ·refine zX .w (sN fun b_7_1=>(sV ?_))
   exact zW [25,23,3,4,16,17,18,20,26] [0,1,2,3,5,4] (aS_180 b_7_1 b_9_1)
  ·refine zX .w (sN fun b_11_1=>(sV ?_))
   exact zW [27,25,3,4,16,17,18,20,22] [0,1,2,3,4,5] (aS_182 b_9_1 b_11_1)
 have aS_187:∀(b_11_1:Nat),Lz Tryz.prog Tryz.f26 B26 35 F (RetR F (Ylaw17_begun c)) (regOps B26 [0,1,1,1,1]) [.c [1,1,1,1,1]] (mk 16 [0,1,2,4,6,8,10,11]) [0,1,2,4,6,8] [(27,vP b_11_1),(3,vP b_3),(4,vP ba_4),(16,cfgV c),(17,vP ba_4),(18,cfgV c),(20,zK),(22,zK),(24,zK)] [.pts b_1 [vI q0,vI q1,vI q2] 22,Efdc04 b_3 c,E3504b ba_4 (mkAr c aw_5 cw_6),E35fb1 (mkAr c aw_5 cw_6),E0b46c b_11_1 0]:=by
  intro b_11_1
  refine zN [] [(0,.e 1),(1,.w),(2,.e 1),(4,.w),(6,.w),(8,.w)] [27,3,4,16,17,18,20,22,24] [3,5,7,9] (.e b_3 (.e b_3 .n)) ⟨?_, ?_, ?_, ?_,trivial⟩
  ·refine zC (some 19) [] Tryz.call68 (ref_MakeX c hc) ?_
   rintro v post ⟨ra_3_1,aw_3_1,cw_3_1,rfl,rfl⟩
   exact zW [27,19,3,4,16,17,20,22,24] [0,1,2,3,5,6,4] (aS_176 ra_3_1 aw_3_1 cw_3_1 b_11_1)
  ·refine zX .w (sN fun b_5_1=>(sV ?_))
   exact zW [27,21,3,4,16,17,18,22,24] [0,1,2,3,5,4] (aS_179 b_5_1 b_11_1)
  ·refine zX .w (sN fun b_7_1=>(sV ?_))
   exact zW [27,23,3,4,16,17,18,20,24] [0,1,2,3,5,4] (aS_181 b_7_1 b_11_1)
  ·refine zX .w (sN fun b_9_1=>(sV ?_))
   exact zW [27,25,3,4,16,17,18,20,22] [0,1,2,3,5,4] (aS_182 b_9_1 b_11_1)
 refine zN [0,1,2,4,6,8,10] [(0,.e 1),(1,.w),(2,.e 1),(4,.w),(6,.w),(8,.w),(10,.w)] [3,4,16,17,18,20,22,24,26] [3,5,7,9,11] (.e b_3 (.e b_3 .n)) ⟨?_, ?_, ?_, ?_, ?_,trivial⟩
 ·refine zC (some 19) [] Tryz.call68 (ref_MakeX c hc) ?_
  rintro v post ⟨ra_3_1,aw_3_1,cw_3_1,rfl,rfl⟩
  exact zW [19,3,4,16,17,20,22,24,26] [0,1,2,3,4,5] (aS_183 ra_3_1 aw_3_1 cw_3_1)
 ·refine zX .w (sN fun b_5_1=>(sV ?_))
  exact zW [21,3,4,16,17,18,22,24,26] [0,1,2,3,4] (aS_184 b_5_1)
 ·refine zX .w (sN fun b_7_1=>(sV ?_))
  exact zW [23,3,4,16,17,18,20,24,26] [0,1,2,3,4] (aS_185 b_7_1)
 ·refine zX .w (sN fun b_9_1=>(sV ?_))
  exact zW [25,3,4,16,17,18,20,22,26] [0,1,2,3,4] (aS_186 b_9_1)
 ·refine zX .w (sN fun b_11_1=>(sV ?_))
  exact zW [27,3,4,16,17,18,20,22,24] [0,1,2,3,4] (aS_187 b_11_1)
end Go.Proofs.YtpcaijopodhdgaaGreatDoor
namespace Go.Proofs.YtpcaijopodhdgaaGreatDoor
open Go.Sx
theorem W_who(c:Cfg)(x ba rb:Nat)(ka ma:Option Addr)(kc mc:Nat)(ps:List Nat)(W:Wd)(B:Ar)(wh n_:Int)(hc:c.Ok)(hZ:∃k,Sy c W B k∧k≤90000)(hps:ps.length=4):
  Ctr Tryz.prog 27 #[vP x,.agg #[vI wh,vI n_]] [Ed2706 x c (vP ba) (vP rb) ka ps.length kc ma W.many.length mc W.now,.sl ka kc encP 0 1 ps 68,E3504b ba W.A,E35fb1 W.A,E99bbc rb B false 0,E35fb1 B,.res (KsR ps W.ks c)] (Ret (vI (W.at_ c wh n_)) [Ed2706 x c (vP ba) (vP rb) ka ps.length kc ma ((W.who c wh n_).many.length) mc ((W.who c wh n_).now),.sl ka kc encP 0 1 ps 68,E3504b ba ((W.who c wh n_).A),E35fb1 ((W.who c wh n_).A),E99bbc rb (W.whoB c B wh n_) false 0,E35fb1 (W.whoB c B wh n_),.res (KsR ps ((W.who c wh n_).ks) c)]):=by
 obtain⟨k,hZ,hk⟩:=hZ
 have h0:=hZ.k0
 have h1:=hZ.bs
 have h2:=hZ.arw.2.2.2
 have hg:(W.ks.getD 0 dK).ret.length≤24:=(hZ.good hc (i:=0) (by omega)).2
 have h:=w_who c x ba rb W.now ka ma kc mc ps W.many W.A B wh n_ W.ks hc hZ.bl hZ.bz hZ.arw.1 hZ.arw.2.1 (by omega) (by omega) (by rw [hZ.word]; exact hZ.arw.2.2.1 _) hps hZ.len (by omega)
 rw [hZ.word] at h
 exact h
theorem W_begin(c:Cfg)(x ba rb:Nat)(ka ma:Option Addr)(kc mc:Nat)(ps:List Nat)(W:Wd)(B:Ar)(i n_:Int)(hc:C17 c)(hZ:∃k,Sy c W B k∧k≤1900)(hi:0≤i∧i<4)(hps:ps.length=4):
  Ctr Tryz.prog 28 #[vP x,vI i,vI n_] [Ed2706 x c (vP ba) (vP rb) ka ps.length kc ma W.many.length mc W.now,.sl ka kc encP 0 1 ps 68,Ee1326 ma mc W.many,E99bbc rb B false 0,E35fb1 B,.res (KsR ps W.ks c)] (fun v L => ∃(ma2:Option Addr) (mc2:Nat),v=undef∧L=[Ed2706 x c (vP ba) (vP rb) ka ps.length kc ma2 ((W.begin c i n_).many.length) mc2 ((W.begin c i n_).now),.sl ka kc encP 0 1 ps 68,Ee1326 ma2 mc2 ((W.begin c i n_).many),E99bbc rb B false 0,E35fb1 B,.res (KsR ps ((W.begin c i n_).ks) c)]):=by
 obtain⟨k,hZ,hk⟩:=hZ
 have h0:=hZ.k0
 have hm:=hZ.many
 have hg:=hZ.good hc.ok hi
 have h:=w_begin c x ba rb W.now ka ma kc mc ps W.many B i n_ W.ks hi hps hc.ok hZ.bl hZ.bz (by rw [hZ.word]; exact hZ.arw.2.2.1 _) (by omega) ⟨hc.cl,hc.s0,hc.s1⟩ hZ.len ⟨hg.1,by have:(W.ks.getD i.toNat dK).ret.length≤24:=hg.2; omega⟩
 rw [hZ.word] at h
 exact h
theorem W_step(o_:Obj)(c:Cfg)(x ba rb:Nat)(ka ma:Option Addr)(kc mc:Nat)(ps:List Nat)(W:Wd)(i:Int)(ho:IsH o_)(hc:c.Ok)(hO:∃l k,Own c W l k∧k≤90000)(hi:0≤i∧i<4)(hps:ps.length=4):
  Ctr Tryz.prog 29 #[vP x,vI i] [.raw 0 o_,Ed2706 x c (vP ba) (vP rb) ka ps.length kc ma W.many.length mc W.now,.sl ka kc encP 0 1 ps 68,E3504b ba W.A,E35fb1 W.A,.res (KsR ps W.ks c)] (fun v L => ∃(a2:Option Addr) (c2:Nat),v = .tuple #[.slice a2 ((W.told c i).l.length) c2,vI ((W.told c i).e),.bool ((W.told c i).done)]∧L=[.raw 0 o_,Ed2706 x c (vP ba) (vP rb) ka ps.length kc ma ((W.step c i).many.length) mc ((W.step c i).now),.sl ka kc encP 0 1 ps 68,E3504b ba ((W.step c i).A),E35fb1 ((W.step c i).A),.res (KsR ps ((W.step c i).ks) c),E54ea0 a2 c2 ((W.told c i).l)]):=by
 obtain⟨l,k,hO,hk⟩:=hO
 have hs:=hO.arw.2.2.2
 exact w_step o_ c x ba rb W.now ka ma kc mc ps W.many W.A i W.ks ho hc hO.arw.1 (by omega) hO.arw.2.1 hO.arw.2.2.1 hi hps hO.len (hO.kok hc hi)
end Go.Proofs.YtpcaijopodhdgaaGreatDoor
namespace Go.Proofs.YtpcaijopodhdgaaGreatDoor
open Go.Sx
abbrev E9fe06(x0:Nat)(x1:Option Addr)(x2:Nat)(x3:Nat)(a4:Ar)(x5:Bool)(x6:Int): Ent:=.pts x0 [.slice x1 x2 x3,.int .i64 a4.steps,.int .i64 a4.lk,.int .i64 a4.lw,.int .u64 a4.lv,.bool a4.lc,.bool x5,.int .i64 x6] 67
abbrev q93_0: List Nat:=[0,1,0,1,1,1,1,1,1]
abbrev q93_1: List Nat:=[1,1,1,1,1,1,1]
abbrev q93_2: List Nat:=[0,0,0,1,0,0,1,0,1,1,1,1,1,1]
abbrev q93_3: List Nat:=[1,1,0,0,1,0,1,1,1,1,1,1]
abbrev q93_4: List Nat:=[0,0,1,0,1,0,0,1,0,0,1,0,1,1,1,1,1,1]
abbrev q93_5: List Nat:=[0,1,1,0,0,1,0,0,1,0,1,1,1,1,1,1]
abbrev q93_6: List Nat:=[1,1,0,0,1,0,0,1,0,1,1,1,1,1,1]
abbrev q93_7: List Nat:=[0,0,1,0,1,0,1,0,0,1,0,0,1,0,1,1,1,1,1,1]
abbrev q93_8: List Nat:=[1,1,0,1,0,1,0,0,1,0,0,1,0,1,1,1,1,1,1]
abbrev q93_9: List Nat:=[0,0,0,0,0,1,0,1,0,1,0,0,1,0,0,1,0,1,1,1,1,1,1]
abbrev q93_10: List Nat:=[0,1,0,0,0,1,0,1,0,1,0,0,1,0,0,1,0,1,1,1,1,1,1]
abbrev q93_11: List Nat:=[1,1,1,0,0,1,0,0,1,0,1,1,1,1,1,1]
abbrev q93_12: List Nat:=[0,1,1,1,0,0,1,0,0,1,0,1,1,1,1,1,1]
abbrev q93_13: List Nat:=[0,1,1,1,1,0,0,1,0,0,1,0,1,1,1,1,1,1]
abbrev q93_14: List Nat:=[1,1,1,1,1,0,0,1,0,0,1,0,1,1,1,1,1,1]
abbrev q93_15: List Nat:=[0,1,1,1,1,1,0,0,1,0,0,1,0,1,1,1,1,1,1]
abbrev q93_16: List Nat:=[1,1,1,1,1,1,0,0,1,0,0,1,0,1,1,1,1,1,1]
abbrev q93_17: List Nat:=[0,0,1,1,1,1,1,1,0,0,1,0,0,1,0,1,1,1,1,1,1]
abbrev q93_18: List Nat:=[1,1,1,1,1,1,1,0,0,1,0,0,1,0,1,1,1,1,1,1]
abbrev q93_19: List Nat:=[0,0,0,0,0,1,1,1,1,1,1,0,0,1,0,0,1,0,1,1,1,1,1,1]
abbrev q93_20: List Nat:=[1,0,0,0,0,1,1,1,1,1,1,0,0,1,0,0,1,0,1,1,1,1,1,1]
abbrev q93_21: List Nat:=[1,0,0,0,1,1,1,1,1,1,0,0,1,0,0,1,0,1,1,1,1,1,1]
abbrev q93_22: List Nat:=[0,1,0,0,0,1,1,1,1,1,1,0,0,1,0,0,1,0,1,1,1,1,1,1]
abbrev q93_23: List Nat:=[0,1,1,1,1,1,1,1,1,0,0,1,0,0,1,0,1,1,1,1,1,1]
abbrev q93_24: List Nat:=[1,1,1,1,1,1,1,1,1,0,0,1,0,0,1,0,1,1,1,1,1,1]
abbrev q93_25: List Nat:=[0,0,1,1,1,1,1,1,1,1,1,1,1,0,0,1,0,0,1,0,1,1,1,1,1,1]
abbrev q93_26: List Nat:=[0,1,1,1,1,1,1,1,1,1,1,1,1,1,0,0,1,0,0,1,0,1,1,1,1,1,1]
theorem rd_Commit(p:Nat)(c:Cfg)(cl tp ep:Int)(S:Rd)(hph:S.ph≤4)(hG:∀G,S.gu=some G→G.ph≤3):
  Ctr Tryz.prog 22 #[vP p] [.res (RdR p c cl tp ep S)] (Ret (vI (Rd.comm S)) [.res (RdR p c cl tp ep S)]):=by
 refine oC (I:=fun _:RdH=>True) (LL:=rdL p c cl tp ep S) 0 ?_
 rintro⟨run,th,wa,wc,k,b1,b2,b3,b4,b5,b6,gb,eb,bp,bf,rl,bc⟩ -
 obtain⟨K,gu,sl,ws,cd,ph⟩:=S
 simp only at hph hG
 match ph,hph with
 | 0,_=>
  cases gu with
  | none=>
   refine cP [0] (rdCommitN c p sl cd (.slice wa ws.length wc) run th) ?_
   rintro v post ⟨rfl,rfl⟩
   exact⟨_,view_pack (fun _:RdH=>True) (rdL p c cl tp ep (⟨K,none,sl,ws,cd,0⟩:Rd)) ⟨run,th,wa,wc,k,b1,b2,b3,b4,b5,b6,gb,eb,bp,bf,rl,bc⟩ (M:=[]) [2,0,1] kR trivial,rfl,rfl⟩
  | some G=>
   refine ctr_view (view_open 2 (N:=[Ea7eb0 gb c G gb]) (M:=[E2b60f p run th cd true c (vP gb) sl wa ws.length wc,E54ea0 wa wc ws]) kR) ?_
   refine cP [0,2] (rdCommitS c p gb sl cd (.slice wa ws.length wc) run th G (hG G rfl)) ?_
   rintro v post ⟨rfl,rfl⟩
   exact⟨_,((view_close [2] (N:=[Ea7eb0 gb c G gb]) (M:=[E54ea0 wa wc ws,E2b60f p run th cd true c (vP gb) sl wa ws.length wc]) kR)).trans (view_pack (fun _:RdH=>True) (rdL p c cl tp ep (⟨K,(some G),sl,ws,cd,0⟩:Rd)) ⟨run,th,wa,wc,k,b1,b2,b3,b4,b5,b6,gb,eb,bp,bf,rl,bc⟩ (M:=[]) [1,0,2] kR trivial),rfl,rfl⟩
 | 1,_=>
  refine cP [0] (rdCommitW c p sl 0 (gpR ⟨run,th,wa,wc,k,b1,b2,b3,b4,b5,b6,gb,eb,bp,bf,rl,bc⟩ gu) (.slice wa ws.length wc) (runRV ⟨run,th,wa,wc,k,b1,b2,b3,b4,b5,b6,gb,eb,bp,bf,rl,bc⟩ 1) (thRV p ⟨run,th,wa,wc,k,b1,b2,b3,b4,b5,b6,gb,eb,bp,bf,rl,bc⟩ 1)) ?_
  rintro v post ⟨rfl,rfl⟩
  exact⟨_,view_pack (fun _:RdH=>True) (rdL p c cl tp ep (⟨K,gu,sl,ws,cd,1⟩:Rd)) ⟨run,th,wa,wc,k,b1,b2,b3,b4,b5,b6,gb,eb,bp,bf,rl,bc⟩ (M:=[]) [2,0,1] kR trivial,rfl,rfl⟩
 | 2,_=>
  refine cP [0] (rdCommitW c p sl 0 (gpR ⟨run,th,wa,wc,k,b1,b2,b3,b4,b5,b6,gb,eb,bp,bf,rl,bc⟩ gu) (.slice wa ws.length wc) (runRV ⟨run,th,wa,wc,k,b1,b2,b3,b4,b5,b6,gb,eb,bp,bf,rl,bc⟩ 2) (thRV p ⟨run,th,wa,wc,k,b1,b2,b3,b4,b5,b6,gb,eb,bp,bf,rl,bc⟩ 2)) ?_
  rintro v post ⟨rfl,rfl⟩
  exact⟨_,view_pack (fun _:RdH=>True) (rdL p c cl tp ep (⟨K,gu,sl,ws,cd,2⟩:Rd)) ⟨run,th,wa,wc,k,b1,b2,b3,b4,b5,b6,gb,eb,bp,bf,rl,bc⟩ (M:=[]) [2,0,1] kR trivial,rfl,rfl⟩
 | 3,_=>
  refine cP [0] (rdCommitW c p sl 0 (gpR ⟨run,th,wa,wc,k,b1,b2,b3,b4,b5,b6,gb,eb,bp,bf,rl,bc⟩ gu) (.slice wa ws.length wc) (runRV ⟨run,th,wa,wc,k,b1,b2,b3,b4,b5,b6,gb,eb,bp,bf,rl,bc⟩ 3) (thRV p ⟨run,th,wa,wc,k,b1,b2,b3,b4,b5,b6,gb,eb,bp,bf,rl,bc⟩ 3)) ?_
  rintro v post ⟨rfl,rfl⟩
  exact⟨_,view_pack (fun _:RdH=>True) (rdL p c cl tp ep (⟨K,gu,sl,ws,cd,3⟩:Rd)) ⟨run,th,wa,wc,k,b1,b2,b3,b4,b5,b6,gb,eb,bp,bf,rl,bc⟩ (M:=[]) [2,0,1] kR trivial,rfl,rfl⟩
 | 4,_=>
  refine cP [0] (rdCommitW c p sl 0 (gpR ⟨run,th,wa,wc,k,b1,b2,b3,b4,b5,b6,gb,eb,bp,bf,rl,bc⟩ gu) (.slice wa ws.length wc) (runRV ⟨run,th,wa,wc,k,b1,b2,b3,b4,b5,b6,gb,eb,bp,bf,rl,bc⟩ 4) (thRV p ⟨run,th,wa,wc,k,b1,b2,b3,b4,b5,b6,gb,eb,bp,bf,rl,bc⟩ 4)) ?_
  rintro v post ⟨rfl,rfl⟩
  exact⟨_,view_pack (fun _:RdH=>True) (rdL p c cl tp ep (⟨K,gu,sl,ws,cd,4⟩:Rd)) ⟨run,th,wa,wc,k,b1,b2,b3,b4,b5,b6,gb,eb,bp,bf,rl,bc⟩ (M:=[]) [2,0,1] kR trivial,rfl,rfl⟩
 | n+5,h=>omega
noncomputable def B7: Code:=(Tryz.f7.body).getD .skip
set_option maxHeartbeats 4000000 in
theorem law_lwhole(o_:Obj)(q0 q1 q2:Int)(a:Option Addr)(c0:Nat)(xs:List LAct)(bt:TypeId)(r:Sx.Rest)(ho:IsH o_):
  Ctr Tryz.prog 7 #[.agg #[vI q0,vI q1,vI q2],.slice a xs.length c0] [.raw 0 o_,.rd a c0 encLAct dLAct 2 xs bt r] (Ret (.bool true) [.raw 0 o_,.rd a c0 encLAct dLAct 2 xs bt r]):=by
 refine cB B7 199 Tryz.func7 ?_
 intro F
 obtain⟨c,hq⟩:∃c,c=cfgL q0 q1 q2:=⟨_,rfl⟩
 have hC:C17 c:=by rw [hq]; exact c17 q0 q1 q2
 have hc:=hC.ok
 refine gX [.z [0,1] 0 [1,2]] (gN fun b_1=>gW (ks:=[.o [0,1] 0,.c [1,1]]) [(1,.slice a xs.length c0),(2,vP b_1)] [.raw 0 o_,.rd a c0 encLAct dLAct 2 xs bt r,.pts b_1 [vI q0,vI q1,vI q2] 22] ?_)
 refine gC (some 18) [0] Tryz.call14 (law17_awake o_ ho) ?_
 refine gX [.e 1,.z [0,1,1] 1 [1,5,19]] (gQ b_1 (gS [.o [0,1,1] 1,.c [1,1,1]] ?_))
 refine go_call (some 20) [] Tryz.call26 (law17_begun c q0 q1 q2 hq) kR ?_
 rintro v post ⟨x_2,ba_3,rb_4,ka_5,kc_6,ps_7,aw_8,cw_9,aw2_10,cw2_11,rfl,rfl,hf_12⟩
 refine gX [.e 3,.z [0,1,1,1,1,1] 4 [1,5,6,7,26]] (gQ x_2 (gS [.o [0,1,1,1,1,1] 4,.c [1,1,1,1,1,1]] ?_))
 refine gC (some 27) [6,7] Tryz.call39 (arena_Steps ba_3 ((mkAr c aw_8 cw_9).store (ctlAt c 0) (bornW 0))) ?_
 refine gX [.z q93_0 0 [1,5,6,7,8,9]] (gW (ks:=[.c q93_0,.b 0,.c q93_1]) [(1,.slice a xs.length c0),(5,.bool true),(6,vP x_2),(7,.slice none 0 0),(8,vI (((mkAr c aw_8 cw_9).store (ctlAt c 0) (bornW 0)).steps)),(9,vI 0)] [.rd a c0 encLAct dLAct 2 xs bt r,.pts b_1 [vI q0,vI q1,vI q2] 22,.raw 0 o_,Ed2706 x_2 c (vP ba_3) (vP rb_4) ka_5 ps_7.length kc_6 none 0 0 0,.sl ka_5 kc_6 encP 0 1 ps_7 68,Ee1326 none 0 ([]:List Int),E99bbc rb_4 ((rmAr c (rpackW c) aw2_10 cw2_11).store (ctlAt c 0) (bornW 0)) false 0,E35fb1 ((rmAr c (rpackW c) aw2_10 cw2_11).store (ctlAt c 0) (bornW 0)),.res (KsR ps_7 four c),E3504b ba_3 ((mkAr c aw_8 cw_9).store (ctlAt c 0) (bornW 0)),E35fb1 ((mkAr c aw_8 cw_9).store (ctlAt c 0) (bornW 0))] ?_)
 have hps:ps_7.length=4:=hf_12
 have hp00:LtOk c (⟨0,⟨((mkAr c aw_8 cw_9).store (ctlAt c 0) (bornW 0)),four,[],0⟩,((rmAr c (rpackW c) aw2_10 cw2_11).store (ctlAt c 0) (bornW 0)),none,0⟩:Lt):=by rw [hq]; exact⟨sy_first,Int.le_refl 0⟩
 obtain⟨f,hf⟩:∃f:Int,f=((mkAr c aw_8 cw_9).store (ctlAt c 0) (bornW 0)).steps:=⟨_,rfl⟩
 have hwh0:Wh c f [] ⟨((mkAr c aw_8 cw_9).store (ctlAt c 0) (bornW 0)),four,[],0⟩:=by rw [hf]; exact wh_first hc (mkAr_ok hc aw_8 cw_9)
 have hf0:0≤f∧f≤41:=by obtain⟨l0,o0⟩:=hp00.1.own; rw [hf]; exact o0.arw.2.2.2
 refine go_view (L':=[.rd a c0 encLAct dLAct 2 xs bt r,.pts b_1 [vI q0,vI q1,vI q2] 22,.raw 0 o_,Ed2706 x_2 c (vP ba_3) (vP rb_4) ka_5 ps_7.length kc_6 none 0 0 0,.sl ka_5 kc_6 encP 0 1 ps_7 68,Ee1326 none 0 ([]:List Int),E99bbc rb_4 ((rmAr c (rpackW c) aw2_10 cw2_11).store (ctlAt c 0) (bornW 0)) false 0,E35fb1 ((rmAr c (rpackW c) aw2_10 cw2_11).store (ctlAt c 0) (bornW 0)),.res (KsR ps_7 four c),E3504b ba_3 ((mkAr c aw_8 cw_9).store (ctlAt c 0) (bornW 0)),E35fb1 ((mkAr c aw_8 cw_9).store (ctlAt c 0) (bornW 0)),E54ea0 none 0 ([]:List Int)]) (view_nil (encI .u64) 0 1 60 (sizedI _)) ?_
 refine go_cast (tm':=[(1,.slice a xs.length c0),(5,.bool true),(6,vP x_2),(7,.slice none 0 0),(8,vI f),(9,vI 0)]) (L':=[.rd a c0 encLAct dLAct 2 xs bt r,.pts b_1 [vI q0,vI q1,vI q2] 22,.raw 0 o_,Ed2706 x_2 c (vP ba_3) (vP rb_4) ka_5 ps_7.length kc_6 none 0 0 0,.sl ka_5 kc_6 encP 0 1 ps_7 68,Ee1326 none 0 ([]:List Int),E99bbc rb_4 ((rmAr c (rpackW c) aw2_10 cw2_11).store (ctlAt c 0) (bornW 0)) false 0,E35fb1 ((rmAr c (rpackW c) aw2_10 cw2_11).store (ctlAt c 0) (bornW 0)),.res (KsR ps_7 four c),E3504b ba_3 ((mkAr c aw_8 cw_9).store (ctlAt c 0) (bornW 0)),E35fb1 ((mkAr c aw_8 cw_9).store (ctlAt c 0) (bornW 0)),E54ea0 none 0 ([]:List Int)]) (by rw [hf]) ?_
 refine go_loop (ι := Lv) (fun p=>[(1,.slice a xs.length c0),(5,.bool true),(6,vP x_2),(7,.slice p.a p.la.length p.c),(8,vI f),(9,vI p.i)]) (fun p=>[.raw 0 o_,.pts b_1 [vI q0,vI q1,vI q2] 22,Ed2706 x_2 c (vP ba_3) (vP rb_4) ka_5 ps_7.length kc_6 p.ma p.W.many.length p.mc p.W.now,.sl ka_5 kc_6 encP 0 1 ps_7 68,Ee1326 p.ma p.mc p.W.many,E3504b ba_3 p.W.A,E35fb1 p.W.A,E99bbc rb_4 p.B false 0,E35fb1 p.B,.res (KsR ps_7 p.W.ks c),.rd a c0 encLAct dLAct 2 xs bt r,E54ea0 p.a p.c p.la]) (fun p=>LvOk c f p∧p.i≤250) (fun p=>((xs.length:Int)-p.i).toNat) (⟨(⟨0,⟨((mkAr c aw_8 cw_9).store (ctlAt c 0) (bornW 0)),four,[],0⟩,((rmAr c (rpackW c) aw2_10 cw2_11).store (ctlAt c 0) (bornW 0)),none,0⟩:Lt),[],none,0⟩:Lv) [1,5,6,7,8,9] [2,1,3,4,5,9,10,6,7,8,0,11] kR kR kR kR ⟨⟨hp00,hwh0⟩,(by dsimp only; omega)⟩ ?_
 intro p J_13 hIJ_13 hJ_13
 have hpv:=hIJ_13.1
 have hp:=hIJ_13.1.1
 have hwh:=hIJ_13.1.2
 have hpi:=hIJ_13.2
 have hp0:=hp.2
 obtain⟨lp,op⟩:=hp.1.own
 refine gX [.sp [32,31] [.sp [35,34] [.s 10,.j 10 p.i.toNat,.z q93_2 5 [1,5,6,7,8,9,38,42]] []] []] (gQ (decide (p.i<((xs.length:Nat):Int))) (gB (decide (p.i<((xs.length:Nat):Int))) (fun h_14 => ?_) (fun h_14 => ?_)))
 ·replace h_14:=decT h_14
  refine gQ (decide (p.i<250)) (gB (decide (p.i<250)) (fun h_15 => ?_) (fun h_15 => ?_))
  ·replace h_15:=decT h_15
   refine gO (a=a∧xs.length=xs.length) ⟨rfl,(by first | rfl | omega | (simp; done) | (simp; omega))⟩ (gO ((0:Int)≤p.i∧p.i<((xs.length:Nat):Int)) (by omega) (gQ (slAt a p.i.toNat 2) (gO (p.i.toNat<xs.length) (by omega) (gS [.o q93_2 5,.c [1,0,0,1,0,0,1,0,1,1,1,1,1,1],.b 1,.c q93_3,.j J_13,.b 0,.c q93_1] ?_))))
   refine gC (some 43) [2,3,5,6,7,8,9] Tryz.call27 (W_who c x_2 ba_3 rb_4 ka_5 p.ma kc_6 p.mc ps_7 p.W p.B ((xs.getD p.i.toNat dLAct).wh) ((xs.getD p.i.toNat dLAct).n) hc ⟨_,hp.1,by omega⟩ hps) ?_
   refine gX [.sp [45] [.z q93_4 0 [1,5,6,7,8,9]] [.z q93_5 0 [1,5,6,7,8,9,10]]] (gB (decide ((p.W.at_ c ((xs.getD p.i.toNat dLAct).wh) ((xs.getD p.i.toNat dLAct).n))<0)) (fun h_16 => ?_) (fun h_16 => ?_))
   ·replace h_16:=decT h_16
    refine gW (ks:=[.c q93_4,.c [1,0,1,0,1,0,0,1,0,0,1,0,1,1,1,1,1,1],.c q93_6,.b 1,.c q93_3,.j J_13,.b 0,.c q93_1]) [(1,.slice a xs.length c0),(5,.bool true),(6,vP x_2),(7,.slice p.a p.la.length p.c),(8,vI f),(9,vI p.i)] [.raw 0 o_,.pts b_1 [vI q0,vI q1,vI q2] 22,Ee1326 p.ma p.mc p.W.many,.rd a c0 encLAct dLAct 2 xs bt r,E54ea0 p.a p.c p.la,Ed2706 x_2 c (vP ba_3) (vP rb_4) ka_5 ps_7.length kc_6 p.ma ((p.W.who c ((xs.getD p.i.toNat dLAct).wh) ((xs.getD p.i.toNat dLAct).n)).many.length) p.mc ((p.W.who c ((xs.getD p.i.toNat dLAct).wh) ((xs.getD p.i.toNat dLAct).n)).now),.sl ka_5 kc_6 encP 0 1 ps_7 68,E3504b ba_3 ((p.W.who c ((xs.getD p.i.toNat dLAct).wh) ((xs.getD p.i.toNat dLAct).n)).A),E35fb1 ((p.W.who c ((xs.getD p.i.toNat dLAct).wh) ((xs.getD p.i.toNat dLAct).n)).A),E99bbc rb_4 (p.W.whoB c p.B ((xs.getD p.i.toNat dLAct).wh) ((xs.getD p.i.toNat dLAct).n)) false 0,E35fb1 (p.W.whoB c p.B ((xs.getD p.i.toNat dLAct).wh) ((xs.getD p.i.toNat dLAct).n)),.res (KsR ps_7 ((p.W.who c ((xs.getD p.i.toNat dLAct).wh) ((xs.getD p.i.toNat dLAct).n)).ks) c)] ?_
    have hg:(p.W.at_ c (xs.getD p.i.toNat dLAct).wh (xs.getD p.i.toNat dLAct).n)<0:=by assumption
    have s1:=hp.1.who hc (by omega) (xs.getD p.i.toNat dLAct).wh (xs.getD p.i.toNat dLAct).n
    obtain⟨l1,o1⟩:=s1.own
    have hw1:=hwh.gone hc op (xs.getD p.i.toNat dLAct).wh (xs.getD p.i.toNat dLAct).n hg
    have hl1:=ext_le hw1.lat
    have hst:=o1.arw.2.2.2
    have o1a:=o1.arw.1
    have o1b:=o1.arw.2.1
    have hsz:=sizeOfC_ok hc
    generalize eW1:(p.W.who c ((xs.getD p.i.toNat dLAct).wh) ((xs.getD p.i.toNat dLAct).n))=W1 at *
    generalize eB1:(p.W.whoB c p.B ((xs.getD p.i.toNat dLAct).wh) ((xs.getD p.i.toNat dLAct).n))=B1 at *
    refine zG ?_
    refine zN [0,1,2,3,4,5,6,7] (kV 0 [.w,.w,.w,.e 5,.w,.w,.w,.e 5]) [1,5,6,7,8,9,46,47,48,49,50,51,52,53] [8] (.e x_2 (.e x_2 .n)) ⟨?_,trivial⟩
    refine zC (some 54) [7,8] Tryz.call30 (arena_Words ba_3 W1.A (by first | exact o3a | exact o1a) (by omega)) ?_
    rintro v post ⟨a2_8_1,c2_8_1,rfl,rfl⟩
    refine zN [9,10] (kV 0 [.w,.w,.w,.e 5]++kV 9 [.w,.w]) [54,1,5,6,7,8,9,46,47,48,49,55,56] [11] (.e x_2 .n) ⟨?_,trivial⟩
    refine zX (.e 7) (sQ rb_4 (sK ?_))
    refine zE [] [] [1,5,6,7,8,9] .n ?_
    refine gX [.z q93_7 0 [1,5,6,7,8,9]] (gS [.c q93_7,.b 2,.c q93_8,.c q93_6,.b 1,.c q93_3,.j J_13,.b 0,.c q93_1] ?_)
    refine go_loop (ι := Lrow) (fun y=>[(1,.slice a xs.length c0),(5,.bool true),(6,vP x_2),(7,.slice y.a y.r.length y.c),(8,vI f),(9,vI p.i)]) (fun y=>[.raw 0 o_,.pts b_1 [vI q0,vI q1,vI q2] 22,Ee1326 p.ma p.mc p.W.many,.rd a c0 encLAct dLAct 2 xs bt r,Ed2706 x_2 c (vP ba_3) (vP rb_4) ka_5 ps_7.length kc_6 p.ma W1.many.length p.mc W1.now,.sl ka_5 kc_6 encP 0 1 ps_7 68,E9fe06 rb_4 a2_8_1 W1.A.ws.length c2_8_1 B1 false 0,E35fb1 B1,.res (KsR ps_7 W1.ks c),E3504b ba_3 W1.A,E35fb1 W1.A,E54ea0 a2_8_1 c2_8_1 W1.A.ws,E54ea0 y.a y.c y.r]) (fun y=>y.r=ext p.la ((y.r.length:Nat):Int) 0∧((p.la.length:Nat):Int)≤((y.r.length:Nat):Int)∧((y.r.length:Nat):Int)≤W1.A.steps-f) (fun y=>(W1.A.steps-f-((y.r.length:Nat):Int)).toNat) (⟨p.la,p.a,p.c⟩:Lrow) [1,5,6,7,8,9] [0,1,2,3,5,6,7,8,9,10,11,12,4] kR kR kR kR ⟨(ext_same rfl).symm,Int.le_refl _,(by dsimp only; omega)⟩ ?_
    intro y J_21 hIJ_21 hJ_21
    have hyr:=hIJ_21.1
    have hy1:=hIJ_21.2.1
    have hy2:=hIJ_21.2.2
    refine gX [.e 4,.z q93_9 6 [1,5,6,7,8,9,58,62]] (gQ x_2 (gS [.o q93_9 6,.c [1,0,0,0,0,1,0,1,0,1,0,0,1,0,0,1,0,1,1,1,1,1,1],.c [1,0,0,0,1,0,1,0,1,0,0,1,0,0,1,0,1,1,1,1,1,1],.j J_21,.b 2,.c q93_8,.c q93_6,.b 1,.c q93_3,.j J_13,.b 0,.c q93_1] ?_))
    refine gC (some 63) [9,10] Tryz.call39 (arena_Steps ba_3 W1.A) ?_
    refine gX [.n,.sp [66] [.z q93_10 2 [1,5,6,8,9,67,68]] [.n,.z [] 0 [1,5,6,7,8,9]]] (gO (InK .i64 (W1.A.steps-f)) (by simp only [InK]; omega) (gB (decide (((y.r.length:Nat):Int)<(W1.A.steps-f))) (fun h_23 => ?_) (fun h_23 => ?_)))
    ·replace h_23:=decT h_23
     refine gN fun b_22=>gW (ks:=[.o q93_10 2,.b 3,.j J_21,.b 2,.c q93_8,.c q93_6,.b 1,.c q93_3,.j J_13,.b 0,.c q93_1]) [(1,.slice a xs.length c0),(5,.bool true),(6,vP x_2),(8,vI f),(9,vI p.i),(67,.slice y.a y.r.length y.c),(68,.slice (some ⟨b_22,0,none⟩) 1 1)] [.raw 0 o_,.pts b_1 [vI q0,vI q1,vI q2] 22,Ee1326 p.ma p.mc p.W.many,.rd a c0 encLAct dLAct 2 xs bt r,Ed2706 x_2 c (vP ba_3) (vP rb_4) ka_5 ps_7.length kc_6 p.ma W1.many.length p.mc W1.now,.sl ka_5 kc_6 encP 0 1 ps_7 68,E9fe06 rb_4 a2_8_1 W1.A.ws.length c2_8_1 B1 false 0,E35fb1 B1,.res (KsR ps_7 W1.ks c),E54ea0 a2_8_1 c2_8_1 W1.A.ws,E54ea0 y.a y.c y.r,E3504b ba_3 W1.A,E35fb1 W1.A,.pts b_22 [vU 0] 60] ?_
     refine go_by (some 69) (appO Tryz.prog _) (some (.slice y.a (y.r).length y.c,.slice (some ⟨b_22,0,none⟩) 1 1,(60,1,8))) (R_append 10 (a:=y.a) (c:=y.c) (enc:=encI .u64) (d:=0) (sz:=1) (xs:=y.r) (te:=60) kR (.slice (some ⟨b_22,0,none⟩) 1 1) [0] (src_pts (i:=13) (t:=60) kR) (oneI _) 8 oW oW) kR ?_
     rintro v L2 ⟨a_24,c_25,rfl,rfl⟩
     refine gX [.z [] 0 [1,5,6,7,8,9]] (gW (ks:=[.j J_21,.b 2,.c q93_8,.c q93_6,.b 1,.c q93_3,.j J_13,.b 0,.c q93_1]) [(1,.slice a xs.length c0),(5,.bool true),(6,vP x_2),(7,.slice a_24 ((y.r++[0]).length) c_25),(8,vI f),(9,vI p.i)] [.raw 0 o_,.pts b_1 [vI q0,vI q1,vI q2] 22,Ee1326 p.ma p.mc p.W.many,.rd a c0 encLAct dLAct 2 xs bt r,Ed2706 x_2 c (vP ba_3) (vP rb_4) ka_5 ps_7.length kc_6 p.ma W1.many.length p.mc W1.now,.sl ka_5 kc_6 encP 0 1 ps_7 68,E9fe06 rb_4 a2_8_1 W1.A.ws.length c2_8_1 B1 false 0,E35fb1 B1,.res (KsR ps_7 W1.ks c),E54ea0 a2_8_1 c2_8_1 W1.A.ws,E54ea0 a_24 c_25 (y.r++[0]),E3504b ba_3 W1.A,E35fb1 W1.A,.pts b_22 [vU 0] 60] ?_)
     have hsn:=ext_snoc hyr hy1
     exact go_back hJ_21 (⟨(y.r++[0]),a_24,c_25⟩:Lrow) [0,1,2,3,4,5,6,7,8,11,12,9,10] kR kR kR ⟨hsn.1,hsn.2,(by dsimp only; rw [List.length_append,List.length_singleton]; omega)⟩ (by dsimp only; rw [List.length_append,List.length_singleton]; omega)
    ·replace h_23:=decF h_23
     refine gO (InK .i64 (p.i+1)) (by simp only [InK]; omega) (gW (ks:=[.j J_13,.b 0,.c q93_1]) [(1,.slice a xs.length c0),(5,.bool true),(6,vP x_2),(7,.slice y.a y.r.length y.c),(8,vI f),(9,vI (p.i+1))] [.raw 0 o_,.pts b_1 [vI q0,vI q1,vI q2] 22,Ee1326 p.ma p.mc p.W.many,.rd a c0 encLAct dLAct 2 xs bt r,Ed2706 x_2 c (vP ba_3) (vP rb_4) ka_5 ps_7.length kc_6 p.ma W1.many.length p.mc W1.now,.sl ka_5 kc_6 encP 0 1 ps_7 68,E9fe06 rb_4 a2_8_1 W1.A.ws.length c2_8_1 B1 false 0,E35fb1 B1,.res (KsR ps_7 W1.ks c),E54ea0 a2_8_1 c2_8_1 W1.A.ws,E54ea0 y.a y.c y.r,E3504b ba_3 W1.A,E35fb1 W1.A] ?_)
     have hyl:((y.r.length:Nat):Int)=W1.A.steps-f:=by omega
     exact go_back hJ_13 (⟨(⟨p.i+1,W1,(⟨a2_8_1,c2_8_1,W1.A.ws.length,W1.A.ws,B1.steps,B1.lk,B1.lw,B1.lv,B1.lc⟩:Ar),p.ma,p.mc⟩:Lt),y.r,y.a,y.c⟩:Lv) [0,1,4,5,2,11,12,6,9,8,3,10] kR kR kR ⟨(lv_gone hC hpv (by omega) op hg eW1 eB1 _ _ o1a _ _ _ _ _ _ hyr hyl _ _),(by dsimp only; omega)⟩ (by dsimp only; omega)
   ·replace h_16:=decF h_16
    refine gW (ks:=[.o q93_5 0,.c q93_11,.b 1,.c q93_3,.j J_13,.b 0,.c q93_1]) [(1,.slice a xs.length c0),(5,.bool true),(6,vP x_2),(7,.slice p.a p.la.length p.c),(8,vI f),(9,vI p.i),(10,vI (p.W.at_ c ((xs.getD p.i.toNat dLAct).wh) ((xs.getD p.i.toNat dLAct).n)))] [.raw 0 o_,.pts b_1 [vI q0,vI q1,vI q2] 22,Ee1326 p.ma p.mc p.W.many,.rd a c0 encLAct dLAct 2 xs bt r,E54ea0 p.a p.c p.la,Ed2706 x_2 c (vP ba_3) (vP rb_4) ka_5 ps_7.length kc_6 p.ma ((p.W.who c ((xs.getD p.i.toNat dLAct).wh) ((xs.getD p.i.toNat dLAct).n)).many.length) p.mc ((p.W.who c ((xs.getD p.i.toNat dLAct).wh) ((xs.getD p.i.toNat dLAct).n)).now),.sl ka_5 kc_6 encP 0 1 ps_7 68,E3504b ba_3 ((p.W.who c ((xs.getD p.i.toNat dLAct).wh) ((xs.getD p.i.toNat dLAct).n)).A),E35fb1 ((p.W.who c ((xs.getD p.i.toNat dLAct).wh) ((xs.getD p.i.toNat dLAct).n)).A),E99bbc rb_4 (p.W.whoB c p.B ((xs.getD p.i.toNat dLAct).wh) ((xs.getD p.i.toNat dLAct).n)) false 0,E35fb1 (p.W.whoB c p.B ((xs.getD p.i.toNat dLAct).wh) ((xs.getD p.i.toNat dLAct).n)),.res (KsR ps_7 ((p.W.who c ((xs.getD p.i.toNat dLAct).wh) ((xs.getD p.i.toNat dLAct).n)).ks) c)] ?_
    have hat:0≤(p.W.at_ c (xs.getD p.i.toNat dLAct).wh (xs.getD p.i.toNat dLAct).n)∧(p.W.at_ c (xs.getD p.i.toNat dLAct).wh (xs.getD p.i.toNat dLAct).n)<4:=by have:=at_rng (c:=c) (W:=p.W) (wh:=(xs.getD p.i.toNat dLAct).wh) (n:=(xs.getD p.i.toNat dLAct).n); omega
    have s1:=hp.1.who hc (by omega) (xs.getD p.i.toNat dLAct).wh (xs.getD p.i.toNat dLAct).n
    have s2:=s1.begin hC (by omega) hat (xs.getD p.i.toNat dLAct).n
    obtain⟨l3,o2⟩:=s2.own
    obtain⟨l4,o3⟩:=o2.step hc (by omega) hat
    have o3a:=o3.arw.1
    have o3b:=o3.arw.2.1
    have hsz:=sizeOfC_ok hc
    obtain⟨l1,o1⟩:=s1.own
    have hw2:=(hwh.at_ hc op (xs.getD p.i.toNat dLAct).wh (xs.getD p.i.toNat dLAct).n hat.1).begin hC o1 hat (xs.getD p.i.toNat dLAct).n
    have hw3:=(hw2.step hc o2 hat).1
    have hl3:=ext_le hw3.lat
    have hst:=o3.arw.2.2.2
    have hml:=s2.many
    have hko:=o2.len
    have hbz:=Wd.begin_k (c:=c) s1.len hat (xs.getD p.i.toNat dLAct).n
    obtain⟨nn,hnn⟩:∃nn,nn=(xs.getD p.i.toNat dLAct).n:=⟨_,rfl⟩
    generalize ekk:(p.W.at_ c ((xs.getD p.i.toNat dLAct).wh) ((xs.getD p.i.toNat dLAct).n))=kk at *
    generalize eW1:(p.W.who c ((xs.getD p.i.toNat dLAct).wh) ((xs.getD p.i.toNat dLAct).n))=W1 at *
    generalize eB1:(p.W.whoB c p.B ((xs.getD p.i.toNat dLAct).wh) ((xs.getD p.i.toNat dLAct).n))=B1 at *
    refine gX [.s 3,.z q93_5 6 [1,5,6,7,8,9,10,70,71,75]] (gO (a=a∧xs.length=xs.length) ⟨rfl,(by first | rfl | omega | (simp; done) | (simp; omega))⟩ (gO ((0:Int)≤p.i∧p.i<((xs.length:Nat):Int)) (by omega) (gS [.o q93_5 6,.c q93_11,.b 1,.c q93_3,.j J_13,.b 0,.c q93_1] ?_)))
    refine go_by (some 76) (ldO Tryz.prog _) (some (.pointer (some ((slAd a p.i.toNat 2).add 1)),false,1)) (R_ldF 3 (a:=a) (c:=c0) (enc:=encLAct) (d:=dLAct) (sz:=2) (xs:=xs) (te:=bt) (r:=r) kR p.i.toNat 1 false 1 [vI ((xs.getD p.i.toNat dLAct).n)] (by rfl) (by rfl) (by decide) (by omega)) kR ?_
    rintro v L2 ⟨rfl,rfl⟩
    refine go_call (some 77) [5,6,2,9,10,11] Tryz.call28 (W_begin c x_2 ba_3 rb_4 ka_5 p.ma kc_6 p.mc ps_7 W1 B1 kk ((xs.getD p.i.toNat dLAct).n) hC (by first | exact⟨_,s1,by omega⟩ | exact⟨_,hp.1,by omega⟩) hat hps) kR ?_
    rintro v post ⟨ma2_26,mc2_27,rfl,rfl⟩
    refine gX [.z q93_12 0 [1,5,6,7,8,9,10]] (gS [.o q93_12 0,.c [1,1,1,1,0,0,1,0,0,1,0,1,1,1,1,1,1],.b 1,.c q93_3,.j J_13,.b 0,.c q93_1] ?_)
    refine gE [(1,.slice a xs.length c0),(5,.bool true),(6,vP x_2),(7,.slice p.a p.la.length p.c),(8,vI f),(9,vI p.i),(10,vI kk)] [.raw 0 o_,.pts b_1 [vI q0,vI q1,vI q2] 22,.rd a c0 encLAct dLAct 2 xs bt r,E54ea0 p.a p.c p.la,E3504b ba_3 ((W1.begin c kk ((xs.getD p.i.toNat dLAct).n)).A),E35fb1 ((W1.begin c kk ((xs.getD p.i.toNat dLAct).n)).A),Ed2706 x_2 c (vP ba_3) (vP rb_4) ka_5 ps_7.length kc_6 ma2_26 ((W1.begin c kk ((xs.getD p.i.toNat dLAct).n)).many.length) mc2_27 ((W1.begin c kk ((xs.getD p.i.toNat dLAct).n)).now),.sl ka_5 kc_6 encP 0 1 ps_7 68,Ee1326 ma2_26 mc2_27 ((W1.begin c kk ((xs.getD p.i.toNat dLAct).n)).many),E99bbc rb_4 B1 false 0,E35fb1 B1,.res (KsR ps_7 ((W1.begin c kk ((xs.getD p.i.toNat dLAct).n)).ks) c)] ?_
    generalize eW2:(W1.begin c kk ((xs.getD p.i.toNat dLAct).n))=W2 at *
    have hj_28:∀u0:Unit,True→Go Tryz.prog Tryz.f7 B7 199 F (RetR F (Ret (.bool true) [.raw 0 o_,.rd a c0 encLAct dLAct 2 xs bt r])) [.o q93_13 0,.c q93_14,.b 1,.c q93_3,.j J_13,.b 0,.c q93_1] [(1,.slice a xs.length c0),(5,.bool true),(6,vP x_2),(7,.slice p.a p.la.length p.c),(8,vI f),(9,vI p.i),(10,vI kk),(11,.pointer none)] [.raw 0 o_,.pts b_1 [vI q0,vI q1,vI q2] 22,.rd a c0 encLAct dLAct 2 xs bt r,E54ea0 p.a p.c p.la,E3504b ba_3 W2.A,E35fb1 W2.A,Ed2706 x_2 c (vP ba_3) (vP rb_4) ka_5 ps_7.length kc_6 ma2_26 W2.many.length mc2_27 W2.now,.sl ka_5 kc_6 encP 0 1 ps_7 68,Ee1326 ma2_26 mc2_27 W2.many,E99bbc rb_4 B1 false 0,E35fb1 B1,.res (KsR ps_7 W2.ks c)]:=by
     intro u0 hz
     refine gX [.z q93_13 2 [1,5,6,7,8,9,11,89,90]] (gS [.o q93_13 2,.c q93_14,.b 1,.c q93_3,.j J_13,.b 0,.c q93_1] ?_)
     refine go_call (some 91) [0,6,7,4,5,11] Tryz.call29 (W_step o_ c x_2 ba_3 rb_4 ka_5 ma2_26 kc_6 mc2_27 ps_7 W2 kk ho hc ⟨_,_,o2,by omega⟩ hat hps) kR ?_
     rintro v post ⟨a2_29,c2_30,rfl,rfl⟩
     refine gX [.z q93_15 0 [1,5,6,7,8,9,11,12,13,14]] (gW (ks:=[.c q93_15,.c q93_16,.b 1,.c q93_3,.j J_13,.b 0,.c q93_1]) [(1,.slice a xs.length c0),(5,.bool true),(6,vP x_2),(7,.slice p.a p.la.length p.c),(8,vI f),(9,vI p.i),(11,.pointer none),(12,.slice a2_29 ((W2.told c kk).l.length) c2_30),(13,vI ((W2.told c kk).e)),(14,.bool ((W2.told c kk).done))] [.pts b_1 [vI q0,vI q1,vI q2] 22,.rd a c0 encLAct dLAct 2 xs bt r,E54ea0 p.a p.c p.la,Ee1326 ma2_26 mc2_27 W2.many,E99bbc rb_4 B1 false 0,E35fb1 B1,.raw 0 o_,Ed2706 x_2 c (vP ba_3) (vP rb_4) ka_5 ps_7.length kc_6 ma2_26 ((W2.step c kk).many.length) mc2_27 ((W2.step c kk).now),.sl ka_5 kc_6 encP 0 1 ps_7 68,E3504b ba_3 ((W2.step c kk).A),E35fb1 ((W2.step c kk).A),.res (KsR ps_7 ((W2.step c kk).ks) c),E54ea0 a2_29 c2_30 ((W2.told c kk).l)] ?_)
     generalize eW3:(W2.step c kk)=W3 at *
     refine zG ?_
     refine zN [0,1,2,3,4,5,6,7] (kV 0 [.w,.w,.w,.e 7,.w,.w,.w,.e 7]) [1,5,6,7,8,9,11,12,13,14,95,96,97,98,99,100,101,102] [8] (.e x_2 (.e x_2 .n)) ⟨?_,trivial⟩
     refine zC (some 103) [9,10] Tryz.call30 (arena_Words ba_3 W3.A (by first | exact o3a | exact o1a) (by omega)) ?_
     rintro v post ⟨a2_8_1r1,c2_8_1r1,rfl,rfl⟩
     refine zN [9,10] (kV 0 [.w,.w,.w,.e 7]++kV 9 [.w,.w]) [103,1,5,6,7,8,9,11,12,13,14,95,96,97,98,104,105] [11] (.e x_2 .n) ⟨?_,trivial⟩
     refine zX (.e 4) (sQ rb_4 (sK ?_))
     refine zE [] [] [1,5,6,7,8,9,11,12,13,14] .n ?_
     refine gX [.z q93_17 0 [1,5,6,7,8,9,11,12,13,14]] (gS [.c q93_17,.b 4,.c q93_18,.b 1,.c q93_3,.j J_13,.b 0,.c q93_1] ?_)
     refine go_loop (ι := Lrow) (fun y=>[(1,.slice a xs.length c0),(5,.bool true),(6,vP x_2),(7,.slice y.a y.r.length y.c),(8,vI f),(9,vI p.i),(11,.pointer none),(12,.slice a2_29 ((W2.told c kk).l.length) c2_30),(13,vI ((W2.told c kk).e)),(14,.bool ((W2.told c kk).done))]) (fun y=>[.pts b_1 [vI q0,vI q1,vI q2] 22,.rd a c0 encLAct dLAct 2 xs bt r,Ee1326 ma2_26 mc2_27 W2.many,E9fe06 rb_4 a2_8_1r1 W3.A.ws.length c2_8_1r1 B1 false 0,E35fb1 B1,.raw 0 o_,Ed2706 x_2 c (vP ba_3) (vP rb_4) ka_5 ps_7.length kc_6 ma2_26 W3.many.length mc2_27 W3.now,.sl ka_5 kc_6 encP 0 1 ps_7 68,.res (KsR ps_7 W3.ks c),E54ea0 a2_29 c2_30 ((W2.told c kk).l),E3504b ba_3 W3.A,E35fb1 W3.A,E54ea0 a2_8_1r1 c2_8_1r1 W3.A.ws,E54ea0 y.a y.c y.r]) (fun y=>y.r=ext p.la ((y.r.length:Nat):Int) W3.now∧((p.la.length:Nat):Int)≤((y.r.length:Nat):Int)∧((y.r.length:Nat):Int)≤W3.A.steps-f) (fun y=>(W3.A.steps-f-((y.r.length:Nat):Int)).toNat) (⟨p.la,p.a,p.c⟩:Lrow) [1,5,6,7,8,9,11,12,13,14] [0,1,3,4,5,6,7,8,9,10,11,12,13,2] kR kR kR kR ⟨(ext_same rfl).symm,Int.le_refl _,(by dsimp only; omega)⟩ ?_
     intro y J_35 hIJ_35 hJ_35
     have hyr:=hIJ_35.1
     have hy1:=hIJ_35.2.1
     have hy2:=hIJ_35.2.2
     refine gX [.e 6,.z q93_19 6 [1,5,6,7,8,9,11,12,13,14,107,111]] (gQ x_2 (gS [.o q93_19 6,.c q93_20,.c q93_21,.j J_35,.b 4,.c q93_18,.b 1,.c q93_3,.j J_13,.b 0,.c q93_1] ?_))
     refine gC (some 112) [10,11] Tryz.call39 (arena_Steps ba_3 W3.A) ?_
     refine gX [.n,.sp [115] [.e 6,.z q93_22 6 [1,5,6,8,9,11,12,13,14,116,121]] [.sp [125,124] [.n,.z [] 0 [1,5,6,7,8,9]] [.n,.z [] 0 [1,5,6,7,8,9]]]] (gO (InK .i64 (W3.A.steps-f)) (by simp only [InK]; omega) (gB (decide (((y.r.length:Nat):Int)<(W3.A.steps-f))) (fun h_37 => ?_) (fun h_37 => ?_)))
     ·replace h_37:=decT h_37
      refine gQ x_2 (gN fun b_36=>gW (ks:=[.o q93_22 6,.b 5,.j J_35,.b 4,.c q93_18,.b 1,.c q93_3,.j J_13,.b 0,.c q93_1]) [(1,.slice a xs.length c0),(5,.bool true),(6,vP x_2),(8,vI f),(9,vI p.i),(11,.pointer none),(12,.slice a2_29 ((W2.told c kk).l.length) c2_30),(13,vI ((W2.told c kk).e)),(14,.bool ((W2.told c kk).done)),(116,.slice y.a y.r.length y.c),(121,.slice (some ⟨b_36,0,none⟩) 1 1)] [.pts b_1 [vI q0,vI q1,vI q2] 22,.rd a c0 encLAct dLAct 2 xs bt r,Ee1326 ma2_26 mc2_27 W2.many,E9fe06 rb_4 a2_8_1r1 W3.A.ws.length c2_8_1r1 B1 false 0,E35fb1 B1,.raw 0 o_,Ed2706 x_2 c (vP ba_3) (vP rb_4) ka_5 ps_7.length kc_6 ma2_26 W3.many.length mc2_27 W3.now,.sl ka_5 kc_6 encP 0 1 ps_7 68,.res (KsR ps_7 W3.ks c),E54ea0 a2_29 c2_30 ((W2.told c kk).l),E54ea0 a2_8_1r1 c2_8_1r1 W3.A.ws,E54ea0 y.a y.c y.r,E3504b ba_3 W3.A,E35fb1 W3.A,.pts b_36 [vU W3.now] 60] ?_)
      refine go_by (some 122) (appO Tryz.prog _) (some (.slice y.a (y.r).length y.c,.slice (some ⟨b_36,0,none⟩) 1 1,(60,1,8))) (R_append 11 (a:=y.a) (c:=y.c) (enc:=encI .u64) (d:=0) (sz:=1) (xs:=y.r) (te:=60) kR (.slice (some ⟨b_36,0,none⟩) 1 1) [W3.now] (src_pts (i:=14) (t:=60) kR) (oneI _) 8 oW oW) kR ?_
      rintro v L2 ⟨a_38,c_39,rfl,rfl⟩
      refine gX [.z [] 0 [1,5,6,7,8,9,11,12,13,14]] (gW (ks:=[.j J_35,.b 4,.c q93_18,.b 1,.c q93_3,.j J_13,.b 0,.c q93_1]) [(1,.slice a xs.length c0),(5,.bool true),(6,vP x_2),(7,.slice a_38 ((y.r++[W3.now]).length) c_39),(8,vI f),(9,vI p.i),(11,.pointer none),(12,.slice a2_29 ((W2.told c kk).l.length) c2_30),(13,vI ((W2.told c kk).e)),(14,.bool ((W2.told c kk).done))] [.pts b_1 [vI q0,vI q1,vI q2] 22,.rd a c0 encLAct dLAct 2 xs bt r,Ee1326 ma2_26 mc2_27 W2.many,E9fe06 rb_4 a2_8_1r1 W3.A.ws.length c2_8_1r1 B1 false 0,E35fb1 B1,.raw 0 o_,Ed2706 x_2 c (vP ba_3) (vP rb_4) ka_5 ps_7.length kc_6 ma2_26 W3.many.length mc2_27 W3.now,.sl ka_5 kc_6 encP 0 1 ps_7 68,.res (KsR ps_7 W3.ks c),E54ea0 a2_29 c2_30 ((W2.told c kk).l),E54ea0 a2_8_1r1 c2_8_1r1 W3.A.ws,E54ea0 a_38 c_39 (y.r++[W3.now]),E3504b ba_3 W3.A,E35fb1 W3.A,.pts b_36 [vU W3.now] 60] ?_)
      have hsn:=ext_snoc hyr hy1
      exact go_back hJ_35 (⟨(y.r++[W3.now]),a_38,c_39⟩:Lrow) [0,1,2,3,4,5,6,7,8,9,12,13,10,11] kR kR kR ⟨hsn.1,hsn.2,(by dsimp only; rw [List.length_append,List.length_singleton]; omega)⟩ (by dsimp only; rw [List.length_append,List.length_singleton]; omega)
     ·replace h_37:=decF h_37
      refine gQ (!(W2.told c kk).done) (gB (!(W2.told c kk).done) (fun h_40 => ?_) (fun h_40 => ?_))
      ·replace h_40:=notT h_40
       refine gO (InK .i64 (p.i+1)) (by simp only [InK]; omega) (gW (ks:=[.j J_13,.b 0,.c q93_1]) [(1,.slice a xs.length c0),(5,.bool true),(6,vP x_2),(7,.slice y.a y.r.length y.c),(8,vI f),(9,vI (p.i+1))] [.pts b_1 [vI q0,vI q1,vI q2] 22,.rd a c0 encLAct dLAct 2 xs bt r,Ee1326 ma2_26 mc2_27 W2.many,E9fe06 rb_4 a2_8_1r1 W3.A.ws.length c2_8_1r1 B1 false 0,E35fb1 B1,.raw 0 o_,Ed2706 x_2 c (vP ba_3) (vP rb_4) ka_5 ps_7.length kc_6 ma2_26 W3.many.length mc2_27 W3.now,.sl ka_5 kc_6 encP 0 1 ps_7 68,.res (KsR ps_7 W3.ks c),E54ea0 a2_29 c2_30 ((W2.told c kk).l),E54ea0 a2_8_1r1 c2_8_1r1 W3.A.ws,E54ea0 y.a y.c y.r,E3504b ba_3 W3.A,E35fb1 W3.A] ?_)
       have hyl:((y.r.length:Nat):Int)=W3.A.steps-f:=by omega
       exact go_back hJ_13 (⟨(⟨p.i+1,W3,(⟨a2_8_1r1,c2_8_1r1,W3.A.ws.length,W3.A.ws,B1.steps,B1.lk,B1.lw,B1.lv,B1.lc⟩:Ar),ma2_26,mc2_27⟩:Lt),y.r,y.a,y.c⟩:Lv) [5,0,6,7,2,12,13,3,10,8,1,11] kR kR kR ⟨(lv_turn hC hpv (by omega) hat eW1 eB1 eW2 eW3 _ _ o3a _ _ _ _ _ _ hw3 hyr hyl _ _),(by dsimp only; omega)⟩ (by dsimp only; omega)
      ·replace h_40:=notF h_40
       refine gO (InK .i64 (p.i+1)) (by simp only [InK]; omega) (gW (ks:=[.j J_13,.b 0,.c q93_1]) [(1,.slice a xs.length c0),(5,.bool true),(6,vP x_2),(7,.slice y.a y.r.length y.c),(8,vI f),(9,vI (p.i+1))] [.pts b_1 [vI q0,vI q1,vI q2] 22,.rd a c0 encLAct dLAct 2 xs bt r,Ee1326 ma2_26 mc2_27 W2.many,E9fe06 rb_4 a2_8_1r1 W3.A.ws.length c2_8_1r1 B1 false 0,E35fb1 B1,.raw 0 o_,Ed2706 x_2 c (vP ba_3) (vP rb_4) ka_5 ps_7.length kc_6 ma2_26 W3.many.length mc2_27 W3.now,.sl ka_5 kc_6 encP 0 1 ps_7 68,.res (KsR ps_7 W3.ks c),E54ea0 a2_29 c2_30 ((W2.told c kk).l),E54ea0 a2_8_1r1 c2_8_1r1 W3.A.ws,E54ea0 y.a y.c y.r,E3504b ba_3 W3.A,E35fb1 W3.A] ?_)
       have hyl:((y.r.length:Nat):Int)=W3.A.steps-f:=by omega
       exact go_back hJ_13 (⟨(⟨p.i+1,W3,(⟨a2_8_1r1,c2_8_1r1,W3.A.ws.length,W3.A.ws,B1.steps,B1.lk,B1.lw,B1.lv,B1.lc⟩:Ar),ma2_26,mc2_27⟩:Lt),y.r,y.a,y.c⟩:Lv) [5,0,6,7,2,12,13,3,10,8,1,11] kR kR kR ⟨(lv_turn hC hpv (by omega) hat eW1 eB1 eW2 eW3 _ _ o3a _ _ _ _ _ _ hw3 hyr hyl _ _),(by dsimp only; omega)⟩ (by dsimp only; omega)
    refine go_view (L':=[.raw 0 o_,.pts b_1 [vI q0,vI q1,vI q2] 22,.rd a c0 encLAct dLAct 2 xs bt r,E54ea0 p.a p.c p.la,E3504b ba_3 W2.A,E35fb1 W2.A,Ed2706 x_2 c (vP ba_3) (vP rb_4) ka_5 ps_7.length kc_6 ma2_26 W2.many.length mc2_27 W2.now,.sl ka_5 kc_6 encP 0 1 ps_7 68,Ee1326 ma2_26 mc2_27 W2.many,E99bbc rb_4 B1 false 0,E35fb1 B1,.res (KlR c (ps_7.getD kk.toNat 0) (W2.ks.getD kk.toNat dK)),.res (KsX ps_7 W2.ks kk.toNat c)]) (ks_focus 11 kk.toNat (ps:=ps_7) (ks:=W2.ks) (c:=c) (by omega) (by omega)) ?_
    obtain⟨K,hK⟩:∃K:Kc,W2.ks.getD kk.toNat dK=K:=⟨_,rfl⟩
    refine go_cast (tm':=[(1,.slice a xs.length c0),(5,.bool true),(6,vP x_2),(7,.slice p.a p.la.length p.c),(8,vI f),(9,vI p.i),(10,vI kk)]) (L':=[.raw 0 o_,.pts b_1 [vI q0,vI q1,vI q2] 22,.rd a c0 encLAct dLAct 2 xs bt r,E54ea0 p.a p.c p.la,E3504b ba_3 W2.A,E35fb1 W2.A,Ed2706 x_2 c (vP ba_3) (vP rb_4) ka_5 ps_7.length kc_6 ma2_26 W2.many.length mc2_27 W2.now,.sl ka_5 kc_6 encP 0 1 ps_7 68,Ee1326 ma2_26 mc2_27 W2.many,E99bbc rb_4 B1 false 0,E35fb1 B1,.res (KlR c (ps_7.getD kk.toNat 0) K),.res (KsX ps_7 W2.ks kk.toNat c)]) (by rw [hK]) ?_
    refine oG (I:=fun _:KlH=>True) (LL:=klL c (ps_7.getD kk.toNat 0) K) 11 ?_
    rintro⟨pv41,sv41,rv41,ra41,rc41,y41⟩ -
    obtain⟨d41,ret41,id41⟩:=K
    cases d41 with
    | idle=>
     refine go_weak (tm':=[(1,.slice a xs.length c0),(5,.bool true),(6,vP x_2),(7,.slice p.a p.la.length p.c),(8,vI f),(9,vI p.i),(10,vI kk)]) (L':=[.raw 0 o_,.pts b_1 [vI q0,vI q1,vI q2] 22,.rd a c0 encLAct dLAct 2 xs bt r,E54ea0 p.a p.c p.la,E3504b ba_3 W2.A,E35fb1 W2.A,Ed2706 x_2 c (vP ba_3) (vP rb_4) ka_5 ps_7.length kc_6 ma2_26 W2.many.length mc2_27 W2.now,.sl ka_5 kc_6 encP 0 1 ps_7 68,Ee1326 ma2_26 mc2_27 W2.many,E99bbc rb_4 B1 false 0,E35fb1 B1,.res (KsX ps_7 W2.ks kk.toNat c),E4463d (ps_7.getD kk.toNat 0) pv41 sv41 rv41 ra41 ret41.length rc41 id41,Ee1326 ra41 rc41 ret41]) [1,5,6,7,8,9,10] [0,1,2,3,4,5,6,7,8,9,10,11,12,13] kR ?_
     have hKk:W2.k kk=⟨.idle,ret41,id41⟩:=hK
     rw [hKk] at hbz
     exact hbz.elim
    | pub ep41 ws41 S41=>
     refine go_weak (tm':=[(1,.slice a xs.length c0),(5,.bool true),(6,vP x_2),(7,.slice p.a p.la.length p.c),(8,vI f),(9,vI p.i),(10,vI kk)]) (L':=[.raw 0 o_,.pts b_1 [vI q0,vI q1,vI q2] 22,.rd a c0 encLAct dLAct 2 xs bt r,E54ea0 p.a p.c p.la,E3504b ba_3 W2.A,E35fb1 W2.A,Ed2706 x_2 c (vP ba_3) (vP rb_4) ka_5 ps_7.length kc_6 ma2_26 W2.many.length mc2_27 W2.now,.sl ka_5 kc_6 encP 0 1 ps_7 68,Ee1326 ma2_26 mc2_27 W2.many,E99bbc rb_4 B1 false 0,E35fb1 B1,.res (KsX ps_7 W2.ks kk.toNat c),Eff665 (ps_7.getD kk.toNat 0) (vP y41) pv41 sv41 rv41 ra41 ret41.length rc41 id41,Ee1326 ra41 rc41 ret41,.res (PbR y41 c (ctlAt c 0) ep41 ws41 S41)]) [1,5,6,7,8,9,10] [0,1,2,3,4,5,6,7,8,9,10,11,12,13,14] kR ?_
     have hKk:W2.k kk=⟨.pub ep41 ws41 S41,ret41,id41⟩:=hK
     refine gX [.e 6,.s 7,.j 7 kk.toNat,.e 12,.z q93_13 0 [1,5,6,7,8,9,10,11]] (gQ x_2 (gO (ka_5=ka_5∧ps_7.length=ps_7.length) ⟨rfl,(by first | rfl | omega | (simp; done) | (simp; omega))⟩ (gO ((0:Int)≤kk∧kk<((ps_7.length:Nat):Int)) (by omega) (gQ (slAt ka_5 kk.toNat 1) (gO (kk.toNat<ps_7.length) (by omega) (gQ (ps_7.getD kk.toNat 0) (gS [.o q93_13 0,.c q93_14,.b 1,.c q93_3,.j J_13,.b 0,.c q93_1] ?_)))))))
     refine go_view (vK (fun _:KlH=>True) (klL c (ps_7.getD kk.toNat 0) ⟨.pub ep41 ws41 S41,ret41,id41⟩) ⟨pv41,sv41,rv41,ra41,rc41,y41⟩ [12,13,14] trivial) ?_
     refine go_view (ks_back (ps:=ps_7) (ks:=W2.ks) (c:=c) 12 11 kk.toNat ⟨.pub ep41 ws41 S41,ret41,id41⟩ hK (by omega) (by omega)) ?_
     exact go_weak [1,5,6,7,8,9,10,11] [0,1,2,3,4,5,6,7,8,9,10,11] kR (hj_28 () trivial)
    | scan S41=>
     refine go_weak (tm':=[(1,.slice a xs.length c0),(5,.bool true),(6,vP x_2),(7,.slice p.a p.la.length p.c),(8,vI f),(9,vI p.i),(10,vI kk)]) (L':=[.raw 0 o_,.pts b_1 [vI q0,vI q1,vI q2] 22,.rd a c0 encLAct dLAct 2 xs bt r,E54ea0 p.a p.c p.la,E3504b ba_3 W2.A,E35fb1 W2.A,Ed2706 x_2 c (vP ba_3) (vP rb_4) ka_5 ps_7.length kc_6 ma2_26 W2.many.length mc2_27 W2.now,.sl ka_5 kc_6 encP 0 1 ps_7 68,Ee1326 ma2_26 mc2_27 W2.many,E99bbc rb_4 B1 false 0,E35fb1 B1,.res (KsX ps_7 W2.ks kk.toNat c),Eb05f6 (ps_7.getD kk.toNat 0) (vP y41) pv41 sv41 rv41 ra41 ret41.length rc41 id41,Ee1326 ra41 rc41 ret41,.res (ScanR y41 c S41)]) [1,5,6,7,8,9,10] [0,1,2,3,4,5,6,7,8,9,10,11,12,13,14] kR ?_
     have hKk:W2.k kk=⟨.scan S41,ret41,id41⟩:=hK
     refine gX [.e 6,.s 7,.j 7 kk.toNat,.e 12,.z q93_13 0 [1,5,6,7,8,9,10,11]] (gQ x_2 (gO (ka_5=ka_5∧ps_7.length=ps_7.length) ⟨rfl,(by first | rfl | omega | (simp; done) | (simp; omega))⟩ (gO ((0:Int)≤kk∧kk<((ps_7.length:Nat):Int)) (by omega) (gQ (slAt ka_5 kk.toNat 1) (gO (kk.toNat<ps_7.length) (by omega) (gQ (ps_7.getD kk.toNat 0) (gS [.o q93_13 0,.c q93_14,.b 1,.c q93_3,.j J_13,.b 0,.c q93_1] ?_)))))))
     refine go_view (vK (fun _:KlH=>True) (klL c (ps_7.getD kk.toNat 0) ⟨.scan S41,ret41,id41⟩) ⟨pv41,sv41,rv41,ra41,rc41,y41⟩ [12,13,14] trivial) ?_
     refine go_view (ks_back (ps:=ps_7) (ks:=W2.ks) (c:=c) 12 11 kk.toNat ⟨.scan S41,ret41,id41⟩ hK (by omega) (by omega)) ?_
     exact go_weak [1,5,6,7,8,9,10,11] [0,1,2,3,4,5,6,7,8,9,10,11] kR (hj_28 () trivial)
    | read cl41 ep41 S41=>
     refine go_weak (tm':=[(1,.slice a xs.length c0),(5,.bool true),(6,vP x_2),(7,.slice p.a p.la.length p.c),(8,vI f),(9,vI p.i),(10,vI kk)]) (L':=[.raw 0 o_,.pts b_1 [vI q0,vI q1,vI q2] 22,.rd a c0 encLAct dLAct 2 xs bt r,E54ea0 p.a p.c p.la,E3504b ba_3 W2.A,E35fb1 W2.A,Ed2706 x_2 c (vP ba_3) (vP rb_4) ka_5 ps_7.length kc_6 ma2_26 W2.many.length mc2_27 W2.now,.sl ka_5 kc_6 encP 0 1 ps_7 68,Ee1326 ma2_26 mc2_27 W2.many,E99bbc rb_4 B1 false 0,E35fb1 B1,.res (KsX ps_7 W2.ks kk.toNat c),E70a74 (ps_7.getD kk.toNat 0) (vP y41) pv41 sv41 rv41 ra41 ret41.length rc41 id41,Ee1326 ra41 rc41 ret41,.res (RdR y41 c cl41 0 ep41 S41)]) [1,5,6,7,8,9,10] [0,1,2,3,4,5,6,7,8,9,10,11,12,13,14] kR ?_
     have hKk:W2.k kk=⟨.read cl41 ep41 S41,ret41,id41⟩:=hK
     refine gX [.e 6,.s 7,.j 7 kk.toNat,.e 12,.z q93_13 0 [1,5,6,7,8,9,10,11]] (gQ x_2 (gO (ka_5=ka_5∧ps_7.length=ps_7.length) ⟨rfl,(by first | rfl | omega | (simp; done) | (simp; omega))⟩ (gO ((0:Int)≤kk∧kk<((ps_7.length:Nat):Int)) (by omega) (gQ (slAt ka_5 kk.toNat 1) (gO (kk.toNat<ps_7.length) (by omega) (gQ (ps_7.getD kk.toNat 0) (gW (ks:=[.o q93_13 0,.c q93_14,.b 1,.c q93_3,.j J_13,.b 0,.c q93_1]) [(1,.slice a xs.length c0),(5,.bool true),(6,vP x_2),(7,.slice p.a p.la.length p.c),(8,vI f),(9,vI p.i),(10,vI kk),(11,vP y41)] [.raw 0 o_,.pts b_1 [vI q0,vI q1,vI q2] 22,.rd a c0 encLAct dLAct 2 xs bt r,E54ea0 p.a p.c p.la,E3504b ba_3 W2.A,E35fb1 W2.A,Ed2706 x_2 c (vP ba_3) (vP rb_4) ka_5 ps_7.length kc_6 ma2_26 W2.many.length mc2_27 W2.now,.sl ka_5 kc_6 encP 0 1 ps_7 68,Ee1326 ma2_26 mc2_27 W2.many,E99bbc rb_4 B1 false 0,E35fb1 B1,.res (KsX ps_7 W2.ks kk.toNat c),E70a74 (ps_7.getD kk.toNat 0) (vP y41) pv41 sv41 rv41 ra41 ret41.length rc41 id41,Ee1326 ra41 rc41 ret41,.res (RdR y41 c cl41 0 ep41 S41)] ?_)))))))
     have hst2:=o2.st kk hat
     rw [hKk] at hst2
     have hin2:=o2.arw
     by_cases hd:(S41.step c cl41 0 ep41 W2.A).1.ph=0
     ·skip
      have hrs:=rd_step (ep:=ep41) hc hst2.1 o2.arw (by have:=hC.ok; simp only [Cfg.Ok] at this; omega) o2.ctl
      have hwl:=hrs.1.wl
      refine gX [.z q93_13 2 [1,5,6,7,8,9,11,89,90]] (gS [.o q93_13 2,.c q93_14,.b 1,.c q93_3,.j J_13,.b 0,.c q93_1] ?_)
      refine go_call (some 91) [0,6,7,12,14,4,5] Tryz.call29 (w_stepRD c x_2 ba_3 rb_4 W2.now ka_5 ma2_26 kc_6 mc2_27 ps_7 W2.many W2.A kk pv41 sv41 rv41 ra41 rc41 id41 ret41 y41 cl41 0 ep41 S41 o_ hat hps hc o2.arw.1 (by have:=o2.arw.2.2.2; omega) o2.arw.2.1 o2.arw.2.2.1 (by have:=hC.ok; simp only [Cfg.Ok] at this; omega) o2.ctl hst2.1 ho hd hwl) kR ?_
      rintro v post ⟨a2_42,c2_43,rfl,rfl⟩
      refine gX [.z q93_15 0 [1,5,6,7,8,9,11,12,13,14]] (gW (ks:=[.c q93_15,.c q93_16,.b 1,.c q93_3,.j J_13,.b 0,.c q93_1]) [(1,.slice a xs.length c0),(5,.bool true),(6,vP x_2),(7,.slice p.a p.la.length p.c),(8,vI f),(9,vI p.i),(11,vP y41),(12,.slice a2_42 ((Rd.told (S41.step c cl41 0 ep41 W2.A).1).1.length) c2_43),(13,vI ((Rd.told (S41.step c cl41 0 ep41 W2.A).1).2)),(14,.bool true)] [.pts b_1 [vI q0,vI q1,vI q2] 22,.rd a c0 encLAct dLAct 2 xs bt r,E54ea0 p.a p.c p.la,Ee1326 ma2_26 mc2_27 W2.many,E99bbc rb_4 B1 false 0,E35fb1 B1,.res (KsX ps_7 W2.ks kk.toNat c),Ee1326 ra41 rc41 ret41,.raw 0 o_,Ed2706 x_2 c (vP ba_3) (vP rb_4) ka_5 ps_7.length kc_6 ma2_26 W2.many.length mc2_27 W2.now,.sl ka_5 kc_6 encP 0 1 ps_7 68,E4463d (ps_7.getD kk.toNat 0) pv41 sv41 rv41 ra41 ret41.length rc41 id41,.res (RdR y41 c cl41 0 ep41 ((S41.step c cl41 0 ep41 W2.A).1)),E54ea0 a2_42 c2_43 ((Rd.told (S41.step c cl41 0 ep41 W2.A).1).1),E3504b ba_3 ((S41.step c cl41 0 ep41 W2.A).2),E35fb1 ((S41.step c cl41 0 ep41 W2.A).2)] ?_)
      refine go_view (L':=[.pts b_1 [vI q0,vI q1,vI q2] 22,.rd a c0 encLAct dLAct 2 xs bt r,E54ea0 p.a p.c p.la,Ee1326 ma2_26 mc2_27 W2.many,E99bbc rb_4 B1 false 0,E35fb1 B1,.res (KsX ps_7 W2.ks kk.toNat c),.raw 0 o_,Ed2706 x_2 c (vP ba_3) (vP rb_4) ka_5 ps_7.length kc_6 ma2_26 W2.many.length mc2_27 W2.now,.sl ka_5 kc_6 encP 0 1 ps_7 68,.res (RdR y41 c cl41 0 ep41 ((S41.step c cl41 0 ep41 W2.A).1)),E54ea0 a2_42 c2_43 ((Rd.told (S41.step c cl41 0 ep41 W2.A).1).1),E3504b ba_3 ((S41.step c cl41 0 ep41 W2.A).2),E35fb1 ((S41.step c cl41 0 ep41 W2.A).2),.res (KlR c (ps_7.getD kk.toNat 0) ⟨.idle,ret41,id41⟩)]) (vK (fun _:KlH=>True) (klL c (ps_7.getD kk.toNat 0) ⟨.idle,ret41,id41⟩) ⟨pv41,sv41,rv41,ra41,rc41,y41⟩ [11,7] trivial) ?_
      refine go_view (L':=[.pts b_1 [vI q0,vI q1,vI q2] 22,.rd a c0 encLAct dLAct 2 xs bt r,E54ea0 p.a p.c p.la,Ee1326 ma2_26 mc2_27 W2.many,E99bbc rb_4 B1 false 0,E35fb1 B1,.raw 0 o_,Ed2706 x_2 c (vP ba_3) (vP rb_4) ka_5 ps_7.length kc_6 ma2_26 W2.many.length mc2_27 W2.now,.sl ka_5 kc_6 encP 0 1 ps_7 68,.res (RdR y41 c cl41 0 ep41 ((S41.step c cl41 0 ep41 W2.A).1)),E54ea0 a2_42 c2_43 ((Rd.told (S41.step c cl41 0 ep41 W2.A).1).1),E3504b ba_3 ((S41.step c cl41 0 ep41 W2.A).2),E35fb1 ((S41.step c cl41 0 ep41 W2.A).2),.res (KsR ps_7 (W2.ks.set kk.toNat ⟨.idle,ret41,id41⟩) c)]) (ks_unfocus (ps:=ps_7) (ks:=W2.ks) (c:=c) 14 6 kk.toNat ⟨.idle,ret41,id41⟩ (by omega) (by omega)) ?_
      have hW3:=step_rd hKk hd
      refine go_cast (tm':=[(1,.slice a xs.length c0),(5,.bool true),(6,vP x_2),(7,.slice p.a p.la.length p.c),(8,vI f),(9,vI p.i),(11,vP y41),(12,.slice a2_42 ((Rd.told (S41.step c cl41 0 ep41 W2.A).1).1.length) c2_43),(13,vI ((Rd.told (S41.step c cl41 0 ep41 W2.A).1).2)),(14,.bool true)]) (L':=[.pts b_1 [vI q0,vI q1,vI q2] 22,.rd a c0 encLAct dLAct 2 xs bt r,E54ea0 p.a p.c p.la,Ee1326 ma2_26 mc2_27 ((W2.step c kk).many),E99bbc rb_4 B1 false 0,E35fb1 B1,.raw 0 o_,Ed2706 x_2 c (vP ba_3) (vP rb_4) ka_5 ps_7.length kc_6 ma2_26 ((W2.step c kk).many.length) mc2_27 ((W2.step c kk).now),.sl ka_5 kc_6 encP 0 1 ps_7 68,.res (RdR y41 c cl41 0 ep41 ((S41.step c cl41 0 ep41 W2.A).1)),E54ea0 a2_42 c2_43 ((Rd.told (S41.step c cl41 0 ep41 W2.A).1).1),E3504b ba_3 ((W2.step c kk).A),E35fb1 ((W2.step c kk).A),.res (KsR ps_7 ((W2.step c kk).ks) c)]) (by rw [hW3]) ?_
      generalize eW3:(W2.step c kk)=W3 at *
      refine zG ?_
      refine zN [0,1,2,3,4,5,6,7] (kV 0 [.w,.w,.w,.e 7,.w,.w,.w,.e 7]) [1,5,6,7,8,9,11,12,13,14,95,96,97,98,99,100,101,102] [8] (.e x_2 (.e x_2 .n)) ⟨?_,trivial⟩
      refine zC (some 103) [11,12] Tryz.call30 (arena_Words ba_3 W3.A (by first | exact o3a | exact o1a) (by omega)) ?_
      rintro v post ⟨a2_8_1r1,c2_8_1r1,rfl,rfl⟩
      refine zN [9,10] (kV 0 [.w,.w,.w,.e 7]++kV 9 [.w,.w]) [103,1,5,6,7,8,9,11,12,13,14,95,96,97,98,104,105] [11] (.e x_2 .n) ⟨?_,trivial⟩
      refine zX (.e 4) (sQ rb_4 (sK ?_))
      refine zE [] [] [1,5,6,7,8,9,11,12,13,14] .n ?_
      refine gX [.z q93_17 0 [1,5,6,7,8,9,11,12,13,14]] (gS [.c q93_17,.b 4,.c q93_18,.b 1,.c q93_3,.j J_13,.b 0,.c q93_1] ?_)
      refine go_loop (ι := Lrow) (fun y=>[(1,.slice a xs.length c0),(5,.bool true),(6,vP x_2),(7,.slice y.a y.r.length y.c),(8,vI f),(9,vI p.i),(11,vP y41),(12,.slice a2_42 ((Rd.told (S41.step c cl41 0 ep41 W2.A).1).1.length) c2_43),(13,vI ((Rd.told (S41.step c cl41 0 ep41 W2.A).1).2)),(14,.bool true)]) (fun y=>[.pts b_1 [vI q0,vI q1,vI q2] 22,.rd a c0 encLAct dLAct 2 xs bt r,Ee1326 ma2_26 mc2_27 W3.many,E9fe06 rb_4 a2_8_1r1 W3.A.ws.length c2_8_1r1 B1 false 0,E35fb1 B1,.raw 0 o_,Ed2706 x_2 c (vP ba_3) (vP rb_4) ka_5 ps_7.length kc_6 ma2_26 W3.many.length mc2_27 W3.now,.sl ka_5 kc_6 encP 0 1 ps_7 68,.res (RdR y41 c cl41 0 ep41 ((S41.step c cl41 0 ep41 W2.A).1)),E54ea0 a2_42 c2_43 ((Rd.told (S41.step c cl41 0 ep41 W2.A).1).1),.res (KsR ps_7 W3.ks c),E3504b ba_3 W3.A,E35fb1 W3.A,E54ea0 a2_8_1r1 c2_8_1r1 W3.A.ws,E54ea0 y.a y.c y.r]) (fun y=>y.r=ext p.la ((y.r.length:Nat):Int) W3.now∧((p.la.length:Nat):Int)≤((y.r.length:Nat):Int)∧((y.r.length:Nat):Int)≤W3.A.steps-f) (fun y=>(W3.A.steps-f-((y.r.length:Nat):Int)).toNat) (⟨p.la,p.a,p.c⟩:Lrow) [1,5,6,7,8,9,11,12,13,14] [0,1,3,4,5,6,7,8,9,10,11,12,13,14,2] kR kR kR kR ⟨(ext_same rfl).symm,Int.le_refl _,(by dsimp only; omega)⟩ ?_
      intro y J_48 hIJ_48 hJ_48
      have hyr:=hIJ_48.1
      have hy1:=hIJ_48.2.1
      have hy2:=hIJ_48.2.2
      refine gX [.e 6,.z q93_19 6 [1,5,6,7,8,9,11,12,13,14,107,111]] (gQ x_2 (gS [.o q93_19 6,.c q93_20,.c q93_21,.j J_48,.b 4,.c q93_18,.b 1,.c q93_3,.j J_13,.b 0,.c q93_1] ?_))
      refine gC (some 112) [11,12] Tryz.call39 (arena_Steps ba_3 W3.A) ?_
      refine gX [.n,.sp [115] [.e 6,.z q93_22 6 [1,5,6,8,9,11,12,13,14,116,121]] [.sp [132,131] [.n,.z [] 0 [1,5,6,7,8,9]] [.z q93_23 0 [1,5,6,7,8,9,11,12]]]] (gO (InK .i64 (W3.A.steps-f)) (by simp only [InK]; omega) (gB (decide (((y.r.length:Nat):Int)<(W3.A.steps-f))) (fun h_50 => ?_) (fun h_50 => ?_)))
      ·replace h_50:=decT h_50
       refine gQ x_2 (gN fun b_49=>gW (ks:=[.o q93_22 6,.b 5,.j J_48,.b 4,.c q93_18,.b 1,.c q93_3,.j J_13,.b 0,.c q93_1]) [(1,.slice a xs.length c0),(5,.bool true),(6,vP x_2),(8,vI f),(9,vI p.i),(11,vP y41),(12,.slice a2_42 ((Rd.told (S41.step c cl41 0 ep41 W2.A).1).1.length) c2_43),(13,vI ((Rd.told (S41.step c cl41 0 ep41 W2.A).1).2)),(14,.bool true),(116,.slice y.a y.r.length y.c),(121,.slice (some ⟨b_49,0,none⟩) 1 1)] [.pts b_1 [vI q0,vI q1,vI q2] 22,.rd a c0 encLAct dLAct 2 xs bt r,Ee1326 ma2_26 mc2_27 W3.many,E9fe06 rb_4 a2_8_1r1 W3.A.ws.length c2_8_1r1 B1 false 0,E35fb1 B1,.raw 0 o_,Ed2706 x_2 c (vP ba_3) (vP rb_4) ka_5 ps_7.length kc_6 ma2_26 W3.many.length mc2_27 W3.now,.sl ka_5 kc_6 encP 0 1 ps_7 68,.res (RdR y41 c cl41 0 ep41 ((S41.step c cl41 0 ep41 W2.A).1)),E54ea0 a2_42 c2_43 ((Rd.told (S41.step c cl41 0 ep41 W2.A).1).1),.res (KsR ps_7 W3.ks c),E54ea0 a2_8_1r1 c2_8_1r1 W3.A.ws,E54ea0 y.a y.c y.r,E3504b ba_3 W3.A,E35fb1 W3.A,.pts b_49 [vU W3.now] 60] ?_)
       refine go_by (some 122) (appO Tryz.prog _) (some (.slice y.a (y.r).length y.c,.slice (some ⟨b_49,0,none⟩) 1 1,(60,1,8))) (R_append 12 (a:=y.a) (c:=y.c) (enc:=encI .u64) (d:=0) (sz:=1) (xs:=y.r) (te:=60) kR (.slice (some ⟨b_49,0,none⟩) 1 1) [W3.now] (src_pts (i:=15) (t:=60) kR) (oneI _) 8 oW oW) kR ?_
       rintro v L2 ⟨a_51,c_52,rfl,rfl⟩
       refine gX [.z [] 0 [1,5,6,7,8,9,11,12,13,14]] (gW (ks:=[.j J_48,.b 4,.c q93_18,.b 1,.c q93_3,.j J_13,.b 0,.c q93_1]) [(1,.slice a xs.length c0),(5,.bool true),(6,vP x_2),(7,.slice a_51 ((y.r++[W3.now]).length) c_52),(8,vI f),(9,vI p.i),(11,vP y41),(12,.slice a2_42 ((Rd.told (S41.step c cl41 0 ep41 W2.A).1).1.length) c2_43),(13,vI ((Rd.told (S41.step c cl41 0 ep41 W2.A).1).2)),(14,.bool true)] [.pts b_1 [vI q0,vI q1,vI q2] 22,.rd a c0 encLAct dLAct 2 xs bt r,Ee1326 ma2_26 mc2_27 W3.many,E9fe06 rb_4 a2_8_1r1 W3.A.ws.length c2_8_1r1 B1 false 0,E35fb1 B1,.raw 0 o_,Ed2706 x_2 c (vP ba_3) (vP rb_4) ka_5 ps_7.length kc_6 ma2_26 W3.many.length mc2_27 W3.now,.sl ka_5 kc_6 encP 0 1 ps_7 68,.res (RdR y41 c cl41 0 ep41 ((S41.step c cl41 0 ep41 W2.A).1)),E54ea0 a2_42 c2_43 ((Rd.told (S41.step c cl41 0 ep41 W2.A).1).1),.res (KsR ps_7 W3.ks c),E54ea0 a2_8_1r1 c2_8_1r1 W3.A.ws,E54ea0 a_51 c_52 (y.r++[W3.now]),E3504b ba_3 W3.A,E35fb1 W3.A,.pts b_49 [vU W3.now] 60] ?_)
       have hsn:=ext_snoc hyr hy1
       exact go_back hJ_48 (⟨(y.r++[W3.now]),a_51,c_52⟩:Lrow) [0,1,2,3,4,5,6,7,8,9,10,13,14,11,12] kR kR kR ⟨hsn.1,hsn.2,(by dsimp only; rw [List.length_append,List.length_singleton]; omega)⟩ (by dsimp only; rw [List.length_append,List.length_singleton]; omega)
      ·replace h_50:=decF h_50
       refine gQ (((Rd.told (S41.step c cl41 0 ep41 W2.A).1).2) != 0) (gB (((Rd.told (S41.step c cl41 0 ep41 W2.A).1).2) != 0) (fun h_53 => ?_) (fun h_53 => ?_))
       ·replace h_53:=bneT h_53
        refine gO (InK .i64 (p.i+1)) (by simp only [InK]; omega) (gW (ks:=[.j J_13,.b 0,.c q93_1]) [(1,.slice a xs.length c0),(5,.bool true),(6,vP x_2),(7,.slice y.a y.r.length y.c),(8,vI f),(9,vI (p.i+1))] [.pts b_1 [vI q0,vI q1,vI q2] 22,.rd a c0 encLAct dLAct 2 xs bt r,Ee1326 ma2_26 mc2_27 W3.many,E9fe06 rb_4 a2_8_1r1 W3.A.ws.length c2_8_1r1 B1 false 0,E35fb1 B1,.raw 0 o_,Ed2706 x_2 c (vP ba_3) (vP rb_4) ka_5 ps_7.length kc_6 ma2_26 W3.many.length mc2_27 W3.now,.sl ka_5 kc_6 encP 0 1 ps_7 68,.res (RdR y41 c cl41 0 ep41 ((S41.step c cl41 0 ep41 W2.A).1)),E54ea0 a2_42 c2_43 ((Rd.told (S41.step c cl41 0 ep41 W2.A).1).1),.res (KsR ps_7 W3.ks c),E54ea0 a2_8_1r1 c2_8_1r1 W3.A.ws,E54ea0 y.a y.c y.r,E3504b ba_3 W3.A,E35fb1 W3.A] ?_)
        have hyl:((y.r.length:Nat):Int)=W3.A.steps-f:=by omega
        exact go_back hJ_13 (⟨(⟨p.i+1,W3,(⟨a2_8_1r1,c2_8_1r1,W3.A.ws.length,W3.A.ws,B1.steps,B1.lk,B1.lw,B1.lv,B1.lc⟩:Ar),ma2_26,mc2_27⟩:Lt),y.r,y.a,y.c⟩:Lv) [5,0,6,7,2,13,14,3,11,10,1,12] kR kR kR ⟨(lv_turn hC hpv (by omega) hat eW1 eB1 eW2 eW3 _ _ o3a _ _ _ _ _ _ hw3 hyr hyl _ _),(by dsimp only; omega)⟩ (by dsimp only; omega)
       ·replace h_53:=bneF h_53
        refine gW (ks:=[.o q93_23 0,.c q93_24,.b 1,.c q93_3,.j J_13,.b 0,.c q93_1]) [(1,.slice a xs.length c0),(5,.bool true),(6,vP x_2),(7,.slice y.a y.r.length y.c),(8,vI f),(9,vI p.i),(11,vP y41),(12,.slice a2_42 ((Rd.told (S41.step c cl41 0 ep41 W2.A).1).1.length) c2_43)] [.pts b_1 [vI q0,vI q1,vI q2] 22,.rd a c0 encLAct dLAct 2 xs bt r,Ee1326 ma2_26 mc2_27 W3.many,E9fe06 rb_4 a2_8_1r1 W3.A.ws.length c2_8_1r1 B1 false 0,E35fb1 B1,.raw 0 o_,Ed2706 x_2 c (vP ba_3) (vP rb_4) ka_5 ps_7.length kc_6 ma2_26 W3.many.length mc2_27 W3.now,.sl ka_5 kc_6 encP 0 1 ps_7 68,.res (RdR y41 c cl41 0 ep41 ((S41.step c cl41 0 ep41 W2.A).1)),E54ea0 a2_42 c2_43 ((Rd.told (S41.step c cl41 0 ep41 W2.A).1).1),.res (KsR ps_7 W3.ks c),E54ea0 a2_8_1r1 c2_8_1r1 W3.A.ws,E54ea0 y.a y.c y.r,E3504b ba_3 W3.A,E35fb1 W3.A] ?_
        have hyl:((y.r.length:Nat):Int)=W3.A.steps-f:=by omega
        have htz:(Rd.told (S41.step c cl41 0 ep41 W2.A).1).2=0:=by assumption
        have hfin:=wh_fin hc o2 hw2 hat hKk hd (told_code hd htz).1
        have eA:W3.A=(S41.step c cl41 0 ep41 W2.A).2:=by rw [hW3]
        have eN:W3.now=W2.now:=by rw [hW3]
        have eM:W3.many=W2.many:=by rw [hW3]
        rw [←eA,←eN,←eM,←hyl,←hyr] at hfin
        obtain⟨hcm,hl0,w,hw,hwr,hwm,hwa⟩:=fin_nums hd hfin htz
        rw [←eM] at hml
        have hlo:(Rd.told (S41.step c cl41 0 ep41 W2.A).1).1.length≤96:=by rw [(told_code hd htz).2]; exact hwl
        refine gX [.z q93_23 1 [1,5,6,7,8,9,12,133]] (gS [.o q93_23 1,.c q93_24,.b 1,.c q93_3,.j J_13,.b 0,.c q93_1] ?_)
        refine gC (some 134) [8] Tryz.call22 (rd_Commit y41 c cl41 0 ep41 ((S41.step c cl41 0 ep41 W2.A).1) (by rw [hd]; omega) (fun G h=>((hrs.1.g G h).1.ph))) ?_
        refine gX [.n,.sp [139,138] [.dead] [.sp [145,143,144] [.dead] [.sp [149,148] [.dead] [.n,.s 11,.j 11 ((((Rd.comm ((S41.step c cl41 0 ep41 W2.A).1))-f)-1).toNat),.z q93_25 0 [1,5,6,7,8,9,12,16]]]]] (gO (InK .i64 ((Rd.comm ((S41.step c cl41 0 ep41 W2.A).1))-f)) (by simp only [InK]; omega) (gQ (decide (((Rd.comm ((S41.step c cl41 0 ep41 W2.A).1))-f)<1)) (gF (decide (((Rd.comm ((S41.step c cl41 0 ep41 W2.A).1))-f)<1)) (decide_eq_false (by omega)) (gQ (decide (((Rd.comm ((S41.step c cl41 0 ep41 W2.A).1))-f)>((y.r.length:Nat):Int))) (gQ (decide (((Rd.comm ((S41.step c cl41 0 ep41 W2.A).1))-f)>((y.r.length:Nat):Int))) (gF (decide (((Rd.comm ((S41.step c cl41 0 ep41 W2.A).1))-f)>((y.r.length:Nat):Int))) (decide_eq_false (by omega)) (gQ ((((Rd.told (S41.step c cl41 0 ep41 W2.A).1).1.length:Nat):Int)==0) (gF ((((Rd.told (S41.step c cl41 0 ep41 W2.A).1).1.length:Nat):Int)==0) (beq_eq_false_iff_ne.2 (by omega)) (gO (InK .i64 (((Rd.comm ((S41.step c cl41 0 ep41 W2.A).1))-f)-1)) (by simp only [InK]; omega) (gO (y.a=y.a∧y.r.length=y.r.length) ⟨rfl,(by first | rfl | omega | (simp; done) | (simp; omega))⟩ (gO ((0:Int)≤(((Rd.comm ((S41.step c cl41 0 ep41 W2.A).1))-f)-1)∧(((Rd.comm ((S41.step c cl41 0 ep41 W2.A).1))-f)-1)<((y.r.length:Nat):Int)) (by omega) (gQ (slAt y.a ((((Rd.comm ((S41.step c cl41 0 ep41 W2.A).1))-f)-1).toNat) 1) (gO ((((Rd.comm ((S41.step c cl41 0 ep41 W2.A).1))-f)-1).toNat<y.r.length) (by omega) (gW (ks:=[.o q93_25 0,.c [1,0,1,1,1,1,1,1,1,1,1,1,1,0,0,1,0,0,1,0,1,1,1,1,1,1],.c [1,1,1,1,1,1,1,1,1,1,1,1,0,0,1,0,0,1,0,1,1,1,1,1,1],.b 1,.c q93_3,.j J_13,.b 0,.c q93_1]) [(1,.slice a xs.length c0),(5,.bool true),(6,vP x_2),(7,.slice y.a y.r.length y.c),(8,vI f),(9,vI p.i),(12,.slice a2_42 ((Rd.told (S41.step c cl41 0 ep41 W2.A).1).1.length) c2_43),(16,vU (y.r.getD ((((Rd.comm ((S41.step c cl41 0 ep41 W2.A).1))-f)-1).toNat) 0))] [.pts b_1 [vI q0,vI q1,vI q2] 22,.rd a c0 encLAct dLAct 2 xs bt r,Ee1326 ma2_26 mc2_27 W3.many,E9fe06 rb_4 a2_8_1r1 W3.A.ws.length c2_8_1r1 B1 false 0,E35fb1 B1,.raw 0 o_,Ed2706 x_2 c (vP ba_3) (vP rb_4) ka_5 ps_7.length kc_6 ma2_26 W3.many.length mc2_27 W3.now,.sl ka_5 kc_6 encP 0 1 ps_7 68,E54ea0 a2_42 c2_43 ((Rd.told (S41.step c cl41 0 ep41 W2.A).1).1),.res (KsR ps_7 W3.ks c),E54ea0 a2_8_1r1 c2_8_1r1 W3.A.ws,E54ea0 y.a y.c y.r,E3504b ba_3 W3.A,E35fb1 W3.A,.res (RdR y41 c cl41 0 ep41 ((S41.step c cl41 0 ep41 W2.A).1))] ?_))))))))))))))
        refine go_cast (tm':=[(1,.slice a xs.length c0),(5,.bool true),(6,vP x_2),(7,.slice y.a y.r.length y.c),(8,vI f),(9,vI p.i),(12,.slice a2_42 ((Rd.told (S41.step c cl41 0 ep41 W2.A).1).1.length) c2_43),(16,vU w)]) (L':=[.pts b_1 [vI q0,vI q1,vI q2] 22,.rd a c0 encLAct dLAct 2 xs bt r,Ee1326 ma2_26 mc2_27 W3.many,E9fe06 rb_4 a2_8_1r1 W3.A.ws.length c2_8_1r1 B1 false 0,E35fb1 B1,.raw 0 o_,Ed2706 x_2 c (vP ba_3) (vP rb_4) ka_5 ps_7.length kc_6 ma2_26 W3.many.length mc2_27 W3.now,.sl ka_5 kc_6 encP 0 1 ps_7 68,E54ea0 a2_42 c2_43 ((Rd.told (S41.step c cl41 0 ep41 W2.A).1).1),.res (KsR ps_7 W3.ks c),E54ea0 a2_8_1r1 c2_8_1r1 W3.A.ws,E54ea0 y.a y.c y.r,E3504b ba_3 W3.A,E35fb1 W3.A,.res (RdR y41 c cl41 0 ep41 ((S41.step c cl41 0 ep41 W2.A).1))]) (by rw [←hw]) ?_
        refine gX [.sp [157,156] [.dead] [.n,.e 6,.sp [167,165,166] [.dead] [.e 6,.n,.s 2,.j 2 ((w-1).toNat),.sp [179,178] [.dead] [.z q93_26 0 [1,5,6,7,8,9,12,16,17]]]]] (gQ (decide (w<1)) (gF (decide (w<1)) (decide_eq_false (by omega)) (gO (InK .i64 w) (by simp only [InK]; omega) (gQ x_2 (gQ (decide (w>((W3.many.length:Nat):Int))) (gQ (decide (w>((W3.many.length:Nat):Int))) (gF (decide (w>((W3.many.length:Nat):Int))) (decide_eq_false (by omega)) (gQ x_2 (gO (InK .u64 (w-1)) (by simp only [InK]; omega) (gO (ma2_26=ma2_26∧W3.many.length=W3.many.length) ⟨rfl,(by first | rfl | omega | (simp; done) | (simp; omega))⟩ (gO ((0:Int)≤(w-1)∧(w-1)<((W3.many.length:Nat):Int)) (by omega) (gQ (slAt ma2_26 ((w-1).toNat) 1) (gO ((w-1).toNat<W3.many.length) (by omega) (gQ (decide ((((Rd.told (S41.step c cl41 0 ep41 W2.A).1).1.length:Nat):Int)<(W3.many.getD ((w-1).toNat) 0))) (gF (decide ((((Rd.told (S41.step c cl41 0 ep41 W2.A).1).1.length:Nat):Int)<(W3.many.getD ((w-1).toNat) 0))) (decide_eq_false (by omega)) (gS [.c q93_26,.b 6,.b 1,.c q93_3,.j J_13,.b 0,.c q93_1] ?_))))))))))))))))
        refine go_loop (ι := Int) (fun j=>[(1,.slice a xs.length c0),(5,.bool true),(6,vP x_2),(7,.slice y.a y.r.length y.c),(8,vI f),(9,vI p.i),(12,.slice a2_42 ((Rd.told (S41.step c cl41 0 ep41 W2.A).1).1.length) c2_43),(16,vU w),(17,vI j)]) (fun j=>[.pts b_1 [vI q0,vI q1,vI q2] 22,.rd a c0 encLAct dLAct 2 xs bt r,Ee1326 ma2_26 mc2_27 W3.many,E9fe06 rb_4 a2_8_1r1 W3.A.ws.length c2_8_1r1 B1 false 0,E35fb1 B1,.raw 0 o_,Ed2706 x_2 c (vP ba_3) (vP rb_4) ka_5 ps_7.length kc_6 ma2_26 W3.many.length mc2_27 W3.now,.sl ka_5 kc_6 encP 0 1 ps_7 68,E54ea0 a2_42 c2_43 ((Rd.told (S41.step c cl41 0 ep41 W2.A).1).1),.res (KsR ps_7 W3.ks c),E54ea0 a2_8_1r1 c2_8_1r1 W3.A.ws,E54ea0 y.a y.c y.r,E3504b ba_3 W3.A,E35fb1 W3.A,.res (RdR y41 c cl41 0 ep41 ((S41.step c cl41 0 ep41 W2.A).1))]) (fun j=>0≤j) (fun j=>((W3.many.getD (w-1).toNat 0)-j).toNat) 0 [1,5,6,7,8,9,12,16,17] [0,1,2,3,4,5,6,7,8,9,10,11,12,13,14] kR kR kR kR (by omega) ?_
        intro j J_54 hIJ_54 hJ_54
        have hj:=hIJ_54
        refine gX [.e 6,.n,.s 2,.j 2 ((w-1).toNat),.sp [189] [.s 8,.j 8 j.toNat,.sp [197] [.dead] [.n,.z [] 0 [1,5,6,7,8,9,12,16,17]]] [.n,.z [] 0 [1,5,6,7,8,9]]] (gQ x_2 (gO (InK .u64 (w-1)) (by simp only [InK]; omega) (gO (ma2_26=ma2_26∧W3.many.length=W3.many.length) ⟨rfl,(by first | rfl | omega | (simp; done) | (simp; omega))⟩ (gO ((0:Int)≤(w-1)∧(w-1)<((W3.many.length:Nat):Int)) (by omega) (gQ (slAt ma2_26 ((w-1).toNat) 1) (gO ((w-1).toNat<W3.many.length) (by omega) (gB (decide (j<(W3.many.getD ((w-1).toNat) 0))) (fun h_55 => ?_) (fun h_55 => ?_))))))))
        ·replace h_55:=decT h_55
         refine gO (a2_42=a2_42∧(Rd.told (S41.step c cl41 0 ep41 W2.A).1).1.length=((Rd.told (S41.step c cl41 0 ep41 W2.A).1).1).length) ⟨rfl,(by first | rfl | omega | (simp; done) | (simp; omega))⟩ (gO ((0:Int)≤j∧j<((((Rd.told (S41.step c cl41 0 ep41 W2.A).1).1).length:Nat):Int)) (by omega) (gQ (slAt a2_42 j.toNat 1) (gO (j.toNat<((Rd.told (S41.step c cl41 0 ep41 W2.A).1).1).length) (by omega) (gF ((((Rd.told (S41.step c cl41 0 ep41 W2.A).1).1).getD j.toNat 0) != w) (bne_eq_false_iff_eq.2 (hwa _ hj (by assumption))) (gO (InK .i64 (j+1)) (by simp only [InK]; omega) (gS [.j J_54,.b 6,.b 1,.c q93_3,.j J_13,.b 0,.c q93_1] ?_))))))
         exact go_back hJ_54 (j+1) [0,1,2,3,4,5,6,7,8,9,10,11,12,13,14] kR kR kR (by omega) (by omega)
        ·replace h_55:=decF h_55
         refine gO (InK .i64 (p.i+1)) (by simp only [InK]; omega) (gW (ks:=[.j J_13,.b 0,.c q93_1]) [(1,.slice a xs.length c0),(5,.bool true),(6,vP x_2),(7,.slice y.a y.r.length y.c),(8,vI f),(9,vI (p.i+1))] [.pts b_1 [vI q0,vI q1,vI q2] 22,.rd a c0 encLAct dLAct 2 xs bt r,Ee1326 ma2_26 mc2_27 W3.many,E9fe06 rb_4 a2_8_1r1 W3.A.ws.length c2_8_1r1 B1 false 0,E35fb1 B1,.raw 0 o_,Ed2706 x_2 c (vP ba_3) (vP rb_4) ka_5 ps_7.length kc_6 ma2_26 W3.many.length mc2_27 W3.now,.sl ka_5 kc_6 encP 0 1 ps_7 68,E54ea0 a2_42 c2_43 ((Rd.told (S41.step c cl41 0 ep41 W2.A).1).1),.res (KsR ps_7 W3.ks c),E54ea0 a2_8_1r1 c2_8_1r1 W3.A.ws,E54ea0 y.a y.c y.r,E3504b ba_3 W3.A,E35fb1 W3.A,.res (RdR y41 c cl41 0 ep41 ((S41.step c cl41 0 ep41 W2.A).1))] ?_)
         have hyl:((y.r.length:Nat):Int)=W3.A.steps-f:=by omega
         exact go_back hJ_13 (⟨(⟨p.i+1,W3,(⟨a2_8_1r1,c2_8_1r1,W3.A.ws.length,W3.A.ws,B1.steps,B1.lk,B1.lw,B1.lv,B1.lc⟩:Ar),ma2_26,mc2_27⟩:Lt),y.r,y.a,y.c⟩:Lv) [5,0,6,7,2,12,13,3,10,9,1,11] kR kR kR ⟨(lv_turn hC hpv (by omega) hat eW1 eB1 eW2 eW3 _ _ o3a _ _ _ _ _ _ hw3 hyr hyl _ _),(by dsimp only; omega)⟩ (by dsimp only; omega)
     ·skip
      have htd:=told_rd hKk hd
      refine go_view (vK (fun _:KlH=>True) (klL c (ps_7.getD kk.toNat 0) ⟨.read cl41 ep41 S41,ret41,id41⟩) ⟨pv41,sv41,rv41,ra41,rc41,y41⟩ [12,13,14] trivial) ?_
      refine go_view (ks_back (ps:=ps_7) (ks:=W2.ks) (c:=c) 12 11 kk.toNat ⟨.read cl41 ep41 S41,ret41,id41⟩ hK (by omega) (by omega)) ?_
      refine gX [.z q93_13 2 [1,5,6,7,8,9,11,89,90]] (gS [.o q93_13 2,.c q93_14,.b 1,.c q93_3,.j J_13,.b 0,.c q93_1] ?_)
      refine go_call (some 91) [0,6,7,4,5,11] Tryz.call29 (W_step o_ c x_2 ba_3 rb_4 ka_5 ma2_26 kc_6 mc2_27 ps_7 W2 kk ho hc ⟨_,_,o2,by omega⟩ hat hps) kR ?_
      rintro v post ⟨a2_56,c2_57,rfl,rfl⟩
      refine gX [.z q93_15 0 [1,5,6,7,8,9,11,12,13,14]] (gW (ks:=[.c q93_15,.c q93_16,.b 1,.c q93_3,.j J_13,.b 0,.c q93_1]) [(1,.slice a xs.length c0),(5,.bool true),(6,vP x_2),(7,.slice p.a p.la.length p.c),(8,vI f),(9,vI p.i),(11,vP y41),(12,.slice a2_56 ((W2.told c kk).l.length) c2_57),(13,vI ((W2.told c kk).e)),(14,.bool ((W2.told c kk).done))] [.pts b_1 [vI q0,vI q1,vI q2] 22,.rd a c0 encLAct dLAct 2 xs bt r,E54ea0 p.a p.c p.la,Ee1326 ma2_26 mc2_27 W2.many,E99bbc rb_4 B1 false 0,E35fb1 B1,.raw 0 o_,Ed2706 x_2 c (vP ba_3) (vP rb_4) ka_5 ps_7.length kc_6 ma2_26 ((W2.step c kk).many.length) mc2_27 ((W2.step c kk).now),.sl ka_5 kc_6 encP 0 1 ps_7 68,E3504b ba_3 ((W2.step c kk).A),E35fb1 ((W2.step c kk).A),.res (KsR ps_7 ((W2.step c kk).ks) c),E54ea0 a2_56 c2_57 ((W2.told c kk).l)] ?_)
      generalize eW3:(W2.step c kk)=W3 at *
      refine zG ?_
      refine zN [0,1,2,3,4,5,6,7] (kV 0 [.w,.w,.w,.e 7,.w,.w,.w,.e 7]) [1,5,6,7,8,9,11,12,13,14,95,96,97,98,99,100,101,102] [8] (.e x_2 (.e x_2 .n)) ⟨?_,trivial⟩
      refine zC (some 103) [9,10] Tryz.call30 (arena_Words ba_3 W3.A (by first | exact o3a | exact o1a) (by omega)) ?_
      rintro v post ⟨a2_8_1r1,c2_8_1r1,rfl,rfl⟩
      refine zN [9,10] (kV 0 [.w,.w,.w,.e 7]++kV 9 [.w,.w]) [103,1,5,6,7,8,9,11,12,13,14,95,96,97,98,104,105] [11] (.e x_2 .n) ⟨?_,trivial⟩
      refine zX (.e 4) (sQ rb_4 (sK ?_))
      refine zE [] [] [1,5,6,7,8,9,11,12,13,14] .n ?_
      refine gX [.z q93_17 0 [1,5,6,7,8,9,11,12,13,14]] (gS [.c q93_17,.b 4,.c q93_18,.b 1,.c q93_3,.j J_13,.b 0,.c q93_1] ?_)
      refine go_loop (ι := Lrow) (fun y=>[(1,.slice a xs.length c0),(5,.bool true),(6,vP x_2),(7,.slice y.a y.r.length y.c),(8,vI f),(9,vI p.i),(11,vP y41),(12,.slice a2_56 ((W2.told c kk).l.length) c2_57),(13,vI ((W2.told c kk).e)),(14,.bool ((W2.told c kk).done))]) (fun y=>[.pts b_1 [vI q0,vI q1,vI q2] 22,.rd a c0 encLAct dLAct 2 xs bt r,Ee1326 ma2_26 mc2_27 W2.many,E9fe06 rb_4 a2_8_1r1 W3.A.ws.length c2_8_1r1 B1 false 0,E35fb1 B1,.raw 0 o_,Ed2706 x_2 c (vP ba_3) (vP rb_4) ka_5 ps_7.length kc_6 ma2_26 W3.many.length mc2_27 W3.now,.sl ka_5 kc_6 encP 0 1 ps_7 68,.res (KsR ps_7 W3.ks c),E54ea0 a2_56 c2_57 ((W2.told c kk).l),E3504b ba_3 W3.A,E35fb1 W3.A,E54ea0 a2_8_1r1 c2_8_1r1 W3.A.ws,E54ea0 y.a y.c y.r]) (fun y=>y.r=ext p.la ((y.r.length:Nat):Int) W3.now∧((p.la.length:Nat):Int)≤((y.r.length:Nat):Int)∧((y.r.length:Nat):Int)≤W3.A.steps-f) (fun y=>(W3.A.steps-f-((y.r.length:Nat):Int)).toNat) (⟨p.la,p.a,p.c⟩:Lrow) [1,5,6,7,8,9,11,12,13,14] [0,1,3,4,5,6,7,8,9,10,11,12,13,2] kR kR kR kR ⟨(ext_same rfl).symm,Int.le_refl _,(by dsimp only; omega)⟩ ?_
      intro y J_62 hIJ_62 hJ_62
      have hyr:=hIJ_62.1
      have hy1:=hIJ_62.2.1
      have hy2:=hIJ_62.2.2
      refine gX [.e 6,.z q93_19 6 [1,5,6,7,8,9,11,12,13,14,107,111]] (gQ x_2 (gS [.o q93_19 6,.c q93_20,.c q93_21,.j J_62,.b 4,.c q93_18,.b 1,.c q93_3,.j J_13,.b 0,.c q93_1] ?_))
      refine gC (some 112) [10,11] Tryz.call39 (arena_Steps ba_3 W3.A) ?_
      refine gX [.n,.sp [115] [.e 6,.z q93_22 6 [1,5,6,8,9,11,12,13,14,116,121]] [.sp [125,124] [.n,.z [] 0 [1,5,6,7,8,9]] [.dead]]] (gO (InK .i64 (W3.A.steps-f)) (by simp only [InK]; omega) (gB (decide (((y.r.length:Nat):Int)<(W3.A.steps-f))) (fun h_64 => ?_) (fun h_64 => ?_)))
      ·replace h_64:=decT h_64
       refine gQ x_2 (gN fun b_63=>gW (ks:=[.o q93_22 6,.b 5,.j J_62,.b 4,.c q93_18,.b 1,.c q93_3,.j J_13,.b 0,.c q93_1]) [(1,.slice a xs.length c0),(5,.bool true),(6,vP x_2),(8,vI f),(9,vI p.i),(11,vP y41),(12,.slice a2_56 ((W2.told c kk).l.length) c2_57),(13,vI ((W2.told c kk).e)),(14,.bool ((W2.told c kk).done)),(116,.slice y.a y.r.length y.c),(121,.slice (some ⟨b_63,0,none⟩) 1 1)] [.pts b_1 [vI q0,vI q1,vI q2] 22,.rd a c0 encLAct dLAct 2 xs bt r,Ee1326 ma2_26 mc2_27 W2.many,E9fe06 rb_4 a2_8_1r1 W3.A.ws.length c2_8_1r1 B1 false 0,E35fb1 B1,.raw 0 o_,Ed2706 x_2 c (vP ba_3) (vP rb_4) ka_5 ps_7.length kc_6 ma2_26 W3.many.length mc2_27 W3.now,.sl ka_5 kc_6 encP 0 1 ps_7 68,.res (KsR ps_7 W3.ks c),E54ea0 a2_56 c2_57 ((W2.told c kk).l),E54ea0 a2_8_1r1 c2_8_1r1 W3.A.ws,E54ea0 y.a y.c y.r,E3504b ba_3 W3.A,E35fb1 W3.A,.pts b_63 [vU W3.now] 60] ?_)
       refine go_by (some 122) (appO Tryz.prog _) (some (.slice y.a (y.r).length y.c,.slice (some ⟨b_63,0,none⟩) 1 1,(60,1,8))) (R_append 11 (a:=y.a) (c:=y.c) (enc:=encI .u64) (d:=0) (sz:=1) (xs:=y.r) (te:=60) kR (.slice (some ⟨b_63,0,none⟩) 1 1) [W3.now] (src_pts (i:=14) (t:=60) kR) (oneI _) 8 oW oW) kR ?_
       rintro v L2 ⟨a_65,c_66,rfl,rfl⟩
       refine gX [.z [] 0 [1,5,6,7,8,9,11,12,13,14]] (gW (ks:=[.j J_62,.b 4,.c q93_18,.b 1,.c q93_3,.j J_13,.b 0,.c q93_1]) [(1,.slice a xs.length c0),(5,.bool true),(6,vP x_2),(7,.slice a_65 ((y.r++[W3.now]).length) c_66),(8,vI f),(9,vI p.i),(11,vP y41),(12,.slice a2_56 ((W2.told c kk).l.length) c2_57),(13,vI ((W2.told c kk).e)),(14,.bool ((W2.told c kk).done))] [.pts b_1 [vI q0,vI q1,vI q2] 22,.rd a c0 encLAct dLAct 2 xs bt r,Ee1326 ma2_26 mc2_27 W2.many,E9fe06 rb_4 a2_8_1r1 W3.A.ws.length c2_8_1r1 B1 false 0,E35fb1 B1,.raw 0 o_,Ed2706 x_2 c (vP ba_3) (vP rb_4) ka_5 ps_7.length kc_6 ma2_26 W3.many.length mc2_27 W3.now,.sl ka_5 kc_6 encP 0 1 ps_7 68,.res (KsR ps_7 W3.ks c),E54ea0 a2_56 c2_57 ((W2.told c kk).l),E54ea0 a2_8_1r1 c2_8_1r1 W3.A.ws,E54ea0 a_65 c_66 (y.r++[W3.now]),E3504b ba_3 W3.A,E35fb1 W3.A,.pts b_63 [vU W3.now] 60] ?_)
       have hsn:=ext_snoc hyr hy1
       exact go_back hJ_62 (⟨(y.r++[W3.now]),a_65,c_66⟩:Lrow) [0,1,2,3,4,5,6,7,8,9,12,13,10,11] kR kR kR ⟨hsn.1,hsn.2,(by dsimp only; rw [List.length_append,List.length_singleton]; omega)⟩ (by dsimp only; rw [List.length_append,List.length_singleton]; omega)
      ·replace h_64:=decF h_64
       refine gQ (!(W2.told c kk).done) (gT (!(W2.told c kk).done) (by rw [htd]; rfl) (gO (InK .i64 (p.i+1)) (by simp only [InK]; omega) (gW (ks:=[.j J_13,.b 0,.c q93_1]) [(1,.slice a xs.length c0),(5,.bool true),(6,vP x_2),(7,.slice y.a y.r.length y.c),(8,vI f),(9,vI (p.i+1))] [.pts b_1 [vI q0,vI q1,vI q2] 22,.rd a c0 encLAct dLAct 2 xs bt r,Ee1326 ma2_26 mc2_27 W2.many,E9fe06 rb_4 a2_8_1r1 W3.A.ws.length c2_8_1r1 B1 false 0,E35fb1 B1,.raw 0 o_,Ed2706 x_2 c (vP ba_3) (vP rb_4) ka_5 ps_7.length kc_6 ma2_26 W3.many.length mc2_27 W3.now,.sl ka_5 kc_6 encP 0 1 ps_7 68,.res (KsR ps_7 W3.ks c),E54ea0 a2_56 c2_57 ((W2.told c kk).l),E54ea0 a2_8_1r1 c2_8_1r1 W3.A.ws,E54ea0 y.a y.c y.r,E3504b ba_3 W3.A,E35fb1 W3.A] ?_)))
       have hyl:((y.r.length:Nat):Int)=W3.A.steps-f:=by omega
       exact go_back hJ_13 (⟨(⟨p.i+1,W3,(⟨a2_8_1r1,c2_8_1r1,W3.A.ws.length,W3.A.ws,B1.steps,B1.lk,B1.lw,B1.lv,B1.lc⟩:Ar),ma2_26,mc2_27⟩:Lt),y.r,y.a,y.c⟩:Lv) [5,0,6,7,2,12,13,3,10,8,1,11] kR kR kR ⟨(lv_turn hC hpv (by omega) hat eW1 eB1 eW2 eW3 _ _ o3a _ _ _ _ _ _ hw3 hyr hyl _ _),(by dsimp only; omega)⟩ (by dsimp only; omega)
  ·replace h_15:=decF h_15
   exact gJ [0,10] ⟨rfl,rfl⟩
 ·replace h_14:=decF h_14
  exact gJ [0,10] ⟨rfl,rfl⟩
end Go.Proofs.YtpcaijopodhdgaaGreatDoor

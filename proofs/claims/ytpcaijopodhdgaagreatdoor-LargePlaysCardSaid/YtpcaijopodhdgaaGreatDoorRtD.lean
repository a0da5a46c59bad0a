/- Walks: what functions of the program and of the document compute, part 4 of those on which LargePlays rests. -/
import Derived.Test.YtpcaijopodhdgaaGreatDoorRtC

set_option linter.unusedVariables false
set_option linter.unusedSimpArgs false
namespace Go.Proofs.YtpcaijopodhdgaaGreatDoor
open Go.Proofs.Tryz
open Go.Sx
abbrev qX: List Nat:=[0,1,1,0,1,0,1,1]
abbrev qbc: List Nat:=[1,1,1,0,1,0,1,1]
abbrev qbd: List Nat:=[0,1,0,1,1,1,0,1,0,1,1]
abbrev qcD: List Nat:=[1,1,1,1,0,1,0,1,1]
abbrev qY: List Nat:=[0,0,1,1,1,1,0,1,0,1,1]
abbrev qbe: List Nat:=[1,0,1,1,1,1,0,1,0,1,1]
abbrev qbf: List Nat:=[1,1,1,1,1,0,1,0,1,1]
abbrev qZ: List Nat:=[0,1,1,1,1,1,1,0,1,0,1,1]
abbrev qbg: List Nat:=[1,1,1,1,1,1,1,0,1,0,1,1]
abbrev qbh: List Nat:=[0,0,1,0,1,1,1]
abbrev qcE: List Nat:=[1,0,1,0,1,1,1]
abbrev qbi: List Nat:=[0,1,0,1,0,1,1,1]
abbrev qcF: List Nat:=[1,1,0,1,0,1,1,1]
abbrev qbj: List Nat:=[0,0,1,1,1,1,1]
abbrev qcG: List Nat:=[1,0,1,1,1,1,1]
abbrev qcH: List Nat:=[0,1,1,1,1,1,1]
abbrev qcI: List Nat:=[0,1,1,1,1,1,1,1,1]
theorem w_stepPN(c:Cfg)(x ba rb:Nat)(now:Int)(ka ma:Option Addr)(kc mc:Nat)(ps:List Nat)(many:List Int)(A:Ar)(i:Int)(pv sv rv:Value)(ra:Option Addr)(rc:Nat)(id_:Int)(ret:List Int)(y:Nat)(wd ep:Int)(ws:List Int)(S:Pb)(u1 u2:Value)(hi:0≤i∧i<4)(hps:ps.length=4)(hc:c.Ok)(hn:A.ws.length=A.n)(hs:0≤A.steps∧A.steps≤1000000)(hz:(A.n:Int)=sizeOfC c)(hR:RngW A.ws)(hwd:0≤wd∧wd<A.n)(hS:S.Ok c ws)(hd:(S.step c wd ep ws A).1.ph≠0):
  Ctr prog 29 #[vP x,vI i] [Eg x c (vP ba) (vP rb) ka ps.length kc ma many.length mc now,.sl ka kc encP 0 1 ps 68,EM (ps.getD i.toNat 0) (vP y) u1 u2 pv sv rv ra ret.length rc id_,.res (PbR y c wd ep ws S),Eb ba A,Ea A] (Ret (.tuple #[.slice none 0 0,vI 0,.bool false]) [Eg x c (vP ba) (vP rb) ka ps.length kc ma many.length mc now,.sl ka kc encP 0 1 ps 68,EM (ps.getD i.toNat 0) (vP y) u1 u2 pv sv rv ra ret.length rc id_,.res (PbR y c wd ep ws ((S.step c wd ep ws A).1)),Eb ba ((S.step c wd ep ws A).2),Ea ((S.step c wd ep ws A).2)]):=by
 refine cb 128 func29 fun F=>gX [.e 0,.s 1,.j 1 i.toNat,.e 2,.z [0,0,1,0,1,1] 0 [0,7]] (gQ x (gO (ka=ka∧ps.length=ps.length) ⟨rfl,oe⟩ (gO ((0:Int)≤i∧i<(ps.length:Int)) oa (gQ (slAt ka i.toNat 1) (gO (i.toNat<ps.length) oW (gQ (ps.getD i.toNat 0) (gS [.c [0,0,1,0,1,1],.c [1,0,1,0,1,1],.c [1,1,1]] ?_)))))))
 refine tC (some 34) (kV 0 [.ww,.ww,.ww,.e 2,.ww,.ww,.ww,.e 0]) 8 (kV 9 [.ww]) [3,4,5] [0,7,8] call15 (pub_Step y ba c wd ep ws S A hc hn oa hz hR hwd hS) (.e (ps.getD i.toNat 0) (.e x .n)) .n ?_
 rintro v post ⟨rfl,rfl⟩
 refine tN .n ?_
 exact gX [.sp [36] [] [.dead]] (gT (!((S.step c wd ep ws A).1.ph==0)) (by rw [beq_eq_false_iff_ne.2 hd]; rfl) (gJ [0,1,2,3,4,5] ⟨rfl,rfl⟩))
theorem w_stepPDYK(c:Cfg)(x ba rb:Nat)(now:Int)(ka ma:Option Addr)(kc mc:Nat)(ps:List Nat)(many:List Int)(A:Ar)(i:Int)(pv sv rv:Value)(ra:Option Addr)(rc:Nat)(id_:Int)(ret:List Int)(y:Nat)(wd ep:Int)(ws:List Int)(S:Pb)(u1 u2:Value)(o_:Obj)(hi:0≤i∧i<4)(hps:ps.length=4)(hc:c.Ok)(hn:A.ws.length=A.n)(hs:0≤A.steps∧A.steps≤1000000)(hz:(A.n:Int)=sizeOfC c)(hR:RngW A.ws)(hwd:0≤wd∧wd<A.n)(hS:S.Ok c ws)(hd:(S.step c wd ep ws A).1.ph=0)(ho1:(Pb.told (S.step c wd ep ws A).1).1>0)(hk1:(Pb.told (S.step c wd ep ws A).1).2=0)(hl:ret.length≤1000)(ho:IsH o_):
  Ctr prog 29 #[vP x,vI i] [.raw 0 o_,Eg x c (vP ba) (vP rb) ka ps.length kc ma many.length mc now,.sl ka kc encP 0 1 ps 68,EM (ps.getD i.toNat 0) (vP y) u1 u2 pv sv rv ra ret.length rc id_,Ec ra rc ret,.res (PbR y c wd ep ws S),Eb ba A,Ea A] (fun v L => ∃(ra2:Option Addr) (rc2:Nat),v = .tuple #[.slice none 0 0,vI ((Pb.told (S.step c wd ep ws A).1).2),.bool true]∧L=[.raw 0 o_,Eg x c (vP ba) (vP rb) ka ps.length kc ma many.length mc id_,.sl ka kc encP 0 1 ps 68,ES (ps.getD i.toNat 0) u1 u2 pv sv rv ra2 ((ret++[(Pb.told (S.step c wd ep ws A).1).1]).length) rc2 id_,Ec ra2 rc2 (ret++[(Pb.told (S.step c wd ep ws A).1).1]),.res (PbR y c wd ep ws ((S.step c wd ep ws A).1)),Eb ba ((S.step c wd ep ws A).2),Ea ((S.step c wd ep ws A).2)]):=by
 refine cb 128 func29 fun F=>gX [.e 1,.s 2,.j 2 i.toNat,.e 3,.z [0,0,1,0,1,1] 0 [0,7]] (gQ x (gO (ka=ka∧ps.length=ps.length) ⟨rfl,oe⟩ (gO ((0:Int)≤i∧i<(ps.length:Int)) oa (gQ (slAt ka i.toNat 1) (gO (i.toNat<ps.length) oW (gQ (ps.getD i.toNat 0) (gS [.c [0,0,1,0,1,1],.c [1,0,1,0,1,1],.c [1,1,1]] ?_)))))))
 refine tC (some 34) (kV 0 [.ww,.ww,.ww,.e 3,.ww,.ww,.ww,.e 1]) 8 (kV 9 [.ww]) [5,6,7] [0,7,8] call15 (pub_Step y ba c wd ep ws S A hc hn oa hz hR hwd hS) (.e (ps.getD i.toNat 0) (.e x .n)) .n ?_
 rintro v post ⟨rfl,rfl⟩
 refine tN .n ?_
 refine gX [.sp [36] [.dead] [.e 3,.z qX 4 [0,7,41]]] (gF (!((S.step c wd ep ws A).1.ph==0)) (by rw [beq_iff_eq.2 hd]; rfl) (gQ (ps.getD i.toNat 0) (gS [.o qX 4,.c qbc,.c [1,1,1]] (gC (some 42) [5] call10 (pub_Told y c wd ep ws ((S.step c wd ep ws A).1) oa) (gX [.sp [46] [.e 3,.z qbd 7 [0,7,10,47,51,53]] [.dead]] (gT (decide (((Pb.told ((S.step c wd ep ws A).1)).1)>0)) (decide_eq_true ho1) (gQ (ps.getD i.toNat 0) (gN fun b_1=>gW (ks:=[.o qbd 7,.c qcD,.c [1,1,1]]) [(0,vP x),(7,vP (ps.getD i.toNat 0)),(10,(errV (Pb.told ((S.step c wd ep ws A).1)).2)),(47,vP (ps.getD i.toNat 0)),(51,.slice ra ret.length rc),(53,.slice (some ⟨b_1,0,none⟩) 1 1)] [.raw 0 o_,Eg x c (vP ba) (vP rb) ka ps.length kc ma many.length mc now,.sl ka kc encP 0 1 ps 68,EM (ps.getD i.toNat 0) (vP y) u1 u2 pv sv rv ra ret.length rc id_,Ec ra rc ret,Eb ba ((S.step c wd ep ws A).2),Ea ((S.step c wd ep ws A).2),.res (PbR y c wd ep ws ((S.step c wd ep ws A).1)),.pts b_1 [vI ((Pb.told ((S.step c wd ep ws A).1)).1)] 3] ?_))))))))
 refine go_by (some 54) (appO prog _) (some (.slice ra (ret).length rc,.slice (some ⟨b_1,0,none⟩) 1 1,(3,1,8))) (R_append 4 (a:=ra) (c:=rc) (enc:=encI .i64) (d:=0) (sz:=1) (xs:=ret) (te:=3) kR (.slice (some ⟨b_1,0,none⟩) 1 1) [((Pb.told ((S.step c wd ep ws A).1)).1)] (src_pts (i:=8) (t:=3) kR) (oneI _) 8 oW oW) kR ?_
 rintro v L2 ⟨a_2,c_3,rfl,rfl⟩
 exact gX [.e 3,.z qY 1 [0,7,10,57]] (gQ (ps.getD i.toNat 0) (gS [.o qY 1,.c qbe,.c qbf,.c [1,1,1]] (gC (some 58) [0] call17 (cause_Top o_ ((Pb.told ((S.step c wd ep ws A).1)).2) ho) (gX [.sp [59] [.e 2,.e 0,.e 2,.z qZ 1 [70]] [.dead]] (gT (((Pb.told ((S.step c wd ep ws A).1)).2)==0) (beq_iff_eq.2 hk1) (gQ (ps.getD i.toNat 0) (gQ x (gQ (ps.getD i.toNat 0) (gS [.o qZ 1,.c qbg,.c [1,1,1]] (gC (some 71) [8] call17 (cause_Top o_ ((Pb.told ((S.step c wd ep ws A).1)).2) ho) (gX [] (gI (.tuple #[.slice none 0 0,vI ((Pb.told ((S.step c wd ep ws A).1)).2),.bool true]) [8,0,1,2,3,6,4,5] ⟨a_2,c_3,kR,rfl⟩))))))))))))
theorem w_stepPDYE(c:Cfg)(x ba rb:Nat)(now:Int)(ka ma:Option Addr)(kc mc:Nat)(ps:List Nat)(many:List Int)(A:Ar)(i:Int)(pv sv rv:Value)(ra:Option Addr)(rc:Nat)(id_:Int)(ret:List Int)(y:Nat)(wd ep:Int)(ws:List Int)(S:Pb)(u1 u2:Value)(o_:Obj)(hi:0≤i∧i<4)(hps:ps.length=4)(hc:c.Ok)(hn:A.ws.length=A.n)(hs:0≤A.steps∧A.steps≤1000000)(hz:(A.n:Int)=sizeOfC c)(hR:RngW A.ws)(hwd:0≤wd∧wd<A.n)(hS:S.Ok c ws)(hd:(S.step c wd ep ws A).1.ph=0)(ho1:(Pb.told (S.step c wd ep ws A).1).1>0)(hk1:(Pb.told (S.step c wd ep ws A).1).2≠0)(hl:ret.length≤1000)(ho:IsH o_):
  Ctr prog 29 #[vP x,vI i] [.raw 0 o_,Eg x c (vP ba) (vP rb) ka ps.length kc ma many.length mc now,.sl ka kc encP 0 1 ps 68,EM (ps.getD i.toNat 0) (vP y) u1 u2 pv sv rv ra ret.length rc id_,Ec ra rc ret,.res (PbR y c wd ep ws S),Eb ba A,Ea A] (fun v L => ∃(ra2:Option Addr) (rc2:Nat),v = .tuple #[.slice none 0 0,vI ((Pb.told (S.step c wd ep ws A).1).2),.bool true]∧L=[.raw 0 o_,Eg x c (vP ba) (vP rb) ka ps.length kc ma many.length mc now,.sl ka kc encP 0 1 ps 68,ES (ps.getD i.toNat 0) u1 u2 pv sv rv ra2 ((ret++[(Pb.told (S.step c wd ep ws A).1).1]).length) rc2 id_,Ec ra2 rc2 (ret++[(Pb.told (S.step c wd ep ws A).1).1]),.res (PbR y c wd ep ws ((S.step c wd ep ws A).1)),Eb ba ((S.step c wd ep ws A).2),Ea ((S.step c wd ep ws A).2)]):=by
 refine cb 128 func29 fun F=>gX [.e 1,.s 2,.j 2 i.toNat,.e 3,.z [0,0,1,0,1,1] 0 [0,7]] (gQ x (gO (ka=ka∧ps.length=ps.length) ⟨rfl,oe⟩ (gO ((0:Int)≤i∧i<(ps.length:Int)) oa (gQ (slAt ka i.toNat 1) (gO (i.toNat<ps.length) oW (gQ (ps.getD i.toNat 0) (gS [.c [0,0,1,0,1,1],.c [1,0,1,0,1,1],.c [1,1,1]] ?_)))))))
 refine tC (some 34) (kV 0 [.ww,.ww,.ww,.e 3,.ww,.ww,.ww,.e 1]) 8 (kV 9 [.ww]) [5,6,7] [0,7,8] call15 (pub_Step y ba c wd ep ws S A hc hn oa hz hR hwd hS) (.e (ps.getD i.toNat 0) (.e x .n)) .n ?_
 rintro v post ⟨rfl,rfl⟩
 refine tN .n ?_
 refine gX [.sp [36] [.dead] [.e 3,.z qX 4 [0,7,41]]] (gF (!((S.step c wd ep ws A).1.ph==0)) (by rw [beq_iff_eq.2 hd]; rfl) (gQ (ps.getD i.toNat 0) (gS [.o qX 4,.c qbc,.c [1,1,1]] (gC (some 42) [5] call10 (pub_Told y c wd ep ws ((S.step c wd ep ws A).1) oa) (gX [.sp [46] [.e 3,.z qbd 7 [0,7,10,47,51,53]] [.dead]] (gT (decide (((Pb.told ((S.step c wd ep ws A).1)).1)>0)) (decide_eq_true ho1) (gQ (ps.getD i.toNat 0) (gN fun b_1=>gW (ks:=[.o qbd 7,.c qcD,.c [1,1,1]]) [(0,vP x),(7,vP (ps.getD i.toNat 0)),(10,(errV (Pb.told ((S.step c wd ep ws A).1)).2)),(47,vP (ps.getD i.toNat 0)),(51,.slice ra ret.length rc),(53,.slice (some ⟨b_1,0,none⟩) 1 1)] [.raw 0 o_,Eg x c (vP ba) (vP rb) ka ps.length kc ma many.length mc now,.sl ka kc encP 0 1 ps 68,EM (ps.getD i.toNat 0) (vP y) u1 u2 pv sv rv ra ret.length rc id_,Ec ra rc ret,Eb ba ((S.step c wd ep ws A).2),Ea ((S.step c wd ep ws A).2),.res (PbR y c wd ep ws ((S.step c wd ep ws A).1)),.pts b_1 [vI ((Pb.told ((S.step c wd ep ws A).1)).1)] 3] ?_))))))))
 refine go_by (some 54) (appO prog _) (some (.slice ra (ret).length rc,.slice (some ⟨b_1,0,none⟩) 1 1,(3,1,8))) (R_append 4 (a:=ra) (c:=rc) (enc:=encI .i64) (d:=0) (sz:=1) (xs:=ret) (te:=3) kR (.slice (some ⟨b_1,0,none⟩) 1 1) [((Pb.told ((S.step c wd ep ws A).1)).1)] (src_pts (i:=8) (t:=3) kR) (oneI _) 8 oW oW) kR ?_
 rintro v L2 ⟨a_2,c_3,rfl,rfl⟩
 exact gX [.e 3,.z qY 1 [0,7,10,57]] (gQ (ps.getD i.toNat 0) (gS [.o qY 1,.c qbe,.c qbf,.c [1,1,1]] (gC (some 58) [0] call17 (cause_Top o_ ((Pb.told ((S.step c wd ep ws A).1)).2) ho) (gX [.sp [59] [.dead] [.e 2,.z qZ 1 [70]]] (gF (((Pb.told ((S.step c wd ep ws A).1)).2)==0) (beq_eq_false_iff_ne.2 hk1) (gQ (ps.getD i.toNat 0) (gS [.o qZ 1,.c qbg,.c [1,1,1]] (gC (some 71) [8] call17 (cause_Top o_ ((Pb.told ((S.step c wd ep ws A).1)).2) ho) (gX [] (gI (.tuple #[.slice none 0 0,vI ((Pb.told ((S.step c wd ep ws A).1)).2),.bool true]) [8,0,1,2,3,6,4,5] ⟨a_2,c_3,kR,rfl⟩))))))))))
theorem w_stepPDNK(c:Cfg)(x ba rb:Nat)(now:Int)(ka ma:Option Addr)(kc mc:Nat)(ps:List Nat)(many:List Int)(A:Ar)(i:Int)(pv sv rv:Value)(ra:Option Addr)(rc:Nat)(id_:Int)(ret:List Int)(y:Nat)(wd ep:Int)(ws:List Int)(S:Pb)(u1 u2:Value)(o_:Obj)(hi:0≤i∧i<4)(hps:ps.length=4)(hc:c.Ok)(hn:A.ws.length=A.n)(hs:0≤A.steps∧A.steps≤1000000)(hz:(A.n:Int)=sizeOfC c)(hR:RngW A.ws)(hwd:0≤wd∧wd<A.n)(hS:S.Ok c ws)(hd:(S.step c wd ep ws A).1.ph=0)(ho1:¬(Pb.told (S.step c wd ep ws A).1).1>0)(hk1:(Pb.told (S.step c wd ep ws A).1).2=0)(hl:ret.length≤1000)(ho:IsH o_):
  Ctr prog 29 #[vP x,vI i] [.raw 0 o_,Eg x c (vP ba) (vP rb) ka ps.length kc ma many.length mc now,.sl ka kc encP 0 1 ps 68,EM (ps.getD i.toNat 0) (vP y) u1 u2 pv sv rv ra ret.length rc id_,Ec ra rc ret,.res (PbR y c wd ep ws S),Eb ba A,Ea A] (Ret (.tuple #[.slice none 0 0,vI ((Pb.told (S.step c wd ep ws A).1).2),.bool true]) [.raw 0 o_,Eg x c (vP ba) (vP rb) ka ps.length kc ma many.length mc id_,.sl ka kc encP 0 1 ps 68,ES (ps.getD i.toNat 0) u1 u2 pv sv rv ra ret.length rc id_,Ec ra rc ret,.res (PbR y c wd ep ws ((S.step c wd ep ws A).1)),Eb ba ((S.step c wd ep ws A).2),Ea ((S.step c wd ep ws A).2)]):=by
 refine cb 128 func29 fun F=>gX [.e 1,.s 2,.j 2 i.toNat,.e 3,.z [0,0,1,0,1,1] 0 [0,7]] (gQ x (gO (ka=ka∧ps.length=ps.length) ⟨rfl,oe⟩ (gO ((0:Int)≤i∧i<(ps.length:Int)) oa (gQ (slAt ka i.toNat 1) (gO (i.toNat<ps.length) oW (gQ (ps.getD i.toNat 0) (gS [.c [0,0,1,0,1,1],.c [1,0,1,0,1,1],.c [1,1,1]] ?_)))))))
 refine tC (some 34) (kV 0 [.ww,.ww,.ww,.e 3,.ww,.ww,.ww,.e 1]) 8 (kV 9 [.ww]) [5,6,7] [0,7,8] call15 (pub_Step y ba c wd ep ws S A hc hn oa hz hR hwd hS) (.e (ps.getD i.toNat 0) (.e x .n)) .n ?_
 rintro v post ⟨rfl,rfl⟩
 refine tN .n ?_
 exact gX [.sp [36] [.dead] [.e 3,.z qX 4 [0,7,41]]] (gF (!((S.step c wd ep ws A).1.ph==0)) (by rw [beq_iff_eq.2 hd]; rfl) (gQ (ps.getD i.toNat 0) (gS [.o qX 4,.c qbc,.c [1,1,1]] (gC (some 42) [5] call10 (pub_Told y c wd ep ws ((S.step c wd ep ws A).1) oa) (gX [.sp [46] [.dead] [.z qY 1 [0,7,10,57]]] (gF (decide (((Pb.told ((S.step c wd ep ws A).1)).1)>0)) (decide_eq_false ho1) (gS [.o qY 1,.c qbe,.c qbf,.c [1,1,1]] (gC (some 58) [0] call17 (cause_Top o_ ((Pb.told ((S.step c wd ep ws A).1)).2) ho) (gX [.sp [59] [.e 2,.e 0,.e 2,.z qZ 1 [70]] [.dead]] (gT (((Pb.told ((S.step c wd ep ws A).1)).2)==0) (beq_iff_eq.2 hk1) (gQ (ps.getD i.toNat 0) (gQ x (gQ (ps.getD i.toNat 0) (gS [.o qZ 1,.c qbg,.c [1,1,1]] (gC (some 71) [7] call17 (cause_Top o_ ((Pb.told ((S.step c wd ep ws A).1)).2) ho) (gX [] (gI (.tuple #[.slice none 0 0,vI ((Pb.told ((S.step c wd ep ws A).1)).2),.bool true]) [7,0,1,2,3,6,4,5] ⟨kR,rfl⟩)))))))))))))))))
theorem w_stepPDNE(c:Cfg)(x ba rb:Nat)(now:Int)(ka ma:Option Addr)(kc mc:Nat)(ps:List Nat)(many:List Int)(A:Ar)(i:Int)(pv sv rv:Value)(ra:Option Addr)(rc:Nat)(id_:Int)(ret:List Int)(y:Nat)(wd ep:Int)(ws:List Int)(S:Pb)(u1 u2:Value)(o_:Obj)(hi:0≤i∧i<4)(hps:ps.length=4)(hc:c.Ok)(hn:A.ws.length=A.n)(hs:0≤A.steps∧A.steps≤1000000)(hz:(A.n:Int)=sizeOfC c)(hR:RngW A.ws)(hwd:0≤wd∧wd<A.n)(hS:S.Ok c ws)(hd:(S.step c wd ep ws A).1.ph=0)(ho1:¬(Pb.told (S.step c wd ep ws A).1).1>0)(hk1:(Pb.told (S.step c wd ep ws A).1).2≠0)(hl:ret.length≤1000)(ho:IsH o_):
  Ctr prog 29 #[vP x,vI i] [.raw 0 o_,Eg x c (vP ba) (vP rb) ka ps.length kc ma many.length mc now,.sl ka kc encP 0 1 ps 68,EM (ps.getD i.toNat 0) (vP y) u1 u2 pv sv rv ra ret.length rc id_,Ec ra rc ret,.res (PbR y c wd ep ws S),Eb ba A,Ea A] (Ret (.tuple #[.slice none 0 0,vI ((Pb.told (S.step c wd ep ws A).1).2),.bool true]) [.raw 0 o_,Eg x c (vP ba) (vP rb) ka ps.length kc ma many.length mc now,.sl ka kc encP 0 1 ps 68,ES (ps.getD i.toNat 0) u1 u2 pv sv rv ra ret.length rc id_,Ec ra rc ret,.res (PbR y c wd ep ws ((S.step c wd ep ws A).1)),Eb ba ((S.step c wd ep ws A).2),Ea ((S.step c wd ep ws A).2)]):=by
 refine cb 128 func29 fun F=>gX [.e 1,.s 2,.j 2 i.toNat,.e 3,.z [0,0,1,0,1,1] 0 [0,7]] (gQ x (gO (ka=ka∧ps.length=ps.length) ⟨rfl,oe⟩ (gO ((0:Int)≤i∧i<(ps.length:Int)) oa (gQ (slAt ka i.toNat 1) (gO (i.toNat<ps.length) oW (gQ (ps.getD i.toNat 0) (gS [.c [0,0,1,0,1,1],.c [1,0,1,0,1,1],.c [1,1,1]] ?_)))))))
 refine tC (some 34) (kV 0 [.ww,.ww,.ww,.e 3,.ww,.ww,.ww,.e 1]) 8 (kV 9 [.ww]) [5,6,7] [0,7,8] call15 (pub_Step y ba c wd ep ws S A hc hn oa hz hR hwd hS) (.e (ps.getD i.toNat 0) (.e x .n)) .n ?_
 rintro v post ⟨rfl,rfl⟩
 refine tN .n ?_
 exact gX [.sp [36] [.dead] [.e 3,.z qX 4 [0,7,41]]] (gF (!((S.step c wd ep ws A).1.ph==0)) (by rw [beq_iff_eq.2 hd]; rfl) (gQ (ps.getD i.toNat 0) (gS [.o qX 4,.c qbc,.c [1,1,1]] (gC (some 42) [5] call10 (pub_Told y c wd ep ws ((S.step c wd ep ws A).1) oa) (gX [.sp [46] [.dead] [.z qY 1 [0,7,10,57]]] (gF (decide (((Pb.told ((S.step c wd ep ws A).1)).1)>0)) (decide_eq_false ho1) (gS [.o qY 1,.c qbe,.c qbf,.c [1,1,1]] (gC (some 58) [0] call17 (cause_Top o_ ((Pb.told ((S.step c wd ep ws A).1)).2) ho) (gX [.sp [59] [.dead] [.e 2,.z qZ 1 [70]]] (gF (((Pb.told ((S.step c wd ep ws A).1)).2)==0) (beq_eq_false_iff_ne.2 hk1) (gQ (ps.getD i.toNat 0) (gS [.o qZ 1,.c qbg,.c [1,1,1]] (gC (some 71) [7] call17 (cause_Top o_ ((Pb.told ((S.step c wd ep ws A).1)).2) ho) (gX [] (gI (.tuple #[.slice none 0 0,vI ((Pb.told ((S.step c wd ep ws A).1)).2),.bool true]) [7,0,1,2,3,6,4,5] ⟨kR,rfl⟩)))))))))))))))
theorem w_stepSN(c:Cfg)(x ba rb:Nat)(now:Int)(ka ma:Option Addr)(kc mc:Nat)(ps:List Nat)(many:List Int)(A:Ar)(i:Int)(pv sv rv:Value)(ra:Option Addr)(rc:Nat)(id_:Int)(ret:List Int)(y:Nat)(S:Sc)(u2:Value)(hi:0≤i∧i<4)(hps:ps.length=4)(hc:c.Ok)(hS:S.Ok c A.n)(hA:A.Ok c)(hl:(S.step c A).1.kept.length+(S.step c A).1.left.length≤100)(hd:Sc.done c (S.step c A).1=false):
  Ctr prog 29 #[vP x,vI i] [Eg x c (vP ba) (vP rb) ka ps.length kc ma many.length mc now,.sl ka kc encP 0 1 ps 68,ES (ps.getD i.toNat 0) (vP y) u2 pv sv rv ra ret.length rc id_,.res (ScanR y c S),Eb ba A,Ea A] (fun v L => ∃(ra2:Option Addr) (rc2:Nat),v = .tuple #[.slice none 0 0,vI 0,.bool false]∧L=[Eg x c (vP ba) (vP rb) ka ps.length kc ma many.length mc now,.sl ka kc encP 0 1 ps 68,ES (ps.getD i.toNat 0) (vP y) u2 pv sv rv ra2 (((S.step c A).1.kept++(S.step c A).1.left).length) rc2 id_,Ec ra2 rc2 ((S.step c A).1.kept++(S.step c A).1.left),.res (ScanR y c ((S.step c A).1)),Eb ba ((S.step c A).2),Ea ((S.step c A).2)]):=by
 refine cb 128 func29 fun F=>gX [.e 0,.s 1,.j 1 i.toNat,.e 2,.e 2,.z qbh 0 [0,7]] (gQ x (gO (ka=ka∧ps.length=ps.length) ⟨rfl,oe⟩ (gO ((0:Int)≤i∧i<(ps.length:Int)) oa (gQ (slAt ka i.toNat 1) (gO (i.toNat<ps.length) oW (gQ (ps.getD i.toNat 0) (gQ (ps.getD i.toNat 0) (gS [.c qbh,.c qcE,.c [1,1,1,1]] ?_))))))))
 refine tC (some 85) (kV 0 [.ww,.ww,.ww,.e 2,.ww,.ww,.ww,.e 0]) 8 (kV 9 [.ww]) [3,4,5] [7,11] call75 (scan_Step c y ba S A hc hS hA) (.e (ps.getD i.toNat 0) (.e x .n)) .n ?_
 rintro v post ⟨rfl,rfl⟩
 refine tN .n ?_
 refine gX [.e 2,.z qbi 5 [7,11,86,90]] (gQ (ps.getD i.toNat 0) (gS [.o qbi 5,.c qcF,.c [1,1,1,1]] ?_))
 refine go_call (some 91) [3] call76 (scan_Kept c y ((S.step c A).1) hl) kR ?_
 rintro v post ⟨a2_1,c2_2,rfl,rfl⟩
 exact gX [.e 2,.sp [94,11] [.dead] []] (gQ (ps.getD i.toNat 0) (gQ (Sc.done c (S.step c A).1) (gF (Sc.done c (S.step c A).1) hd (gJ [0,1,2,6,5,3,4] ⟨a2_1,c2_2,rfl,rfl⟩))))
theorem w_stepSD(c:Cfg)(x ba rb:Nat)(now:Int)(ka ma:Option Addr)(kc mc:Nat)(ps:List Nat)(many:List Int)(A:Ar)(i:Int)(pv sv rv:Value)(ra:Option Addr)(rc:Nat)(id_:Int)(ret:List Int)(y:Nat)(S:Sc)(u2:Value)(hi:0≤i∧i<4)(hps:ps.length=4)(hc:c.Ok)(hS:S.Ok c A.n)(hA:A.Ok c)(hl:(S.step c A).1.kept.length+(S.step c A).1.left.length≤100)(hd:Sc.done c (S.step c A).1=true):
  Ctr prog 29 #[vP x,vI i] [Eg x c (vP ba) (vP rb) ka ps.length kc ma many.length mc now,.sl ka kc encP 0 1 ps 68,ES (ps.getD i.toNat 0) (vP y) u2 pv sv rv ra ret.length rc id_,.res (ScanR y c S),Eb ba A,Ea A] (fun v L => ∃(ra2:Option Addr) (rc2:Nat),v = .tuple #[.slice none 0 0,vI 0,.bool true]∧L=[Eg x c (vP ba) (vP rb) ka ps.length kc ma many.length mc now,.sl ka kc encP 0 1 ps 68,EJ (ps.getD i.toNat 0) u2 pv sv rv ra2 (((S.step c A).1.kept++(S.step c A).1.left).length) rc2 id_,Ec ra2 rc2 ((S.step c A).1.kept++(S.step c A).1.left),.res (ScanR y c ((S.step c A).1)),Eb ba ((S.step c A).2),Ea ((S.step c A).2)]):=by
 refine cb 128 func29 fun F=>gX [.e 0,.s 1,.j 1 i.toNat,.e 2,.e 2,.z qbh 0 [0,7]] (gQ x (gO (ka=ka∧ps.length=ps.length) ⟨rfl,oe⟩ (gO ((0:Int)≤i∧i<(ps.length:Int)) oa (gQ (slAt ka i.toNat 1) (gO (i.toNat<ps.length) oW (gQ (ps.getD i.toNat 0) (gQ (ps.getD i.toNat 0) (gS [.c qbh,.c qcE,.c [1,1,1,1]] ?_))))))))
 refine tC (some 85) (kV 0 [.ww,.ww,.ww,.e 2,.ww,.ww,.ww,.e 0]) 8 (kV 9 [.ww]) [3,4,5] [7,11] call75 (scan_Step c y ba S A hc hS hA) (.e (ps.getD i.toNat 0) (.e x .n)) .n ?_
 rintro v post ⟨rfl,rfl⟩
 refine tN .n ?_
 refine gX [.e 2,.z qbi 5 [7,11,86,90]] (gQ (ps.getD i.toNat 0) (gS [.o qbi 5,.c qcF,.c [1,1,1,1]] ?_))
 refine go_call (some 91) [3] call76 (scan_Kept c y ((S.step c A).1) hl) kR ?_
 rintro v post ⟨a2_1,c2_2,rfl,rfl⟩
 exact gX [.e 2,.sp [94,11] [.e 2] [.dead]] (gQ (ps.getD i.toNat 0) (gQ (Sc.done c (S.step c A).1) (gT (Sc.done c (S.step c A).1) hd (gQ (ps.getD i.toNat 0) (gJ [0,1,2,6,5,3,4] ⟨a2_1,c2_2,rfl,rfl⟩)))))
theorem w_stepRN(c:Cfg)(x ba rb:Nat)(now:Int)(ka ma:Option Addr)(kc mc:Nat)(ps:List Nat)(many:List Int)(A:Ar)(i:Int)(pv sv rv:Value)(ra:Option Addr)(rc:Nat)(id_:Int)(ret:List Int)(y:Nat)(cl tp ep:Int)(S:Rd)(o_:Obj)(hi:0≤i∧i<4)(hps:ps.length=4)(hc:c.Ok)(hn:A.ws.length=A.n)(hs:0≤A.steps∧A.steps≤1000000)(hz:(A.n:Int)=sizeOfC c)(hR:RngW A.ws)(htp:0≤tp∧tp<c.topics)(hC:CtlOk c A tp)(hS:S.Ok c cl tp A.n)(ho:IsH o_)(hd:(S.step c cl tp ep A).1.ph≠0):
  Ctr prog 29 #[vP x,vI i] [.raw 0 o_,Eg x c (vP ba) (vP rb) ka ps.length kc ma many.length mc now,.sl ka kc encP 0 1 ps 68,EJ (ps.getD i.toNat 0) (vP y) pv sv rv ra ret.length rc id_,.res (RdR y c cl tp ep S),Eb ba A,Ea A] (Ret (.tuple #[.slice none 0 0,vI 0,.bool false]) [.raw 0 o_,Eg x c (vP ba) (vP rb) ka ps.length kc ma many.length mc now,.sl ka kc encP 0 1 ps 68,EJ (ps.getD i.toNat 0) (vP y) pv sv rv ra ret.length rc id_,.res (RdR y c cl tp ep ((S.step c cl tp ep A).1)),Eb ba ((S.step c cl tp ep A).2),Ea ((S.step c cl tp ep A).2)]):=by
 refine cb 128 func29 fun F=>gX [.e 1,.s 2,.j 2 i.toNat,.e 3,.e 3,.e 3,.z qbj 0 [0,7]] (gQ x (gO (ka=ka∧ps.length=ps.length) ⟨rfl,oe⟩ (gO ((0:Int)≤i∧i<(ps.length:Int)) oa (gQ (slAt ka i.toNat 1) (gO (i.toNat<ps.length) oW (gQ (ps.getD i.toNat 0) (gQ (ps.getD i.toNat 0) (gQ (ps.getD i.toNat 0) (gS [.c qbj,.c qcG,.c [1,1,1,1,1,1]] ?_)))))))))
 refine tC (some 112) (kV 0 [.ww,.ww,.ww,.e 3,.ww,.ww,.ww,.e 1]) 8 (kV 9 [.ww]) [0,4,5,6] [7,113] call20 (rd_Step o_ y ba c cl tp ep S A hc hn oa hz hR htp hC hS ho) (.e (ps.getD i.toNat 0) (.e x .n)) .n ?_
 rintro v post ⟨rfl,rfl⟩
 refine tN .n ?_
 exact gX [.sp [113] [] [.dead]] (gT (!((S.step c cl tp ep A).1.ph==0)) (by rw [beq_eq_false_iff_ne.2 hd]; rfl) (gJ [3,0,1,2,4,5,6] ⟨rfl,rfl⟩))
theorem w_stepRD(c:Cfg)(x ba rb:Nat)(now:Int)(ka ma:Option Addr)(kc mc:Nat)(ps:List Nat)(many:List Int)(A:Ar)(i:Int)(pv sv rv:Value)(ra:Option Addr)(rc:Nat)(id_:Int)(ret:List Int)(y:Nat)(cl tp ep:Int)(S:Rd)(o_:Obj)(hi:0≤i∧i<4)(hps:ps.length=4)(hc:c.Ok)(hn:A.ws.length=A.n)(hs:0≤A.steps∧A.steps≤1000000)(hz:(A.n:Int)=sizeOfC c)(hR:RngW A.ws)(htp:0≤tp∧tp<c.topics)(hC:CtlOk c A tp)(hS:S.Ok c cl tp A.n)(ho:IsH o_)(hd:(S.step c cl tp ep A).1.ph=0)(hl:(S.step c cl tp ep A).1.words.length≤96):
  Ctr prog 29 #[vP x,vI i] [.raw 0 o_,Eg x c (vP ba) (vP rb) ka ps.length kc ma many.length mc now,.sl ka kc encP 0 1 ps 68,EJ (ps.getD i.toNat 0) (vP y) pv sv rv ra ret.length rc id_,.res (RdR y c cl tp ep S),Eb ba A,Ea A] (fun v L => ∃(a2:Option Addr) (c2:Nat),v = .tuple #[.slice a2 ((Rd.told (S.step c cl tp ep A).1).1.length) c2,vI ((Rd.told (S.step c cl tp ep A).1).2),.bool true]∧L=[.raw 0 o_,Eg x c (vP ba) (vP rb) ka ps.length kc ma many.length mc now,.sl ka kc encP 0 1 ps 68,Et (ps.getD i.toNat 0) pv sv rv ra ret.length rc id_,.res (RdR y c cl tp ep ((S.step c cl tp ep A).1)),Ee a2 c2 ((Rd.told (S.step c cl tp ep A).1).1),Eb ba ((S.step c cl tp ep A).2),Ea ((S.step c cl tp ep A).2)]):=by
 refine cb 128 func29 fun F=>gX [.e 1,.s 2,.j 2 i.toNat,.e 3,.e 3,.e 3,.z qbj 0 [0,7]] (gQ x (gO (ka=ka∧ps.length=ps.length) ⟨rfl,oe⟩ (gO ((0:Int)≤i∧i<(ps.length:Int)) oa (gQ (slAt ka i.toNat 1) (gO (i.toNat<ps.length) oW (gQ (ps.getD i.toNat 0) (gQ (ps.getD i.toNat 0) (gQ (ps.getD i.toNat 0) (gS [.c qbj,.c qcG,.c [1,1,1,1,1,1]] ?_)))))))))
 refine tC (some 112) (kV 0 [.ww,.ww,.ww,.e 3,.ww,.ww,.ww,.e 1]) 8 (kV 9 [.ww]) [0,4,5,6] [7,113] call20 (rd_Step o_ y ba c cl tp ep S A hc hn oa hz hR htp hC hS ho) (.e (ps.getD i.toNat 0) (.e x .n)) .n ?_
 rintro v post ⟨rfl,rfl⟩
 refine tN .n ?_
 refine gX [.sp [113] [.dead] [.e 2,.z qcH 4 [7,118]]] (gF (!((S.step c cl tp ep A).1.ph==0)) (by rw [beq_iff_eq.2 hd]; rfl) (gQ (ps.getD i.toNat 0) (gS [.o qcH 4,.c [1,1,1,1,1,1,1]] ?_)))
 refine go_call (some 119) [4] call11 (rd_Told y c cl tp ep ((S.step c cl tp ep A).1) oa hl) kR ?_
 rintro v post ⟨a2_1,c2_2,rfl,rfl⟩
 exact gX [.e 2,.z qcI 2 [125,126]] (gQ (ps.getD i.toNat 0) (gS [.o qcI 2,.c [1,1,1,1,1,1,1,1,1]] (gC (some 127) [3] call17 (cause_Top o_ ((Rd.told ((S.step c cl tp ep A).1)).2) ho) (gX [] (gI (.tuple #[.slice a2_1 ((Rd.told ((S.step c cl tp ep A).1)).1.length) c2_2,vI ((Rd.told ((S.step c cl tp ep A).1)).2),.bool true]) [7,0,1,2,5,6,3,4] ⟨a2_1,c2_2,kR,rfl⟩)))))
end Go.Proofs.YtpcaijopodhdgaaGreatDoor
namespace Go.Proofs.YtpcaijopodhdgaaGreatDoor
open Go.Proofs.Tryz
open Go.Sx
abbrev Eah(x0:Nat)(x1:Value)(x2:Value)(x3:Value)(x4:Value)(x5:Option Addr)(x6:Nat)(x7:Nat)(x8:Int): Ent:=.pts x0 [.pointer none,x1,.pointer none,x2,x3,x4,.slice x5 x6 x7,.int .u64 x8] 74
abbrev Ean(x0:Nat)(x1:Value)(x2:Value)(x3:Value)(x4:Value)(x5:Option Addr)(x6:Nat)(x7:Nat)(x8:Nat): Ent:=.pts x0 [x1,.pointer none,.pointer none,x2,x3,x4,.slice x5 x6 x7,.int .u64 ((x8:Nat):Int)] 74
abbrev ED(x0:Nat)(x1:Value)(x2:Value)(x3:Value)(x4:Option Addr)(x5:Nat)(x6:Nat)(x7:Nat): Ent:=.pts x0 [.pointer none,.pointer none,.pointer none,x1,x2,x3,.slice x4 x5 x6,.int .u64 ((x7:Nat):Int)] 74
abbrev qcJ: List Nat:=[0,0,1,0,1,1,1]
abbrev qcK: List Nat:=[0,1,0,1,0,1,1,1]
abbrev qcL: List Nat:=[0,0,1,0,1,1,1,1]
abbrev qdu: List Nat:=[1,0,1,0,1,1,1,1]
abbrev qcM: List Nat:=[0,1,0,1,0,1,1,1,1]
abbrev qdv: List Nat:=[1,1,0,1,0,1,1,1,1]
abbrev qbk: List Nat:=[0,1,1,1,1,1,1]
abbrev qcN: List Nat:=[1,1,1,1,1,1,1]
abbrev qbl: List Nat:=[0,1,1,1,1,1,1,1,1]
abbrev qcO: List Nat:=[1,1,1,1,1,1,1,1,1]
abbrev qbm: List Nat:=[0,1,0,1,1,1,1,1,1,1,1,1]
abbrev qbn: List Nat:=[1,1,1,1,1,1,1,1,1,1]
abbrev qaa: List Nat:=[0,1,1,1,1,1,1,1,1,1,1]
abbrev qab: List Nat:=[1,1,1,1,1,1,1,1,1,1,1]
theorem w_beginP(c:Cfg)(x ba rb:Nat)(now:Int)(ka ma:Option Addr)(kc mc:Nat)(ps:List Nat)(many:List Int)(B:Ar)(i n_:Int)(pv sv rv:Value)(ra:Option Addr)(rc:Nat)(id_:Int)(ret:List Int)(y:Nat)(u1 u2:Value)(hi:0≤i∧i<4)(hps:ps.length=4):
  Ctr prog 28 #[vP x,vI i,vI n_] [Eg x c (vP ba) (vP rb) ka ps.length kc ma many.length mc now,.sl ka kc encP 0 1 ps 68,EM (ps.getD i.toNat 0) (vP y) u1 u2 pv sv rv ra ret.length rc id_] (Ret (undef) [Eg x c (vP ba) (vP rb) ka ps.length kc ma many.length mc now,.sl ka kc encP 0 1 ps 68,EM (ps.getD i.toNat 0) (vP y) u1 u2 pv sv rv ra ret.length rc id_]):=by
 exact cb 140 func28 fun F=>gX [.e 0,.s 1,.j 1 i.toNat,.z [0,0,1] 1 [0,1,2,6,18]] (gQ x (gO (ka=ka∧ps.length=ps.length) ⟨rfl,oe⟩ (gO ((0:Int)≤i∧i<(ps.length:Int)) oa (gQ (slAt ka i.toNat 1) (gO (i.toNat<ps.length) oW (gS [.o [0,0,1] 1,.c [1,0,1],.c [1,1]] (gC (some 19) [2] call32 (k_idleP (ps.getD i.toNat 0) pv sv rv ra rc ret.length id_ y u1 u2) (gX [] (gJ [0,1,2] ⟨rfl,rfl⟩)))))))))
theorem w_beginS(c:Cfg)(x ba rb:Nat)(now:Int)(ka ma:Option Addr)(kc mc:Nat)(ps:List Nat)(many:List Int)(B:Ar)(i n_:Int)(pv sv rv:Value)(ra:Option Addr)(rc:Nat)(id_:Int)(ret:List Int)(y:Nat)(u2:Value)(hi:0≤i∧i<4)(hps:ps.length=4):
  Ctr prog 28 #[vP x,vI i,vI n_] [Eg x c (vP ba) (vP rb) ka ps.length kc ma many.length mc now,.sl ka kc encP 0 1 ps 68,ES (ps.getD i.toNat 0) (vP y) u2 pv sv rv ra ret.length rc id_] (Ret (undef) [Eg x c (vP ba) (vP rb) ka ps.length kc ma many.length mc now,.sl ka kc encP 0 1 ps 68,ES (ps.getD i.toNat 0) (vP y) u2 pv sv rv ra ret.length rc id_]):=by
 exact cb 140 func28 fun F=>gX [.e 0,.s 1,.j 1 i.toNat,.z [0,0,1] 1 [0,1,2,6,18]] (gQ x (gO (ka=ka∧ps.length=ps.length) ⟨rfl,oe⟩ (gO ((0:Int)≤i∧i<(ps.length:Int)) oa (gQ (slAt ka i.toNat 1) (gO (i.toNat<ps.length) oW (gS [.o [0,0,1] 1,.c [1,0,1],.c [1,1]] (gC (some 19) [2] call32 (k_idleS (ps.getD i.toNat 0) pv sv rv ra rc ret.length id_ y u2) (gX [] (gJ [0,1,2] ⟨rfl,rfl⟩)))))))))
theorem w_beginR(c:Cfg)(x ba rb:Nat)(now:Int)(ka ma:Option Addr)(kc mc:Nat)(ps:List Nat)(many:List Int)(B:Ar)(i n_:Int)(pv sv rv:Value)(ra:Option Addr)(rc:Nat)(id_:Int)(ret:List Int)(y:Nat)(hi:0≤i∧i<4)(hps:ps.length=4):
  Ctr prog 28 #[vP x,vI i,vI n_] [Eg x c (vP ba) (vP rb) ka ps.length kc ma many.length mc now,.sl ka kc encP 0 1 ps 68,EJ (ps.getD i.toNat 0) (vP y) pv sv rv ra ret.length rc id_] (Ret (undef) [Eg x c (vP ba) (vP rb) ka ps.length kc ma many.length mc now,.sl ka kc encP 0 1 ps 68,EJ (ps.getD i.toNat 0) (vP y) pv sv rv ra ret.length rc id_]):=by
 exact cb 140 func28 fun F=>gX [.e 0,.s 1,.j 1 i.toNat,.z [0,0,1] 1 [0,1,2,6,18]] (gQ x (gO (ka=ka∧ps.length=ps.length) ⟨rfl,oe⟩ (gO ((0:Int)≤i∧i<(ps.length:Int)) oa (gQ (slAt ka i.toNat 1) (gO (i.toNat<ps.length) oW (gS [.o [0,0,1] 1,.c [1,0,1],.c [1,1]] (gC (some 19) [2] call32 (k_idleR (ps.getD i.toNat 0) pv sv rv ra rc ret.length id_ y) (gX [] (gJ [0,1,2] ⟨rfl,rfl⟩)))))))))
theorem w_beginNR(c:Cfg)(x ba rb:Nat)(now:Int)(ka ma:Option Addr)(kc mc:Nat)(ps:List Nat)(many:List Int)(B:Ar)(i n_:Int)(pv sv rv:Value)(ra:Option Addr)(rc:Nat)(id_:Int)(ret:List Int)(hi:0≤i∧i<4)(hps:ps.length=4)(hc:c.Ok)(hnB:B.ws.length=B.n)(hzB:(B.n:Int)=sizeOfC c)(hwB:U64 (B.ws.getD (ctlAt c 0).toNat 0))(hi2:i≥2)(hic:i<c.clients):
  Ctr prog 28 #[vP x,vI i,vI n_] [Eg x c (vP ba) (vP rb) ka ps.length kc ma many.length mc now,.sl ka kc encP 0 1 ps 68,Et (ps.getD i.toNat 0) pv sv rv ra ret.length rc id_,Ed rb B false 0,Ea B] (fun v L => ∃(y:Nat) (k:Nat) (b1:Nat) (b2:Nat) (b3:Nat) (b4:Nat) (b5:Nat) (b6:Nat) (q:Nat) (k2:Nat),v=undef∧L=[Eg x c (vP ba) (vP rb) ka ps.length kc ma many.length mc now,.sl ka kc encP 0 1 ps 68,EJ (ps.getD i.toNat 0) (vP y) pv sv (vP q) ra ret.length rc id_,Ed rb B false 0,Ea B,Eak y (.iface 118 (vP k)) (.func (.func 55) #[] #[vP b1,vP b2,vP b3,vP b4,vP b5,vP b6]) 0 false c (-1),EO k c i 0 (-1),.pts b1 [vP k] 118,.pts b2 [vP y] 24,Ef b3 c,.pts b4 [vI i] 3,.pts b5 [vI 0] 3,.pts b6 [vI (ctlEpoch (B.ws.getD (ctlAt c 0).toNat 0))] 3,Eal q c i 0 (ctlEpoch (B.ws.getD (ctlAt c 0).toNat 0)) 1 (vP k2) (-1) 0 0,EP k2 c i 0 (-1)]):=by
 refine cb 140 func28 fun F => ?_
 have h0:=ctl0_ok hc
 have hc':=hc
 simp only [Cfg.Ok] at hc'
 refine gX [.e 0,.s 1,.j 1 i.toNat,.z [0,0,1] 1 [0,1,2,6,18]] (gQ x (gO (ka=ka∧ps.length=ps.length) ⟨rfl,oe⟩ (gO ((0:Int)≤i∧i<(ps.length:Int)) oa (gQ (slAt ka i.toNat 1) (gO (i.toNat<ps.length) oW (gS [.o [0,0,1] 1,.c [1,0,1],.c [1,1]] (gC (some 19) [2] call32 (k_idleI (ps.getD i.toNat 0) pv sv rv ra rc ret.length id_) (gX [.z [0,1,1] 1 [0,1,2,6,21]] (gS [.o [0,1,1] 1,.c [1,1,1]] (gC (some 22) [0,2,3] call35 (w_word c x ba rb now (.slice ka ps.length kc) (.slice ma many.length mc) B hc hnB hzB) (gC (some 23) [] call34 (r13_Unpack (B.ws.getD (ctlAt c 0).toNat 0) hwB) (gX [.sp [26] [.e 2,.z qcJ 7 [0,1,6,7,27,31,32,33]] [.dead]] (gT (decide (i≥2)) (decide_eq_true hi2) (gQ x (gS [.o qcJ 7,.c [1,0,1,0,1,1,1],.c [1,1,1,1]] ?_)))))))))))))))
 refine go_call (some 34) [] call13 (new_Rd c i 0 (ctlEpoch (B.ws.getD (ctlAt c 0).toNat 0)) hc ⟨by omega,hic⟩ oa) kR ?_
 rintro v post ⟨p_1,k_2,b1_3,b2_4,b3_5,b4_6,b5_7,b6_8,rfl,rfl⟩
 refine gX [.e 1,.e 2,.z qcK 7 [37,41,42,43]] (gQ (ps.getD i.toNat 0) (gQ x (gS [.o qcK 7,.c [1,1,0,1,0,1,1,1],.c [1,1,1,1]] ?_)))
 refine go_call (some 44) [] call72 (rnew_Rd c i 0 (ctlEpoch (B.ws.getD (ctlAt c 0).toNat 0)) hc ⟨by omega,hic⟩ oa) kR ?_
 rintro v post ⟨q_9,k_10,rfl,rfl⟩
 exact gX [.e 1] (gQ (ps.getD i.toNat 0) (gJ [2,0,1,3,4,5,6,7,8,9,10,11,12,13,14] ⟨p_1,k_2,b1_3,b2_4,b3_5,b4_6,b5_7,b6_8,q_9,k_10,rfl,rfl⟩))
theorem w_beginNSok(c:Cfg)(x ba rb:Nat)(now:Int)(ka ma:Option Addr)(kc mc:Nat)(ps:List Nat)(many:List Int)(B:Ar)(i n_:Int)(pv sv rv:Value)(ra:Option Addr)(rc:Nat)(id_:Int)(ret:List Int)(hi:0≤i∧i<4)(hps:ps.length=4)(hc:c.Ok)(hnB:B.ws.length=B.n)(hzB:(B.n:Int)=sizeOfC c)(hwB:U64 (B.ws.getD (ctlAt c 0).toNat 0))(hi2:¬i≥2)(h3:bAnd .i64 n_ 3=0)(hl0:(ret.length:Int)>0)(hl:ret.length≤100)(hin:∀j,InK .i64 (ret.getD j 0))(ho:newOk c (fun _=>none) ret=true)(hg:goodRow c ret):
  Ctr prog 28 #[vP x,vI i,vI n_] [Eg x c (vP ba) (vP rb) ka ps.length kc ma many.length mc now,.sl ka kc encP 0 1 ps 68,Et (ps.getD i.toNat 0) pv sv rv ra ret.length rc id_,Ec ra rc ret,Ed rb B false 0,Ea B] (fun v L => ∃(y:Nat) (q:Nat),v=undef∧L=[Eg x c (vP ba) (vP rb) ka ps.length kc ma many.length mc now,.sl ka kc encP 0 1 ps 68,Eah (ps.getD i.toNat 0) (vP y) pv (vP q) rv ra ret.length rc id_,Ec ra rc ret,Ed rb B false 0,Ea B,.res (ScanR y c (newSc ret)),.res (RsR q c (newRs ret))]):=by
 refine cb 140 func28 fun F=>gX [.e 0,.s 1,.j 1 i.toNat,.z [0,0,1] 1 [0,1,2,6,18]] (gQ x (gO (ka=ka∧ps.length=ps.length) ⟨rfl,oe⟩ (gO ((0:Int)≤i∧i<(ps.length:Int)) oa (gQ (slAt ka i.toNat 1) (gO (i.toNat<ps.length) oW (gS [.o [0,0,1] 1,.c [1,0,1],.c [1,1]] (gC (some 19) [2] call32 (k_idleI (ps.getD i.toNat 0) pv sv rv ra rc ret.length id_) (gX [.z [0,1,1] 1 [0,1,2,6,21]] (gS [.o [0,1,1] 1,.c [1,1,1]] (gC (some 22) [0,3,4] call35 (w_word c x ba rb now (.slice ka ps.length kc) (.slice ma many.length mc) B hc hnB hzB) (gC (some 23) [] call34 (r13_Unpack (B.ws.getD (ctlAt c 0).toNat 0) hwB) (gX [.sp [26] [.dead] [.sp [50,49] [.e 2,.sp [57,56] [.z qcL 0 [0,6]] [.dead]] [.dead]]] (gF (decide (i≥2)) (decide_eq_false hi2) (gQ ((bAnd .i64 n_ 3)==0) (gT ((bAnd .i64 n_ 3)==0) (beq_iff_eq.2 h3) (gQ (ps.getD i.toNat 0) (gQ (decide ((ret.length:Int)>0)) (gT (decide ((ret.length:Int)>0)) (decide_eq_true hl0) (gS [.c qcL,.c qdu,.c [1,1,1,1,1]] (zG (zN [0,1,2,3,4,5,6,7,8] (kV 0 [.w,.w,.w,.w,.e 3,.w,.w,.w,.e 2]) [0,6,58,59,60,61,62,63,64,65,66] [9] (.e x (.e (ps.getD i.toNat 0) .n)) ⟨?_,trivial⟩)))))))))))))))))))))
 refine zC (some 67) [1] call33 (retire_New_ok c ra rc ret hc hl hin ho) ?_
 rintro v post ⟨s_9_1,rfl,rfl⟩
 refine zN [10,11] [(0,.w),(10,.w),(11,.w)] [67,0,6,58,68,69] [12] .n ⟨?_,trivial⟩
 refine zX (.e 1) (sQ (ps.getD i.toNat 0) (sK ?_))
 refine zE [] [] [0,6] .n (gX [.z qcM 0 [0,6]] (gS [.c qcM,.c qdv,.c [1,1,1,1,1]] (zG (zN [0,1,2,3,4,5,6,7,8] (kV 0 [.w,.w,.w,.w,.e 2,.w,.w,.w,.e 1]) [0,6,70,71,72,73,74,75,76,77,78] [9] (.e x (.e (ps.getD i.toNat 0) .n)) ⟨?_,trivial⟩))))
 refine zC (some 79) [5] call73 (ref15_New_ok c ra rc ret hc hl hg) ?_
 rintro v post ⟨rs_9_1r1,rfl,rfl⟩
 refine zN [10,11] [(0,.w),(10,.w),(11,.w)] [79,6,70,80,81] [12] .n ⟨?_,trivial⟩
 refine zX (.e 1) (sQ (ps.getD i.toNat 0) (sK ?_))
 exact zE [] [] [] .n (gX [] (gJ [2,0,1,6,3,4,5,7] ⟨s_9_1,rs_9_1r1,rfl,rfl⟩))
theorem w_beginNPx(c:Cfg)(x ba rb:Nat)(now:Int)(ka ma:Option Addr)(kc mc:Nat)(ps:List Nat)(many:List Int)(B:Ar)(i n_:Int)(pv sv rv:Value)(ra:Option Addr)(rc:Nat)(id_:Int)(ret:List Int)(hi:0≤i∧i<4)(hps:ps.length=4)(hc:c.Ok)(hnB:B.ws.length=B.n)(hzB:(B.n:Int)=sizeOfC c)(hwB:U64 (B.ws.getD (ctlAt c 0).toNat 0))(hi2:¬i≥2)(h3:bAnd .i64 n_ 3≠0)(hml:many.length≤2000)(hf:fitK c (((List.replicate (1+(((n_.tmod 6)+6).tmod 6)).toNat ((((many++[(1+(((n_.tmod 6)+6).tmod 6))]).length):Nat):Int)).length:Nat):Int)≠-1):
  Ctr prog 28 #[vP x,vI i,vI n_] [Eg x c (vP ba) (vP rb) ka ps.length kc ma many.length mc now,.sl ka kc encP 0 1 ps 68,Ec ma mc many,Et (ps.getD i.toNat 0) pv sv rv ra ret.length rc id_,Ed rb B false 0,Ea B] (fun v L => ∃(ma2:Option Addr) (mc2:Nat) (la:Option Addr) (lc:Nat) (y:Nat) (k:Nat) (bp:Nat) (bt:Nat) (wa:Option Addr) (wc:Nat) (q:Nat) (k2:Nat),v=undef∧L=[Eg x c (vP ba) (vP rb) ka ps.length kc ma2 ((many++[(1+(((n_.tmod 6)+6).tmod 6))]).length) mc2 now,.sl ka kc encP 0 1 ps 68,Ec ma2 mc2 (many++[(1+(((n_.tmod 6)+6).tmod 6))]),Ean (ps.getD i.toNat 0) (vP y) (vP q) sv rv ra ret.length rc ((many++[(1+(((n_.tmod 6)+6).tmod 6))]).length),Ed rb B false 0,Ea B,En y (.iface 114 (vP k)) (.func (.func 51) #[] #[vP bp,vP bt]) 0 false c (ctlAt c 0) (ctlEpoch (B.ws.getD (ctlAt c 0).toNat 0)) wa ((List.replicate (1+(((n_.tmod 6)+6).tmod 6)).toNat ((((many++[(1+(((n_.tmod 6)+6).tmod 6))]).length):Nat):Int)).length) wc 0 0 0 0 0,.pts bp [vP y] 23,.pts bt [vP k] 114,Ez k c (newTk (fitK c (((List.replicate (1+(((n_.tmod 6)+6).tmod 6)).toNat ((((many++[(1+(((n_.tmod 6)+6).tmod 6))]).length):Nat):Int)).length:Nat):Int))) k,Ee wa wc (List.replicate (1+(((n_.tmod 6)+6).tmod 6)).toNat ((((many++[(1+(((n_.tmod 6)+6).tmod 6))]).length):Nat):Int)),Ee la lc (List.replicate (1+(((n_.tmod 6)+6).tmod 6)).toNat ((((many++[(1+(((n_.tmod 6)+6).tmod 6))]).length):Nat):Int)),Eag q c 0 (ctlEpoch (B.ws.getD (ctlAt c 0).toNat 0)) 1 0 0 la ((List.replicate (1+(((n_.tmod 6)+6).tmod 6)).toNat ((((many++[(1+(((n_.tmod 6)+6).tmod 6))]).length):Nat):Int)).length) lc (vP k2) 0 0 0 0 0,EH k2 c (fitK c (((List.replicate (1+(((n_.tmod 6)+6).tmod 6)).toNat ((((many++[(1+(((n_.tmod 6)+6).tmod 6))]).length):Nat):Int)).length:Nat):Int)) 1 0 0 0]):=by
 refine cb 140 func28 fun F => ?_
 have h0:=ctl0_ok hc
 have hc':=hc
 simp only [Cfg.Ok] at hc'
 have hm7:1≤(1+(((n_.tmod 6)+6).tmod 6))∧(1+(((n_.tmod 6)+6).tmod 6))≤6:=msz_rng n_
 have hm6:=tm6_rng n_
 have hmn:(many++[(1+(((n_.tmod 6)+6).tmod 6))]).length=many.length+1:=by simp
 refine gX [.e 0,.s 1,.j 1 i.toNat,.z [0,0,1] 1 [0,1,2,6,18]] (gQ x (gO (ka=ka∧ps.length=ps.length) ⟨rfl,oe⟩ (gO ((0:Int)≤i∧i<(ps.length:Int)) oa (gQ (slAt ka i.toNat 1) (gO (i.toNat<ps.length) oa (gS [.o [0,0,1] 1,.c [1,0,1],.c [1,1]] (gC (some 19) [3] call32 (k_idleI (ps.getD i.toNat 0) pv sv rv ra rc ret.length id_) (gX [.z [0,1,1] 1 [0,1,2,6,21]] (gS [.o [0,1,1] 1,.c [1,1,1]] (gC (some 22) [0,3,4] call35 (w_word c x ba rb now (.slice ka ps.length kc) (.slice ma many.length mc) B hc hnB hzB) (gC (some 23) [] call34 (r13_Unpack (B.ws.getD (ctlAt c 0).toNat 0) hwB) (gX [.sp [26] [.dead] [.sp [50,49] [.dead] [.n,.n,.n,.n,.e 3,.z qbk 7 [0,6,7,8,87,91,93]]]] (gF (decide (i≥2)) (decide_eq_false hi2) (gQ ((bAnd .i64 n_ 3)==0) (gF ((bAnd .i64 n_ 3)==0) (beq_eq_false_iff_ne.2 h3) (gO ((6:Int)≠0) oc (gO (InK .i64 ((n_.tmod 6)+6)) oh (gO ((6:Int)≠0) oc (gO (InK .i64 (1+(((n_.tmod 6)+6).tmod 6))) oh (gQ x (gN fun b_1=>gW (ks:=[.o qbk 7,.c qcN]) [(0,vP x),(6,vP (ps.getD i.toNat 0)),(7,vI (ctlEpoch (B.ws.getD (ctlAt c 0).toNat 0))),(8,vI (1+(((n_.tmod 6)+6).tmod 6))),(87,vP x),(91,.slice ma many.length mc),(93,.slice (some ⟨b_1,0,none⟩) 1 1)] [.sl ka kc encP 0 1 ps 68,Ec ma mc many,Et (ps.getD i.toNat 0) pv sv rv ra ret.length rc id_,Eg x c (vP ba) (vP rb) ka ps.length kc ma many.length mc now,Ed rb B false 0,Ea B,.pts b_1 [vI (1+(((n_.tmod 6)+6).tmod 6))] 3] ?_)))))))))))))))))))))
 refine go_by (some 94) (appO prog _) (some (.slice ma (many).length mc,.slice (some ⟨b_1,0,none⟩) 1 1,(3,1,8))) (R_append 1 (a:=ma) (c:=mc) (enc:=encI .i64) (d:=0) (sz:=1) (xs:=many) (te:=3) kR (.slice (some ⟨b_1,0,none⟩) 1 1) [(1+(((n_.tmod 6)+6).tmod 6))] (src_pts (i:=6) (t:=3) kR) (oneI _) 8 oW oW) kR ?_
 rintro v L2 ⟨a_2,c_3,rfl,rfl⟩
 refine gX [.e 3,.e 3,.n,.e 2,.z qbl 1 [0,6,7,8,106]] (gQ x (gQ x (gO (InK .u64 (((many++[(1+(((n_.tmod 6)+6).tmod 6))]).length:Nat):Int)) oh (gQ (ps.getD i.toNat 0) (gW (ks:=[.o qbl 1,.c qcO]) [(0,vP x),(6,vP (ps.getD i.toNat 0)),(7,vI (ctlEpoch (B.ws.getD (ctlAt c 0).toNat 0))),(8,vI (1+(((n_.tmod 6)+6).tmod 6))),(106,vI (1+(((n_.tmod 6)+6).tmod 6)))] [.sl ka kc encP 0 1 ps 68,Ec a_2 c_3 (many++[(1+(((n_.tmod 6)+6).tmod 6))]),ED (ps.getD i.toNat 0) pv sv rv ra ret.length rc ((many++[(1+(((n_.tmod 6)+6).tmod 6))]).length),Eg x c (vP ba) (vP rb) ka ps.length kc a_2 ((many++[(1+(((n_.tmod 6)+6).tmod 6))]).length) c_3 now,Ed rb B false 0,Ea B,.pts b_1 [vI (1+(((n_.tmod 6)+6).tmod 6))] 3] ?_)))))
 refine go_make (kl:=.i64) (kc:=.i64) (encI .u64) 0 (0:Int) 1 (sizedI _) 60 8 (some 107) (1+(((n_.tmod 6)+6).tmod 6)) (1+(((n_.tmod 6)+6).tmod 6)) kR oa oa oa oa ?_
 intro a_4 c_5
 refine gX [.z qbm 0 [0,6,7,8,9,10]] (gW (ks:=[.c qbm,.b 0,.c qbn]) [(0,vP x),(6,vP (ps.getD i.toNat 0)),(7,vI (ctlEpoch (B.ws.getD (ctlAt c 0).toNat 0))),(8,vI (1+(((n_.tmod 6)+6).tmod 6))),(9,.slice a_4 ((List.replicate (1+(((n_.tmod 6)+6).tmod 6)).toNat (0:Int)).length) c_5),(10,vI 0)] [.sl ka kc encP 0 1 ps 68,Ec a_2 c_3 (many++[(1+(((n_.tmod 6)+6).tmod 6))]),ED (ps.getD i.toNat 0) pv sv rv ra ret.length rc ((many++[(1+(((n_.tmod 6)+6).tmod 6))]).length),Eg x c (vP ba) (vP rb) ka ps.length kc a_2 ((many++[(1+(((n_.tmod 6)+6).tmod 6))]).length) c_3 now,Ed rb B false 0,Ea B,.pts b_1 [vI (1+(((n_.tmod 6)+6).tmod 6))] 3,Ee a_4 c_5 (List.replicate (1+(((n_.tmod 6)+6).tmod 6)).toNat (0:Int))] ?_)
 refine go_cast (tm':=[(0,vP x),(6,vP (ps.getD i.toNat 0)),(7,vI (ctlEpoch (B.ws.getD (ctlAt c 0).toNat 0))),(8,vI (1+(((n_.tmod 6)+6).tmod 6))),(9,.slice a_4 ((fillR (1+(((n_.tmod 6)+6).tmod 6)).toNat 0 ((((many++[(1+(((n_.tmod 6)+6).tmod 6))]).length):Nat):Int)).length) c_5),(10,vI 0)]) (L':=[.sl ka kc encP 0 1 ps 68,Ec a_2 c_3 (many++[(1+(((n_.tmod 6)+6).tmod 6))]),ED (ps.getD i.toNat 0) pv sv rv ra ret.length rc ((many++[(1+(((n_.tmod 6)+6).tmod 6))]).length),Eg x c (vP ba) (vP rb) ka ps.length kc a_2 ((many++[(1+(((n_.tmod 6)+6).tmod 6))]).length) c_3 now,Ed rb B false 0,Ea B,.pts b_1 [vI (1+(((n_.tmod 6)+6).tmod 6))] 3,Ee a_4 c_5 (fillR (1+(((n_.tmod 6)+6).tmod 6)).toNat 0 ((((many++[(1+(((n_.tmod 6)+6).tmod 6))]).length):Nat):Int))]) (by rw [show(fillR (1+(((n_.tmod 6)+6).tmod 6)).toNat 0 ((((many++[(1+(((n_.tmod 6)+6).tmod 6))]).length):Nat):Int))=List.replicate (1+(((n_.tmod 6)+6).tmod 6)).toNat 0 from rfl]) ?_
 have hlen:∀j:Int,0≤j→j≤(1+(((n_.tmod 6)+6).tmod 6))→(fillR (1+(((n_.tmod 6)+6).tmod 6)).toNat j.toNat ((((many++[(1+(((n_.tmod 6)+6).tmod 6))]).length):Nat):Int)).length=(1+(((n_.tmod 6)+6).tmod 6)).toNat:=fun j h1 h2=>fillR_len oa
 refine go_loop (ι := Int) (fun j=>[(0,vP x),(6,vP (ps.getD i.toNat 0)),(7,vI (ctlEpoch (B.ws.getD (ctlAt c 0).toNat 0))),(8,vI (1+(((n_.tmod 6)+6).tmod 6))),(9,.slice a_4 ((fillR (1+(((n_.tmod 6)+6).tmod 6)).toNat j.toNat ((((many++[(1+(((n_.tmod 6)+6).tmod 6))]).length):Nat):Int)).length) c_5),(10,vI j)]) (fun j=>[.sl ka kc encP 0 1 ps 68,Ec a_2 c_3 (many++[(1+(((n_.tmod 6)+6).tmod 6))]),ED (ps.getD i.toNat 0) pv sv rv ra ret.length rc ((many++[(1+(((n_.tmod 6)+6).tmod 6))]).length),Eg x c (vP ba) (vP rb) ka ps.length kc a_2 ((many++[(1+(((n_.tmod 6)+6).tmod 6))]).length) c_3 now,Ed rb B false 0,Ea B,.pts b_1 [vI (1+(((n_.tmod 6)+6).tmod 6))] 3,Ee a_4 c_5 (fillR (1+(((n_.tmod 6)+6).tmod 6)).toNat j.toNat ((((many++[(1+(((n_.tmod 6)+6).tmod 6))]).length):Nat):Int))]) (fun j=>0≤j∧j≤(1+(((n_.tmod 6)+6).tmod 6))) (fun j=>((1+(((n_.tmod 6)+6).tmod 6))-j).toNat) 0 [0,6,7,8,9,10] [0,1,2,3,4,5,6,7] kR rfl rfl kR ⟨Int.le_refl 0,by omega⟩ ?_
 intro j J_6 hj hJ_6
 have hle:=hlen j hj.1 hj.2
 refine go_exec (rs:=[]) kR 4000 [.sp [110] [.e 2,.s 7,.j 7 j.toNat,.n,.z [] 0 [0,6,7,8,9,10]] [.z qaa 0 [0,6,7,9]]] (o:=.br (decide (j<(1+(((n_.tmod 6)+6).tmod 6)))) (.obl ((ps.getD i.toNat 0)=(ps.getD i.toNat 0)) (.obl (a_4=a_4∧(fillR (1+(((n_.tmod 6)+6).tmod 6)).toNat j.toNat ((((many++[(1+(((n_.tmod 6)+6).tmod 6))]).length):Nat):Int)).length=(fillR (1+(((n_.tmod 6)+6).tmod 6)).toNat j.toNat ((((many++[(1+(((n_.tmod 6)+6).tmod 6))]).length):Nat):Int)).length) (.obl ((0:Int)≤j∧j<(((fillR (1+(((n_.tmod 6)+6).tmod 6)).toNat j.toNat ((((many++[(1+(((n_.tmod 6)+6).tmod 6))]).length):Nat):Int)).length:Nat):Int)) (.obl (slAt a_4 j.toNat 1=slAt a_4 j.toNat 1) (.obl (j.toNat<(fillR (1+(((n_.tmod 6)+6).tmod 6)).toNat j.toNat ((((many++[(1+(((n_.tmod 6)+6).tmod 6))]).length):Nat):Int)).length) (.ex fun x_7:Int=>.obl ([vU (((many++[(1+(((n_.tmod 6)+6).tmod 6))]).length:Nat):Int)]=(encI .u64) x_7) (.obl (InK .i64 (j+1)) (.stop [.j J_6,.b 0,.c qbn] [(0,vP x),(6,vP (ps.getD i.toNat 0)),(7,vI (ctlEpoch (B.ws.getD (ctlAt c 0).toNat 0))),(8,vI (1+(((n_.tmod 6)+6).tmod 6))),(9,.slice a_4 ((fillR (1+(((n_.tmod 6)+6).tmod 6)).toNat j.toNat ((((many++[(1+(((n_.tmod 6)+6).tmod 6))]).length):Nat):Int)).length) c_5),(10,vI (j+1))] [.sl ka kc encP 0 1 ps 68,Ec a_2 c_3 (many++[(1+(((n_.tmod 6)+6).tmod 6))]),ED (ps.getD i.toNat 0) pv sv rv ra ret.length rc ((many++[(1+(((n_.tmod 6)+6).tmod 6))]).length),Eg x c (vP ba) (vP rb) ka ps.length kc a_2 ((many++[(1+(((n_.tmod 6)+6).tmod 6))]).length) c_3 now,Ed rb B false 0,Ea B,.pts b_1 [vI (1+(((n_.tmod 6)+6).tmod 6))] 3,Ee a_4 c_5 ((fillR (1+(((n_.tmod 6)+6).tmod 6)).toNat j.toNat ((((many++[(1+(((n_.tmod 6)+6).tmod 6))]).length):Nat):Int)).set j.toNat x_7)])))))))) (.stop [.o qaa 0,.c qab] [(0,vP x),(6,vP (ps.getD i.toNat 0)),(7,vI (ctlEpoch (B.ws.getD (ctlAt c 0).toNat 0))),(9,.slice a_4 ((fillR (1+(((n_.tmod 6)+6).tmod 6)).toNat j.toNat ((((many++[(1+(((n_.tmod 6)+6).tmod 6))]).length):Nat):Int)).length) c_5)] [.sl ka kc encP 0 1 ps 68,Ec a_2 c_3 (many++[(1+(((n_.tmod 6)+6).tmod 6))]),ED (ps.getD i.toNat 0) pv sv rv ra ret.length rc ((many++[(1+(((n_.tmod 6)+6).tmod 6))]).length),Eg x c (vP ba) (vP rb) ka ps.length kc a_2 ((many++[(1+(((n_.tmod 6)+6).tmod 6))]).length) c_3 now,Ed rb B false 0,Ea B,.pts b_1 [vI (1+(((n_.tmod 6)+6).tmod 6))] 3,Ee a_4 c_5 (fillR (1+(((n_.tmod 6)+6).tmod 6)).toNat j.toNat ((((many++[(1+(((n_.tmod 6)+6).tmod 6))]).length):Nat):Int))])) kR ?_
 refine ok_br (fun h_8 => ?_) (fun h_8 => ?_)
 ·replace h_8:=decT h_8
  refine ok_obl rfl ?_
  refine ok_obl ⟨rfl,oe⟩ ?_
  refine ok_obl oa ?_
  refine ok_obl rfl ?_
  refine ok_obl oa ?_
  refine ok_ex ((((many++[(1+(((n_.tmod 6)+6).tmod 6))]).length:Nat):Int):Int) ?_
  refine ok_obl rfl ?_
  refine ok_obl oh ?_
  refine ok_stop ?_
  have hset:((fillR (1+(((n_.tmod 6)+6).tmod 6)).toNat j.toNat ((((many++[(1+(((n_.tmod 6)+6).tmod 6))]).length):Nat):Int))).set j.toNat ((((many++[(1+(((n_.tmod 6)+6).tmod 6))]).length):Nat):Int)=fillR (1+(((n_.tmod 6)+6).tmod 6)).toNat (j+1).toNat ((((many++[(1+(((n_.tmod 6)+6).tmod 6))]).length):Nat):Int):=by rw [fillR_set oa]; congr 1; omega
  refine go_weak (tm':=[(0,vP x),(6,vP (ps.getD i.toNat 0)),(7,vI (ctlEpoch (B.ws.getD (ctlAt c 0).toNat 0))),(8,vI (1+(((n_.tmod 6)+6).tmod 6))),(9,.slice a_4 ((fillR (1+(((n_.tmod 6)+6).tmod 6)).toNat j.toNat ((((many++[(1+(((n_.tmod 6)+6).tmod 6))]).length):Nat):Int)).length) c_5),(10,vI (j+1))]) (L':=[.sl ka kc encP 0 1 ps 68,Ec a_2 c_3 (many++[(1+(((n_.tmod 6)+6).tmod 6))]),ED (ps.getD i.toNat 0) pv sv rv ra ret.length rc ((many++[(1+(((n_.tmod 6)+6).tmod 6))]).length),Eg x c (vP ba) (vP rb) ka ps.length kc a_2 ((many++[(1+(((n_.tmod 6)+6).tmod 6))]).length) c_3 now,Ed rb B false 0,Ea B,.pts b_1 [vI (1+(((n_.tmod 6)+6).tmod 6))] 3,Ee a_4 c_5 ((fillR (1+(((n_.tmod 6)+6).tmod 6)).toNat j.toNat ((((many++[(1+(((n_.tmod 6)+6).tmod 6))]).length):Nat):Int)).set j.toNat (((many++[(1+(((n_.tmod 6)+6).tmod 6))]).length:Nat):Int))]) [0,6,7,8,9,10] [0,1,2,3,4,5,6,7] kR ?_
  refine go_cast (tm':=[(0,vP x),(6,vP (ps.getD i.toNat 0)),(7,vI (ctlEpoch (B.ws.getD (ctlAt c 0).toNat 0))),(8,vI (1+(((n_.tmod 6)+6).tmod 6))),(9,.slice a_4 ((fillR (1+(((n_.tmod 6)+6).tmod 6)).toNat (j+1).toNat ((((many++[(1+(((n_.tmod 6)+6).tmod 6))]).length):Nat):Int)).length) c_5),(10,vI (j+1))]) (L':=[.sl ka kc encP 0 1 ps 68,Ec a_2 c_3 (many++[(1+(((n_.tmod 6)+6).tmod 6))]),ED (ps.getD i.toNat 0) pv sv rv ra ret.length rc ((many++[(1+(((n_.tmod 6)+6).tmod 6))]).length),Eg x c (vP ba) (vP rb) ka ps.length kc a_2 ((many++[(1+(((n_.tmod 6)+6).tmod 6))]).length) c_3 now,Ed rb B false 0,Ea B,.pts b_1 [vI (1+(((n_.tmod 6)+6).tmod 6))] 3,Ee a_4 c_5 (fillR (1+(((n_.tmod 6)+6).tmod 6)).toNat (j+1).toNat ((((many++[(1+(((n_.tmod 6)+6).tmod 6))]).length):Nat):Int))]) (by rw [hlen (j+1) oa oa,←hset,hle]) ?_
  exact go_back hJ_6 (j+1) [0,1,2,3,4,5,6,7] kR kR kR ⟨by omega,by omega⟩ oa
 ·replace h_8:=decF h_8
  refine ok_stop ?_
  have hfull:(fillR (1+(((n_.tmod 6)+6).tmod 6)).toNat j.toNat ((((many++[(1+(((n_.tmod 6)+6).tmod 6))]).length):Nat):Int))=(List.replicate (1+(((n_.tmod 6)+6).tmod 6)).toNat ((((many++[(1+(((n_.tmod 6)+6).tmod 6))]).length):Nat):Int)):=by rw [show j.toNat=(1+(((n_.tmod 6)+6).tmod 6)).toNat by omega]; exact fillR_all _ _
  refine go_cast (tm':=[(0,vP x),(6,vP (ps.getD i.toNat 0)),(7,vI (ctlEpoch (B.ws.getD (ctlAt c 0).toNat 0))),(9,.slice a_4 ((List.replicate (1+(((n_.tmod 6)+6).tmod 6)).toNat ((((many++[(1+(((n_.tmod 6)+6).tmod 6))]).length):Nat):Int)).length) c_5)]) (L':=[.sl ka kc encP 0 1 ps 68,Ec a_2 c_3 (many++[(1+(((n_.tmod 6)+6).tmod 6))]),ED (ps.getD i.toNat 0) pv sv rv ra ret.length rc ((many++[(1+(((n_.tmod 6)+6).tmod 6))]).length),Eg x c (vP ba) (vP rb) ka ps.length kc a_2 ((many++[(1+(((n_.tmod 6)+6).tmod 6))]).length) c_3 now,Ed rb B false 0,Ea B,.pts b_1 [vI (1+(((n_.tmod 6)+6).tmod 6))] 3,Ee a_4 c_5 (List.replicate (1+(((n_.tmod 6)+6).tmod 6)).toNat ((((many++[(1+(((n_.tmod 6)+6).tmod 6))]).length):Nat):Int))]) (by rw [hfull]) ?_
  refine gX [.e 3,.z qaa 7 [0,6,7,9,120,124,125,126]] (gQ x (gS [.o qaa 7,.c qab] ?_))
  refine go_call (some 127) [7] call12 (new_Pub c 0 (ctlEpoch (B.ws.getD (ctlAt c 0).toNat 0)) a_4 c_5 (List.replicate (1+(((n_.tmod 6)+6).tmod 6)).toNat ((((many++[(1+(((n_.tmod 6)+6).tmod 6))]).length):Nat):Int)) hc (by rw [List.length_replicate]; omega) hf oa) kR ?_
  rintro v post ⟨p_9,k_10,bp_11,bt_12,wa_13,wc_14,rfl,rfl⟩
  refine gX [.e 2,.e 3,.z qab 7 [130,134,135,136]] (gQ (ps.getD i.toNat 0) (gQ x (gS [.o qab 7] ?_)))
  refine go_call (some 137) [] call74 (rnew_Pub c 0 (ctlEpoch (B.ws.getD (ctlAt c 0).toNat 0)) a_4 ((List.replicate (1+(((n_.tmod 6)+6).tmod 6)).toNat ((((many++[(1+(((n_.tmod 6)+6).tmod 6))]).length):Nat):Int)).length) c_5 hc hf oa) kR ?_
  rintro v post ⟨q_15,k_16,rfl,rfl⟩
  exact gX [.e 2] (gQ (ps.getD i.toNat 0) (gJ [3,0,1,2,4,5,8,9,10,11,12,7,13,14] ⟨a_2,c_3,a_4,c_5,p_9,k_10,bp_11,bt_12,wa_13,wc_14,q_15,k_16,rfl,rfl⟩))
theorem w_beginNPe(c:Cfg)(x ba rb:Nat)(now:Int)(ka ma:Option Addr)(kc mc:Nat)(ps:List Nat)(many:List Int)(B:Ar)(i n_:Int)(pv sv rv:Value)(ra:Option Addr)(rc:Nat)(id_:Int)(ret:List Int)(hi:0≤i∧i<4)(hps:ps.length=4)(hc:c.Ok)(hnB:B.ws.length=B.n)(hzB:(B.n:Int)=sizeOfC c)(hwB:U64 (B.ws.getD (ctlAt c 0).toNat 0))(hi2:¬i≥2)(h3:bAnd .i64 n_ 3=0)(hl0:¬(ret.length:Int)>0)(hml:many.length≤2000)(hf:fitK c (((List.replicate (1+(((n_.tmod 6)+6).tmod 6)).toNat ((((many++[(1+(((n_.tmod 6)+6).tmod 6))]).length):Nat):Int)).length:Nat):Int)≠-1):
  Ctr prog 28 #[vP x,vI i,vI n_] [Eg x c (vP ba) (vP rb) ka ps.length kc ma many.length mc now,.sl ka kc encP 0 1 ps 68,Ec ma mc many,Et (ps.getD i.toNat 0) pv sv rv ra ret.length rc id_,Ed rb B false 0,Ea B] (fun v L => ∃(ma2:Option Addr) (mc2:Nat) (la:Option Addr) (lc:Nat) (y:Nat) (k:Nat) (bp:Nat) (bt:Nat) (wa:Option Addr) (wc:Nat) (q:Nat) (k2:Nat),v=undef∧L=[Eg x c (vP ba) (vP rb) ka ps.length kc ma2 ((many++[(1+(((n_.tmod 6)+6).tmod 6))]).length) mc2 now,.sl ka kc encP 0 1 ps 68,Ec ma2 mc2 (many++[(1+(((n_.tmod 6)+6).tmod 6))]),Ean (ps.getD i.toNat 0) (vP y) (vP q) sv rv ra ret.length rc ((many++[(1+(((n_.tmod 6)+6).tmod 6))]).length),Ed rb B false 0,Ea B,En y (.iface 114 (vP k)) (.func (.func 51) #[] #[vP bp,vP bt]) 0 false c (ctlAt c 0) (ctlEpoch (B.ws.getD (ctlAt c 0).toNat 0)) wa ((List.replicate (1+(((n_.tmod 6)+6).tmod 6)).toNat ((((many++[(1+(((n_.tmod 6)+6).tmod 6))]).length):Nat):Int)).length) wc 0 0 0 0 0,.pts bp [vP y] 23,.pts bt [vP k] 114,Ez k c (newTk (fitK c (((List.replicate (1+(((n_.tmod 6)+6).tmod 6)).toNat ((((many++[(1+(((n_.tmod 6)+6).tmod 6))]).length):Nat):Int)).length:Nat):Int))) k,Ee wa wc (List.replicate (1+(((n_.tmod 6)+6).tmod 6)).toNat ((((many++[(1+(((n_.tmod 6)+6).tmod 6))]).length):Nat):Int)),Ee la lc (List.replicate (1+(((n_.tmod 6)+6).tmod 6)).toNat ((((many++[(1+(((n_.tmod 6)+6).tmod 6))]).length):Nat):Int)),Eag q c 0 (ctlEpoch (B.ws.getD (ctlAt c 0).toNat 0)) 1 0 0 la ((List.replicate (1+(((n_.tmod 6)+6).tmod 6)).toNat ((((many++[(1+(((n_.tmod 6)+6).tmod 6))]).length):Nat):Int)).length) lc (vP k2) 0 0 0 0 0,EH k2 c (fitK c (((List.replicate (1+(((n_.tmod 6)+6).tmod 6)).toNat ((((many++[(1+(((n_.tmod 6)+6).tmod 6))]).length):Nat):Int)).length:Nat):Int)) 1 0 0 0]):=by
 refine cb 140 func28 fun F => ?_
 have h0:=ctl0_ok hc
 have hc':=hc
 simp only [Cfg.Ok] at hc'
 have hm7:1≤(1+(((n_.tmod 6)+6).tmod 6))∧(1+(((n_.tmod 6)+6).tmod 6))≤6:=msz_rng n_
 have hm6:=tm6_rng n_
 have hmn:(many++[(1+(((n_.tmod 6)+6).tmod 6))]).length=many.length+1:=by simp
 refine gX [.e 0,.s 1,.j 1 i.toNat,.z [0,0,1] 1 [0,1,2,6,18]] (gQ x (gO (ka=ka∧ps.length=ps.length) ⟨rfl,oe⟩ (gO ((0:Int)≤i∧i<(ps.length:Int)) oa (gQ (slAt ka i.toNat 1) (gO (i.toNat<ps.length) oa (gS [.o [0,0,1] 1,.c [1,0,1],.c [1,1]] (gC (some 19) [3] call32 (k_idleI (ps.getD i.toNat 0) pv sv rv ra rc ret.length id_) (gX [.z [0,1,1] 1 [0,1,2,6,21]] (gS [.o [0,1,1] 1,.c [1,1,1]] (gC (some 22) [0,3,4] call35 (w_word c x ba rb now (.slice ka ps.length kc) (.slice ma many.length mc) B hc hnB hzB) (gC (some 23) [] call34 (r13_Unpack (B.ws.getD (ctlAt c 0).toNat 0) hwB) (gX [.sp [26] [.dead] [.sp [50,49] [.e 2,.sp [57,56] [.dead] [.n,.n,.n,.n,.e 3,.z qbk 7 [0,6,7,8,87,91,93]]] [.dead]]] (gF (decide (i≥2)) (decide_eq_false hi2) (gQ ((bAnd .i64 n_ 3)==0) (gT ((bAnd .i64 n_ 3)==0) (beq_iff_eq.2 h3) (gQ (ps.getD i.toNat 0) (gQ (decide ((ret.length:Int)>0)) (gF (decide ((ret.length:Int)>0)) (decide_eq_false hl0) (gO ((6:Int)≠0) oc (gO (InK .i64 ((n_.tmod 6)+6)) oh (gO ((6:Int)≠0) oc (gO (InK .i64 (1+(((n_.tmod 6)+6).tmod 6))) oh (gQ x (gN fun b_1=>gW (ks:=[.o qbk 7,.c qcN]) [(0,vP x),(6,vP (ps.getD i.toNat 0)),(7,vI (ctlEpoch (B.ws.getD (ctlAt c 0).toNat 0))),(8,vI (1+(((n_.tmod 6)+6).tmod 6))),(87,vP x),(91,.slice ma many.length mc),(93,.slice (some ⟨b_1,0,none⟩) 1 1)] [.sl ka kc encP 0 1 ps 68,Ec ma mc many,Et (ps.getD i.toNat 0) pv sv rv ra ret.length rc id_,Eg x c (vP ba) (vP rb) ka ps.length kc ma many.length mc now,Ed rb B false 0,Ea B,.pts b_1 [vI (1+(((n_.tmod 6)+6).tmod 6))] 3] ?_))))))))))))))))))))))))
 refine go_by (some 94) (appO prog _) (some (.slice ma (many).length mc,.slice (some ⟨b_1,0,none⟩) 1 1,(3,1,8))) (R_append 1 (a:=ma) (c:=mc) (enc:=encI .i64) (d:=0) (sz:=1) (xs:=many) (te:=3) kR (.slice (some ⟨b_1,0,none⟩) 1 1) [(1+(((n_.tmod 6)+6).tmod 6))] (src_pts (i:=6) (t:=3) kR) (oneI _) 8 oW oW) kR ?_
 rintro v L2 ⟨a_2,c_3,rfl,rfl⟩
 refine gX [.e 3,.e 3,.n,.e 2,.z qbl 1 [0,6,7,8,106]] (gQ x (gQ x (gO (InK .u64 (((many++[(1+(((n_.tmod 6)+6).tmod 6))]).length:Nat):Int)) oh (gQ (ps.getD i.toNat 0) (gW (ks:=[.o qbl 1,.c qcO]) [(0,vP x),(6,vP (ps.getD i.toNat 0)),(7,vI (ctlEpoch (B.ws.getD (ctlAt c 0).toNat 0))),(8,vI (1+(((n_.tmod 6)+6).tmod 6))),(106,vI (1+(((n_.tmod 6)+6).tmod 6)))] [.sl ka kc encP 0 1 ps 68,Ec a_2 c_3 (many++[(1+(((n_.tmod 6)+6).tmod 6))]),ED (ps.getD i.toNat 0) pv sv rv ra ret.length rc ((many++[(1+(((n_.tmod 6)+6).tmod 6))]).length),Eg x c (vP ba) (vP rb) ka ps.length kc a_2 ((many++[(1+(((n_.tmod 6)+6).tmod 6))]).length) c_3 now,Ed rb B false 0,Ea B,.pts b_1 [vI (1+(((n_.tmod 6)+6).tmod 6))] 3] ?_)))))
 refine go_make (kl:=.i64) (kc:=.i64) (encI .u64) 0 (0:Int) 1 (sizedI _) 60 8 (some 107) (1+(((n_.tmod 6)+6).tmod 6)) (1+(((n_.tmod 6)+6).tmod 6)) kR oa oa oa oa ?_
 intro a_4 c_5
 refine gX [.z qbm 0 [0,6,7,8,9,10]] (gW (ks:=[.c qbm,.b 0,.c qbn]) [(0,vP x),(6,vP (ps.getD i.toNat 0)),(7,vI (ctlEpoch (B.ws.getD (ctlAt c 0).toNat 0))),(8,vI (1+(((n_.tmod 6)+6).tmod 6))),(9,.slice a_4 ((List.replicate (1+(((n_.tmod 6)+6).tmod 6)).toNat (0:Int)).length) c_5),(10,vI 0)] [.sl ka kc encP 0 1 ps 68,Ec a_2 c_3 (many++[(1+(((n_.tmod 6)+6).tmod 6))]),ED (ps.getD i.toNat 0) pv sv rv ra ret.length rc ((many++[(1+(((n_.tmod 6)+6).tmod 6))]).length),Eg x c (vP ba) (vP rb) ka ps.length kc a_2 ((many++[(1+(((n_.tmod 6)+6).tmod 6))]).length) c_3 now,Ed rb B false 0,Ea B,.pts b_1 [vI (1+(((n_.tmod 6)+6).tmod 6))] 3,Ee a_4 c_5 (List.replicate (1+(((n_.tmod 6)+6).tmod 6)).toNat (0:Int))] ?_)
 refine go_cast (tm':=[(0,vP x),(6,vP (ps.getD i.toNat 0)),(7,vI (ctlEpoch (B.ws.getD (ctlAt c 0).toNat 0))),(8,vI (1+(((n_.tmod 6)+6).tmod 6))),(9,.slice a_4 ((fillR (1+(((n_.tmod 6)+6).tmod 6)).toNat 0 ((((many++[(1+(((n_.tmod 6)+6).tmod 6))]).length):Nat):Int)).length) c_5),(10,vI 0)]) (L':=[.sl ka kc encP 0 1 ps 68,Ec a_2 c_3 (many++[(1+(((n_.tmod 6)+6).tmod 6))]),ED (ps.getD i.toNat 0) pv sv rv ra ret.length rc ((many++[(1+(((n_.tmod 6)+6).tmod 6))]).length),Eg x c (vP ba) (vP rb) ka ps.length kc a_2 ((many++[(1+(((n_.tmod 6)+6).tmod 6))]).length) c_3 now,Ed rb B false 0,Ea B,.pts b_1 [vI (1+(((n_.tmod 6)+6).tmod 6))] 3,Ee a_4 c_5 (fillR (1+(((n_.tmod 6)+6).tmod 6)).toNat 0 ((((many++[(1+(((n_.tmod 6)+6).tmod 6))]).length):Nat):Int))]) (by rw [show(fillR (1+(((n_.tmod 6)+6).tmod 6)).toNat 0 ((((many++[(1+(((n_.tmod 6)+6).tmod 6))]).length):Nat):Int))=List.replicate (1+(((n_.tmod 6)+6).tmod 6)).toNat 0 from rfl]) ?_
 have hlen:∀j:Int,0≤j→j≤(1+(((n_.tmod 6)+6).tmod 6))→(fillR (1+(((n_.tmod 6)+6).tmod 6)).toNat j.toNat ((((many++[(1+(((n_.tmod 6)+6).tmod 6))]).length):Nat):Int)).length=(1+(((n_.tmod 6)+6).tmod 6)).toNat:=fun j h1 h2=>fillR_len oa
 refine go_loop (ι := Int) (fun j=>[(0,vP x),(6,vP (ps.getD i.toNat 0)),(7,vI (ctlEpoch (B.ws.getD (ctlAt c 0).toNat 0))),(8,vI (1+(((n_.tmod 6)+6).tmod 6))),(9,.slice a_4 ((fillR (1+(((n_.tmod 6)+6).tmod 6)).toNat j.toNat ((((many++[(1+(((n_.tmod 6)+6).tmod 6))]).length):Nat):Int)).length) c_5),(10,vI j)]) (fun j=>[.sl ka kc encP 0 1 ps 68,Ec a_2 c_3 (many++[(1+(((n_.tmod 6)+6).tmod 6))]),ED (ps.getD i.toNat 0) pv sv rv ra ret.length rc ((many++[(1+(((n_.tmod 6)+6).tmod 6))]).length),Eg x c (vP ba) (vP rb) ka ps.length kc a_2 ((many++[(1+(((n_.tmod 6)+6).tmod 6))]).length) c_3 now,Ed rb B false 0,Ea B,.pts b_1 [vI (1+(((n_.tmod 6)+6).tmod 6))] 3,Ee a_4 c_5 (fillR (1+(((n_.tmod 6)+6).tmod 6)).toNat j.toNat ((((many++[(1+(((n_.tmod 6)+6).tmod 6))]).length):Nat):Int))]) (fun j=>0≤j∧j≤(1+(((n_.tmod 6)+6).tmod 6))) (fun j=>((1+(((n_.tmod 6)+6).tmod 6))-j).toNat) 0 [0,6,7,8,9,10] [0,1,2,3,4,5,6,7] kR rfl rfl kR ⟨Int.le_refl 0,by omega⟩ ?_
 intro j J_6 hj hJ_6
 have hle:=hlen j hj.1 hj.2
 refine go_exec (rs:=[]) kR 4000 [.sp [110] [.e 2,.s 7,.j 7 j.toNat,.n,.z [] 0 [0,6,7,8,9,10]] [.z qaa 0 [0,6,7,9]]] (o:=.br (decide (j<(1+(((n_.tmod 6)+6).tmod 6)))) (.obl ((ps.getD i.toNat 0)=(ps.getD i.toNat 0)) (.obl (a_4=a_4∧(fillR (1+(((n_.tmod 6)+6).tmod 6)).toNat j.toNat ((((many++[(1+(((n_.tmod 6)+6).tmod 6))]).length):Nat):Int)).length=(fillR (1+(((n_.tmod 6)+6).tmod 6)).toNat j.toNat ((((many++[(1+(((n_.tmod 6)+6).tmod 6))]).length):Nat):Int)).length) (.obl ((0:Int)≤j∧j<(((fillR (1+(((n_.tmod 6)+6).tmod 6)).toNat j.toNat ((((many++[(1+(((n_.tmod 6)+6).tmod 6))]).length):Nat):Int)).length:Nat):Int)) (.obl (slAt a_4 j.toNat 1=slAt a_4 j.toNat 1) (.obl (j.toNat<(fillR (1+(((n_.tmod 6)+6).tmod 6)).toNat j.toNat ((((many++[(1+(((n_.tmod 6)+6).tmod 6))]).length):Nat):Int)).length) (.ex fun x_7:Int=>.obl ([vU (((many++[(1+(((n_.tmod 6)+6).tmod 6))]).length:Nat):Int)]=(encI .u64) x_7) (.obl (InK .i64 (j+1)) (.stop [.j J_6,.b 0,.c qbn] [(0,vP x),(6,vP (ps.getD i.toNat 0)),(7,vI (ctlEpoch (B.ws.getD (ctlAt c 0).toNat 0))),(8,vI (1+(((n_.tmod 6)+6).tmod 6))),(9,.slice a_4 ((fillR (1+(((n_.tmod 6)+6).tmod 6)).toNat j.toNat ((((many++[(1+(((n_.tmod 6)+6).tmod 6))]).length):Nat):Int)).length) c_5),(10,vI (j+1))] [.sl ka kc encP 0 1 ps 68,Ec a_2 c_3 (many++[(1+(((n_.tmod 6)+6).tmod 6))]),ED (ps.getD i.toNat 0) pv sv rv ra ret.length rc ((many++[(1+(((n_.tmod 6)+6).tmod 6))]).length),Eg x c (vP ba) (vP rb) ka ps.length kc a_2 ((many++[(1+(((n_.tmod 6)+6).tmod 6))]).length) c_3 now,Ed rb B false 0,Ea B,.pts b_1 [vI (1+(((n_.tmod 6)+6).tmod 6))] 3,Ee a_4 c_5 ((fillR (1+(((n_.tmod 6)+6).tmod 6)).toNat j.toNat ((((many++[(1+(((n_.tmod 6)+6).tmod 6))]).length):Nat):Int)).set j.toNat x_7)])))))))) (.stop [.o qaa 0,.c qab] [(0,vP x),(6,vP (ps.getD i.toNat 0)),(7,vI (ctlEpoch (B.ws.getD (ctlAt c 0).toNat 0))),(9,.slice a_4 ((fillR (1+(((n_.tmod 6)+6).tmod 6)).toNat j.toNat ((((many++[(1+(((n_.tmod 6)+6).tmod 6))]).length):Nat):Int)).length) c_5)] [.sl ka kc encP 0 1 ps 68,Ec a_2 c_3 (many++[(1+(((n_.tmod 6)+6).tmod 6))]),ED (ps.getD i.toNat 0) pv sv rv ra ret.length rc ((many++[(1+(((n_.tmod 6)+6).tmod 6))]).length),Eg x c (vP ba) (vP rb) ka ps.length kc a_2 ((many++[(1+(((n_.tmod 6)+6).tmod 6))]).length) c_3 now,Ed rb B false 0,Ea B,.pts b_1 [vI (1+(((n_.tmod 6)+6).tmod 6))] 3,Ee a_4 c_5 (fillR (1+(((n_.tmod 6)+6).tmod 6)).toNat j.toNat ((((many++[(1+(((n_.tmod 6)+6).tmod 6))]).length):Nat):Int))])) kR ?_
 refine ok_br (fun h_8 => ?_) (fun h_8 => ?_)
 ·replace h_8:=decT h_8
  refine ok_obl rfl ?_
  refine ok_obl ⟨rfl,oe⟩ ?_
  refine ok_obl oa ?_
  refine ok_obl rfl ?_
  refine ok_obl oa ?_
  refine ok_ex ((((many++[(1+(((n_.tmod 6)+6).tmod 6))]).length:Nat):Int):Int) ?_
  refine ok_obl rfl ?_
  refine ok_obl oh ?_
  refine ok_stop ?_
  have hset:((fillR (1+(((n_.tmod 6)+6).tmod 6)).toNat j.toNat ((((many++[(1+(((n_.tmod 6)+6).tmod 6))]).length):Nat):Int))).set j.toNat ((((many++[(1+(((n_.tmod 6)+6).tmod 6))]).length):Nat):Int)=fillR (1+(((n_.tmod 6)+6).tmod 6)).toNat (j+1).toNat ((((many++[(1+(((n_.tmod 6)+6).tmod 6))]).length):Nat):Int):=by rw [fillR_set oa]; congr 1; omega
  refine go_weak (tm':=[(0,vP x),(6,vP (ps.getD i.toNat 0)),(7,vI (ctlEpoch (B.ws.getD (ctlAt c 0).toNat 0))),(8,vI (1+(((n_.tmod 6)+6).tmod 6))),(9,.slice a_4 ((fillR (1+(((n_.tmod 6)+6).tmod 6)).toNat j.toNat ((((many++[(1+(((n_.tmod 6)+6).tmod 6))]).length):Nat):Int)).length) c_5),(10,vI (j+1))]) (L':=[.sl ka kc encP 0 1 ps 68,Ec a_2 c_3 (many++[(1+(((n_.tmod 6)+6).tmod 6))]),ED (ps.getD i.toNat 0) pv sv rv ra ret.length rc ((many++[(1+(((n_.tmod 6)+6).tmod 6))]).length),Eg x c (vP ba) (vP rb) ka ps.length kc a_2 ((many++[(1+(((n_.tmod 6)+6).tmod 6))]).length) c_3 now,Ed rb B false 0,Ea B,.pts b_1 [vI (1+(((n_.tmod 6)+6).tmod 6))] 3,Ee a_4 c_5 ((fillR (1+(((n_.tmod 6)+6).tmod 6)).toNat j.toNat ((((many++[(1+(((n_.tmod 6)+6).tmod 6))]).length):Nat):Int)).set j.toNat (((many++[(1+(((n_.tmod 6)+6).tmod 6))]).length:Nat):Int))]) [0,6,7,8,9,10] [0,1,2,3,4,5,6,7] kR ?_
  refine go_cast (tm':=[(0,vP x),(6,vP (ps.getD i.toNat 0)),(7,vI (ctlEpoch (B.ws.getD (ctlAt c 0).toNat 0))),(8,vI (1+(((n_.tmod 6)+6).tmod 6))),(9,.slice a_4 ((fillR (1+(((n_.tmod 6)+6).tmod 6)).toNat (j+1).toNat ((((many++[(1+(((n_.tmod 6)+6).tmod 6))]).length):Nat):Int)).length) c_5),(10,vI (j+1))]) (L':=[.sl ka kc encP 0 1 ps 68,Ec a_2 c_3 (many++[(1+(((n_.tmod 6)+6).tmod 6))]),ED (ps.getD i.toNat 0) pv sv rv ra ret.length rc ((many++[(1+(((n_.tmod 6)+6).tmod 6))]).length),Eg x c (vP ba) (vP rb) ka ps.length kc a_2 ((many++[(1+(((n_.tmod 6)+6).tmod 6))]).length) c_3 now,Ed rb B false 0,Ea B,.pts b_1 [vI (1+(((n_.tmod 6)+6).tmod 6))] 3,Ee a_4 c_5 (fillR (1+(((n_.tmod 6)+6).tmod 6)).toNat (j+1).toNat ((((many++[(1+(((n_.tmod 6)+6).tmod 6))]).length):Nat):Int))]) (by rw [hlen (j+1) oa oa,←hset,hle]) ?_
  exact go_back hJ_6 (j+1) [0,1,2,3,4,5,6,7] kR kR kR ⟨by omega,by omega⟩ oa
 ·replace h_8:=decF h_8
  refine ok_stop ?_
  have hfull:(fillR (1+(((n_.tmod 6)+6).tmod 6)).toNat j.toNat ((((many++[(1+(((n_.tmod 6)+6).tmod 6))]).length):Nat):Int))=(List.replicate (1+(((n_.tmod 6)+6).tmod 6)).toNat ((((many++[(1+(((n_.tmod 6)+6).tmod 6))]).length):Nat):Int)):=by rw [show j.toNat=(1+(((n_.tmod 6)+6).tmod 6)).toNat by omega]; exact fillR_all _ _
  refine go_cast (tm':=[(0,vP x),(6,vP (ps.getD i.toNat 0)),(7,vI (ctlEpoch (B.ws.getD (ctlAt c 0).toNat 0))),(9,.slice a_4 ((List.replicate (1+(((n_.tmod 6)+6).tmod 6)).toNat ((((many++[(1+(((n_.tmod 6)+6).tmod 6))]).length):Nat):Int)).length) c_5)]) (L':=[.sl ka kc encP 0 1 ps 68,Ec a_2 c_3 (many++[(1+(((n_.tmod 6)+6).tmod 6))]),ED (ps.getD i.toNat 0) pv sv rv ra ret.length rc ((many++[(1+(((n_.tmod 6)+6).tmod 6))]).length),Eg x c (vP ba) (vP rb) ka ps.length kc a_2 ((many++[(1+(((n_.tmod 6)+6).tmod 6))]).length) c_3 now,Ed rb B false 0,Ea B,.pts b_1 [vI (1+(((n_.tmod 6)+6).tmod 6))] 3,Ee a_4 c_5 (List.replicate (1+(((n_.tmod 6)+6).tmod 6)).toNat ((((many++[(1+(((n_.tmod 6)+6).tmod 6))]).length):Nat):Int))]) (by rw [hfull]) ?_
  refine gX [.e 3,.z qaa 7 [0,6,7,9,120,124,125,126]] (gQ x (gS [.o qaa 7,.c qab] ?_))
  refine go_call (some 127) [7] call12 (new_Pub c 0 (ctlEpoch (B.ws.getD (ctlAt c 0).toNat 0)) a_4 c_5 (List.replicate (1+(((n_.tmod 6)+6).tmod 6)).toNat ((((many++[(1+(((n_.tmod 6)+6).tmod 6))]).length):Nat):Int)) hc (by rw [List.length_replicate]; omega) hf oa) kR ?_
  rintro v post ⟨p_9,k_10,bp_11,bt_12,wa_13,wc_14,rfl,rfl⟩
  refine gX [.e 2,.e 3,.z qab 7 [130,134,135,136]] (gQ (ps.getD i.toNat 0) (gQ x (gS [.o qab 7] ?_)))
  refine go_call (some 137) [] call74 (rnew_Pub c 0 (ctlEpoch (B.ws.getD (ctlAt c 0).toNat 0)) a_4 ((List.replicate (1+(((n_.tmod 6)+6).tmod 6)).toNat ((((many++[(1+(((n_.tmod 6)+6).tmod 6))]).length):Nat):Int)).length) c_5 hc hf oa) kR ?_
  rintro v post ⟨q_15,k_16,rfl,rfl⟩
  exact gX [.e 2] (gQ (ps.getD i.toNat 0) (gJ [3,0,1,2,4,5,8,9,10,11,12,7,13,14] ⟨a_2,c_3,a_4,c_5,p_9,k_10,bp_11,bt_12,wa_13,wc_14,q_15,k_16,rfl,rfl⟩))
end Go.Proofs.YtpcaijopodhdgaaGreatDoor
namespace Go.Proofs.YtpcaijopodhdgaaGreatDoor
open Go.Proofs.Tryz
open Go.Sx
abbrev EQ(x0:Nat)(c1:Cfg)(t2:Tk): Ent:=.pts x0 [.int .i64 c1.topics,.int .i64 c1.small,.int .i64 c1.slots,.int .i64 c1.clients,.int .i64 c1.s0,.int .i64 c1.n0,.int .i64 c1.s1,.int .i64 c1.n1,.int .i64 c1.retry,.int .i64 t2.cls,.int .i64 (t2.ph:Int),.int .i64 t2.block,.int .i64 t2.after,.int .u64 t2.seen] 206
abbrev qbo: List Nat:=[0,0,1,0,1,0,1]
abbrev qcP: List Nat:=[1,0,1,0,1,0,1]
abbrev qbp: List Nat:=[0,1,1,1,0,1,0,1,0,1]
abbrev qcQ: List Nat:=[1,1,1,1,0,1,0,1,0,1]
abbrev qcR: List Nat:=[0,0,1,1,1,0,1,0,1]
abbrev qbq: List Nat:=[0,0,1,1,1,1,1,0,1,0,1]
abbrev qcS: List Nat:=[1,0,1,1,1,1,1,0,1,0,1]
abbrev qcT: List Nat:=[0,1,1,1,1,1,1]
abbrev qcU: List Nat:=[0,1,1,1,1,1,1,1,1]
theorem rtStep0(c:Cfg)(k ra:Nat)(cl bk nx sn:Int)(A:Ar)(hc:c.Ok)(hn:A.ws.length=A.n)(hs : -1000000000≤A.steps∧A.steps≤1000000000)(hsz:(A.n:Int)=sizeOfC c)(hcl:cl=0∨cl=1)(hR:RngW A.ws):
  Ctr prog 82 #[vP k,vP ra] [EH k c cl 0 bk nx sn,Ed ra A false 0,Ea A] (Ret (.bool true) [EH k c cl 0 bk nx sn,Ed ra A false 0,Ea A]):=by
 exact cb 109 func82 fun F=>gX [.e 0,.e 0] (gQ k (gQ k (gJ [0,1,2] ⟨rfl,rfl⟩)))
theorem rtStep1Y(c:Cfg)(k ra:Nat)(cl bk nx sn:Int)(A:Ar)(hc:c.Ok)(hn:A.ws.length=A.n)(hs : -1000000000≤A.steps∧A.steps≤1000000000)(hsz:(A.n:Int)=sizeOfC c)(hcl:cl=0∨cl=1)(hR:RngW A.ws)(hq:clsOf c (bAnd .u64 (A.ws.getD (3+cl).toNat 0) 4294967295)=cl):
  Ctr prog 82 #[vP k,vP ra] [EH k c cl 1 bk nx sn,Ed ra A false 0,Ea A] (Ret (.bool false) [EH k c cl 2 (bAnd .u64 (A.ws.getD (3+cl).toNat 0) 4294967295) nx (A.ws.getD (3+cl).toNat 0),Ed ra (A.load (3+cl)) false 0,Ea (A.load (3+cl))]):=by
 exact cb 109 func82 fun F=>gX [.e 0,.e 0,.n,.z qbo 7 [0,12,13,18]] (gQ k (gQ k (gO (InK .i64 (3+cl)) oh (gS [.o qbo 7,.c qcP,.b 0,.c [1,1]] (gC (some 19) [1,2] call86 (ref_Load ra A (3+cl) oM (by have:=sizeOfC_ok hc; first | omega | (have:=blockAt_ok hc hb; omega)) oM) (gX [.e 0,.e 0,.n,.e 0,.e 0,.z qbp 0 [0]] (gQ k (gQ k (gO (InK .i64 (bAnd .u64 (A.ws.getD (3+cl).toNat 0) 4294967295)) (by have h1:=hR (3+cl).toNat; have h2:=and_mask (A.ws.getD (3+cl).toNat 0) 32 oc h1; have h3:=lo32_lt (A.ws.getD (3+cl).toNat 0); rw [show(bAnd .u64 (A.ws.getD (3+cl).toNat 0) 4294967295)=lo32 (A.ws.getD (3+cl).toNat 0) from h2]; simp only [InK]; omega) (gQ k (gQ k (gS [.c qbp,.c qcQ,.b 0,.c [1,1]] (qG (kV 0 [.ww,.ww,.ww,.e 0,.ww,.ww,.ww,.e 0,.q (vI (clsOf c (bAnd .u64 (A.ws.getD (3+cl).toNat 0) 4294967295))),.ww,.ww,.ww,.e 0,.t false]) [0,47] (.e k (.e k (.e k (.p (((clsOf c (bAnd .u64 (A.ws.getD (3+cl).toNat 0) 4294967295)) != cl)=false) (bne_eq_false_iff_eq.2 hq) .n)))) (.c call98 (qR [] (ref_Class c (bAnd .u64 (A.ws.getD (3+cl).toNat 0) 4294967295) oM)) .n) (gX [.e 0] (gQ k (gJ [0,1,2] ⟨rfl,rfl⟩))))))))))))))))
theorem rtStep1N(c:Cfg)(k ra:Nat)(cl bk nx sn:Int)(A:Ar)(hc:c.Ok)(hn:A.ws.length=A.n)(hs : -1000000000≤A.steps∧A.steps≤1000000000)(hsz:(A.n:Int)=sizeOfC c)(hcl:cl=0∨cl=1)(hR:RngW A.ws)(hq:clsOf c (bAnd .u64 (A.ws.getD (3+cl).toNat 0) 4294967295)≠cl):
  Ctr prog 82 #[vP k,vP ra] [EH k c cl 1 bk nx sn,Ed ra A false 0,Ea A] (Ret (.bool true) [EH k c cl 0 0 nx (A.ws.getD (3+cl).toNat 0),Ed ra (A.load (3+cl)) false 0,Ea (A.load (3+cl))]):=by
 exact cb 109 func82 fun F=>gX [.e 0,.e 0,.n,.z qbo 7 [0,12,13,18]] (gQ k (gQ k (gO (InK .i64 (3+cl)) oh (gS [.o qbo 7,.c qcP,.b 0,.c [1,1]] (gC (some 19) [1,2] call86 (ref_Load ra A (3+cl) oM (by have:=sizeOfC_ok hc; first | omega | (have:=blockAt_ok hc hb; omega)) oM) (gX [.e 0,.e 0,.n,.e 0,.e 0,.z qbp 0 [0]] (gQ k (gQ k (gO (InK .i64 (bAnd .u64 (A.ws.getD (3+cl).toNat 0) 4294967295)) (by have h1:=hR (3+cl).toNat; have h2:=and_mask (A.ws.getD (3+cl).toNat 0) 32 oc h1; have h3:=lo32_lt (A.ws.getD (3+cl).toNat 0); rw [show(bAnd .u64 (A.ws.getD (3+cl).toNat 0) 4294967295)=lo32 (A.ws.getD (3+cl).toNat 0) from h2]; simp only [InK]; omega) (gQ k (gQ k (gS [.c qbp,.c qcQ,.b 0,.c [1,1]] (qG (kV 0 [.ww,.ww,.ww,.e 0,.ww,.ww,.ww,.e 0,.q (vI (clsOf c (bAnd .u64 (A.ws.getD (3+cl).toNat 0) 4294967295))),.ww,.ww,.ww,.e 0,.t true]) [0,47] (.e k (.e k (.e k (.p (((clsOf c (bAnd .u64 (A.ws.getD (3+cl).toNat 0) 4294967295)) != cl)=true) (bne_iff_ne.2 hq) .n)))) (.c call98 (qR [] (ref_Class c (bAnd .u64 (A.ws.getD (3+cl).toNat 0) 4294967295) oM)) .n) (gX [.e 0,.e 0,.e 0] (gQ k (gQ k (gQ k (gJ [0,1,2] ⟨rfl,rfl⟩))))))))))))))))))
theorem rtStep2(c:Cfg)(k ra:Nat)(cl bk nx sn:Int)(A:Ar)(hc:c.Ok)(hn:A.ws.length=A.n)(hs : -1000000000≤A.steps∧A.steps≤1000000000)(hsz:(A.n:Int)=sizeOfC c)(hcl:cl=0∨cl=1)(hR:RngW A.ws)(hb:0≤clsOf c bk):
  Ctr prog 82 #[vP k,vP ra] [EH k c cl 2 bk nx sn,Ed ra A false 0,Ea A] (Ret (.bool false) [EH k c cl 3 bk (bAnd .u64 (A.ws.getD (blockAt c bk).toNat 0) 4294967295) sn,Ed ra (A.load (blockAt c bk)) false 0,Ea (A.load (blockAt c bk))]):=by
 refine cb 109 func82 fun F=>gX [.e 0,.z qcR 0 [0,1]] (gQ k (gS [.c qcR,.c [1,0,1,1,1,0,1,0,1],.b 0,.c [1,1]] (zG (zN [0,1,2,3,4,5,6,7,8,9,10] (kV 0 [.w,.w,.w,.w,.w,.e 0,.w,.w,.w,.e 0,.q (vI (blockAt c bk))]) [0,1,56,57,58,59,60,61,62,63,64,65,66] [11] (.e k (.e k (.q (lQ [] call85 (ref_Block c bk oM (clsOf_ok hb))) .n))) ⟨?_,trivial⟩))))
 refine zC (some 67) [1,2] call86 (ref_Load ra A (blockAt c bk) oM (by have:=sizeOfC_ok hc; first | omega | (have:=blockAt_ok hc hb; omega)) oM) ?_
 rintro v post ⟨rfl,rfl⟩
 refine zN [12,13,14,15] [(0,.w),(12,.w),(13,.h (.n)),(14,.w),(15,.w)] [67,0,56,68,69,70,71] [16] (.p (InK .i64 (bAnd .u64 (A.ws.getD (blockAt c bk).toNat 0) 4294967295)) (by have h1:=hR (blockAt c bk).toNat; have h2:=and_mask (A.ws.getD (blockAt c bk).toNat 0) 32 oc h1; have h3:=lo32_lt (A.ws.getD (blockAt c bk).toNat 0); rw [show(bAnd .u64 (A.ws.getD (blockAt c bk).toNat 0) 4294967295)=lo32 (A.ws.getD (blockAt c bk).toNat 0) from h2]; simp only [InK]; omega) .n) ⟨?_,trivial⟩
 refine zX (.e 0) (sQ k (sK ?_))
 exact zE [] [] [0] .n (gX [.e 0,.e 0] (gQ k (gQ k (gJ [0,1,2] ⟨rfl,rfl⟩))))
theorem rtStep3T(c:Cfg)(k ra:Nat)(cl bk nx sn:Int)(A:Ar)(hc:c.Ok)(hn:A.ws.length=A.n)(hs : -1000000000≤A.steps∧A.steps≤1000000000)(hsz:(A.n:Int)=sizeOfC c)(hcl:cl=0∨cl=1)(hR:RngW A.ws)(hx:0≤nx∧nx≤4294967295)(hw:U64 sn)(hq:(A.ws.getD (3+cl).toNat 0)=sn):
  Ctr prog 82 #[vP k,vP ra] [EH k c cl 3 bk nx sn,Ed ra A false 0,Ea A] (Ret (.bool true) [EH k c cl 0 bk nx sn,Ed ra (A.swapT (3+cl) (turnW sn nx)) false 0,Ea (A.swapT (3+cl) (turnW sn nx))]):=by
 refine cb 109 func82 fun F=>gX [.e 0,.z qbq 0 [0,1]] (gQ k (gS [.c qbq,.c qcS,.b 0,.c [1,1]] ?_))
 refine tC (some 96) (kV 0 [.ww,.ww,.ww,.ww,.e 0,.h (.n),.ww,.ww,.ww,.e 0,.ww,.ww,.ww,.e 0,.ww,.ww,.ww,.e 0,.q (vU (turnW sn nx))]) 19 (kV 20 [.ww]) [1,2] [0,5] call89 (ref_SwapT ra A (3+cl) sn (turnW sn nx) oM (by have:=sizeOfC_ok hc; omega) oM oM) (.e k (.p (InK .i64 (3+cl)) oh (.e k (.e k (.e k .n))))) (.c call143 (qR [] (ref10_Turn sn nx hw hx)) .n) ?_
 rintro v post ⟨rfl,rfl⟩
 refine tN .n ?_
 exact gX [.e 0,.e 0,.e 0] (gQ k (gQ k (gQ k (gJ [0,1,2] ⟨rfl,rfl⟩))))
theorem rtStep3F(c:Cfg)(k ra:Nat)(cl bk nx sn:Int)(A:Ar)(hc:c.Ok)(hn:A.ws.length=A.n)(hs : -1000000000≤A.steps∧A.steps≤1000000000)(hsz:(A.n:Int)=sizeOfC c)(hcl:cl=0∨cl=1)(hR:RngW A.ws)(hx:0≤nx∧nx≤4294967295)(hw:U64 sn)(hq:(A.ws.getD (3+cl).toNat 0)≠sn):
  Ctr prog 82 #[vP k,vP ra] [EH k c cl 3 bk nx sn,Ed ra A false 0,Ea A] (Ret (.bool false) [EH k c cl 1 bk nx sn,Ed ra (A.swapF (3+cl)) false 0,Ea (A.swapF (3+cl))]):=by
 refine cb 109 func82 fun F=>gX [.e 0,.z qbq 0 [0,1]] (gQ k (gS [.c qbq,.c qcS,.b 0,.c [1,1]] ?_))
 refine tC (some 96) (kV 0 [.ww,.ww,.ww,.ww,.e 0,.h (.n),.ww,.ww,.ww,.e 0,.ww,.ww,.ww,.e 0,.ww,.ww,.ww,.e 0,.q (vU (turnW sn nx))]) 19 (kV 20 [.ww]) [1,2] [0,5] call89 (ref_SwapF ra A (3+cl) sn (turnW sn nx) oM (by have:=sizeOfC_ok hc; omega) oM oM) (.e k (.p (InK .i64 (3+cl)) oh (.e k (.e k (.e k .n))))) (.c call143 (qR [] (ref10_Turn sn nx hw hx)) .n) ?_
 rintro v post ⟨rfl,rfl⟩
 refine tN .n ?_
 exact gX [.e 0,.e 0] (gQ k (gQ k (gJ [0,1,2] ⟨rfl,rfl⟩)))
theorem rtake_Step(c:Cfg)(k ra:Nat)(T:Tk)(A:Ar)(hc:c.Ok)(hn:A.ws.length=A.n)(hs : -1000000000≤A.steps∧A.steps≤1000000000)(hsz:(A.n:Int)=sizeOfC c)(hR:RngW A.ws)(hT:T.Ok c):
  Ctr prog 82 #[vP k,vP ra] [EQ k c T,Ed ra A false 0,Ea A] (Ret (.bool ((T.step c A).1.ph==0)) [EQ k c ((T.step c A).1),Ed ra ((T.step c A).2) false 0,Ea ((T.step c A).2)]):=by
 obtain⟨hd,cl,sn,bk,af,ph⟩:=T
 obtain⟨h1,h2,h3,h4,h5,h6,h7,h8⟩:=hT
 simp only at h1 h2 h3 h4 h5 h6 h7 h8
 subst h3
 match ph,h1 with
 | 0,_=>exact rtStep0 c k ra cl bk af sn A hc hn hs hsz h2 hR
 | 1,_=>
  have eb:(bAnd .u64 (A.ws.getD (3+cl).toNat 0) 4294967295)=lo32 (A.ws.getD (3+cl).toNat 0):=and_mask _ 32 oc (hR _)
  by_cases hq:clsOf c (lo32 (A.ws.getD (3+cl).toNat 0))=cl
  ·have e:Tk.step c ⟨3+cl,cl,sn,bk,af,1⟩ A=(⟨3+cl,cl,(A.ws.getD (3+cl).toNat 0),(bAnd .u64 (A.ws.getD (3+cl).toNat 0) 4294967295),af,2⟩,A.load (3+cl)):=by rw [eb]; exact if_pos hq
   rw [e]; exact rtStep1Y c k ra cl bk af sn A hc hn hs hsz h2 hR (by rw [eb]; exact hq)
  ·have e:Tk.step c ⟨3+cl,cl,sn,bk,af,1⟩ A=(⟨3+cl,cl,(A.ws.getD (3+cl).toNat 0),0,af,0⟩,A.load (3+cl)):=if_neg hq
   rw [e]; exact rtStep1N c k ra cl bk af sn A hc hn hs hsz h2 hR (by rw [eb]; exact hq)
 | 2,_=>
  have e:Tk.step c ⟨3+cl,cl,sn,bk,af,2⟩ A=(⟨3+cl,cl,sn,bk,(bAnd .u64 (A.ws.getD (blockAt c bk).toNat 0) 4294967295),3⟩,A.load (blockAt c bk)):=by
   rw [show(bAnd .u64 (A.ws.getD (blockAt c bk).toNat 0) 4294967295)=lo32 _ from and_mask _ 32 oc (hR _)]; rfl
  rw [e]; exact rtStep2 c k ra cl bk af sn A hc hn hs hsz h2 hR (by rw [h6 (.inl rfl)]; omega)
 | 3,_=>
  by_cases hq:(A.ws.getD (3+cl).toNat 0)=sn
  ·have e:Tk.step c ⟨3+cl,cl,sn,bk,af,3⟩ A=(⟨3+cl,cl,sn,bk,af,0⟩,A.swapT (3+cl) (turnW sn af)):=if_pos hq
   rw [e]; exact rtStep3T c k ra cl bk af sn A hc hn hs hsz h2 hR h5 h4 hq
  ·have e:Tk.step c ⟨3+cl,cl,sn,bk,af,3⟩ A=(⟨3+cl,cl,sn,bk,af,1⟩,A.swapF (3+cl)):=if_neg hq
   rw [e]; exact rtStep3F c k ra cl bk af sn A hc hn hs hsz h2 hR h5 h4 hq
theorem rtake_Block(c:Cfg)(k:Nat)(T:Tk)(hd:T.ph=0):
  Ctr prog 83 #[vP k] [EQ k c T] (Ret (vI T.block) [EQ k c T]):=by
 exact cb 12 func83 fun F=>gX [.e 0,.sp [7] [.dead] [.e 0]] (gQ k (gF (decide ((T.ph:Int)>0)) (by simp [hd]) (gQ k (gJ [0] ⟨rfl,rfl⟩))))
theorem r13_inT(n_ m_:Int)(h:0≤n_∧n_≤m_):
  Ctr prog 177 #[vI n_,vI m_] [] (Ret (.bool true) []):=by
 exact cb 12 func177 fun F=>gX [.sp [7,6] [] [.dead]] (gQ (decide (n_≥0)) (gT (decide (n_≥0)) (decide_eq_true oa) (gI (.bool (decide (n_≤m_))) [] ⟨(congrArg Value.bool (decide_eq_true oa)),rfl⟩)))
theorem r13_Fits(e_ g_ k_:Int)(l_ b_:Bool)(he:0≤e_∧e_≤32767)(hg:0≤g_∧g_≤2147483647)(hk:0≤k_∧k_≤65535):
  Ctr prog 146 #[.agg #[vI e_,vI g_,vI k_,.bool l_,.bool b_]] [] (Ret (.bool true) []):=by
 exact cb 16 func146 fun F=>gX [.e 0,.z [0,1] 2 [1,4]] (gN fun b_1=>gQ b_1 (gS [.o [0,1] 2,.c [1,1]] (gC (some 5) [] call177 (r13_inT k_ 65535 oa) (gX [.e 0,.z [0,1] 6 [1,6,8]] (gQ b_1 (gS [.o [0,1] 6,.c [1,1]] (gC (some 9) [] call177 (r13_inT g_ 2147483647 oa) (gX [.e 0,.z [0,1] 11 [11,13]] (gQ b_1 (gS [.o [0,1] 11,.c [1,1]] (gC (some 14) [] call177 (r13_inT e_ 32767 oa) (gX [] (gR (.bool true) [] ⟨rfl,rfl⟩)))))))))))))
theorem r13_Published(w_ bk:Int)(hw:U64 w_)(hl:ctlLive w_ = true)(hb:ctlBusy w_ = false)(hg:ctlGen w_≠2147483647)(hk:1≤bk∧bk≤65535):
  Ctr prog 88 #[vU w_,vI bk] [] (Ret (.tuple #[vU (pubW w_ bk),vI 0]) []):=by
 exact cb 35 func88 fun F=>gX [.z [0,1] 1 [1,8]] (gS [.o [0,1] 1,.c [1,1]] (gC (some 9) [] call34 (r13_Unpack w_ hw) (gX [.e 0,.e 0,.sp [13,12] [.dead] [.e 0,.sp [16,15] [.dead] [.sp [19,18] [.dead] [.sp [22,21] [.dead] [.e 0,.e 0,.n,.e 0,.e 0,.z qcT 1 [6,29]]]]]] (gN fun b_2=>gQ b_2 (gQ b_2 (gQ (!(ctlLive w_)) (gF (!(ctlLive w_)) (by simp [hl]) (gQ b_2 (gQ (ctlBusy w_) (gF (ctlBusy w_) (by simp [hb]) (gQ (decide (bk<1)) (gF (decide (bk<1)) (decide_eq_false oa) (gQ (decide (bk>65535)) (gF (decide (bk>65535)) (decide_eq_false oa) (gQ b_2 (gQ b_2 (gO (InK .i64 ((ctlGen w_)+1)) (by have:=ctl_rng hw; simp only [InK]; omega) (gQ b_2 (gQ b_2 (gS [.o qcT 1,.c [1,1,1,1,1,1,1]] (gC (some 30) [] call146 (r13_Fits (ctlEpoch w_) ((ctlGen w_)+1) bk (ctlLive w_) (ctlBusy w_) (by have:=ctl_rng hw; omega) (by have:=ctl_rng hw; omega) oa) (gX [.e 0,.z qcU 1 [33]] (gQ b_2 (gS [.o qcU 1,.c [1,1,1,1,1,1,1,1,1]] (gC (some 34) [] call132 (r13_Pack (ctlEpoch w_) ((ctlGen w_)+1) bk (ctlLive w_) (ctlBusy w_) (by have:=ctl_rng hw; omega) (by have:=ctl_rng hw; omega) oa) (gX [] (gI (.tuple #[vU (packW3 (ctlEpoch w_) (flagI (ctlLive w_)) (flagI (ctlBusy w_)) ((ctlGen w_)+1) bk),vI 0]) [] ⟨(by rw [hl,hb]; rfl),rfl⟩)))))))))))))))))))))))))))
end Go.Proofs.YtpcaijopodhdgaaGreatDoor
namespace Go.Proofs.YtpcaijopodhdgaaGreatDoor
open Go.Proofs.Tryz
open Go.Sx
abbrev Er(x0:Nat)(c1:Cfg)(x2:Int)(x3:Int)(x4:Int)(x5:Int)(x6:Int)(x7:Option Addr)(x8:Nat)(x9:Nat)(x10:Value)(x11:Value)(x12:Int)(x13:Int)(x14:Int)(x15:Int)(x16:Int): Ent:=.pts x0 [.int .i64 c1.topics,.int .i64 c1.small,.int .i64 c1.slots,.int .i64 c1.clients,.int .i64 c1.s0,.int .i64 c1.n0,.int .i64 c1.s1,.int .i64 c1.n1,.int .i64 c1.retry,.int .i64 x2,.int .i64 x3,.int .i64 x4,.int .i64 x5,.int .i64 x6,.slice x7 x8 x9,x10,x11,.int .u64 x12,.int .i64 x13,.int .i64 x14,.int .i64 x15,.int .i64 x16] 91
abbrev qam: List Nat:=[0,0,1,0,1,0,1,1]
abbrev qbI: List Nat:=[1,0,1,0,1,0,1,1]
abbrev qbr: List Nat:=[0,1,0,1,0,1,0,1,1]
abbrev qcV: List Nat:=[1,1,0,1,0,1,0,1,1]
abbrev qcW: List Nat:=[0,0,1,1,1,1,0,1,0,1,0,1,1]
abbrev qbs: List Nat:=[0,0,1,1,1,0,1,0,1,1]
abbrev qcX: List Nat:=[1,0,1,1,1,0,1,0,1,1]
abbrev qbt: List Nat:=[0,1,1,0,1,1,1,0,1,0,1,1]
abbrev qcY: List Nat:=[1,1,1,0,1,1,1,0,1,0,1,1]
abbrev qz: List Nat:=[0,0,1,1,1,1,1,0,1,0,1,1]
abbrev qaz: List Nat:=[1,0,1,1,1,1,1,0,1,0,1,1]
abbrev qA: List Nat:=[0,1,0,1,1,1,1,1,0,1,0,1,1]
abbrev qaA: List Nat:=[1,1,0,1,1,1,1,1,0,1,0,1,1]
abbrev qB: List Nat:=[0,1,1,1,0,1,1,1,1,1,0,1,0,1,1]
abbrev qaB: List Nat:=[1,1,1,1,0,1,1,1,1,1,0,1,0,1,1]
abbrev qan: List Nat:=[0,1,1,1,1,0,1,1,1,1,1,0,1,0,1,1]
abbrev qcZ: List Nat:=[0,1,1,1,1,1,1,0,1,1,1,1,1,0,1,0,1,1]
abbrev qao: List Nat:=[0,0,1,1,1,1,1,1,1,0,1,0,1,1]
abbrev qbJ: List Nat:=[1,0,1,1,1,1,1,1,1,0,1,0,1,1]
abbrev qap: List Nat:=[0,1,0,1,1,1,1,1,1,1,0,1,0,1,1]
abbrev qbK: List Nat:=[1,1,0,1,1,1,1,1,1,1,0,1,0,1,1]
abbrev qda: List Nat:=[0,1,0,1,0,1,1,0,1,1,1,1,1,1,1,0,1,0,1,1]
abbrev qbu: List Nat:=[0,1,1,1,1,1,0,1,1,1,1,1,1,1,0,1,0,1,1]
abbrev qdb: List Nat:=[1,1,1,1,1,1,0,1,1,1,1,1,1,1,0,1,0,1,1]
abbrev qdc: List Nat:=[0,1,1,1,1,1,1,0,1,1,1,1,1,1,1,0,1,0,1,1]
abbrev qbv: List Nat:=[0,0,1,1,1,1,1,1,1,1,1,0,1,0,1,1]
abbrev qdd: List Nat:=[1,0,1,1,1,1,1,1,1,1,1,0,1,0,1,1]
theorem rp_fail(c:Cfg)(q k:Nat)(tp ep i fl sn bk od tm cd:Int)(wa:Option Addr)(wc:Nat)(ws:List Int)(gx:Value)(at_ e_:Int)(hc:c.Ok)(hb0:0≤clsOf c bk):
  Ctr prog 87 #[vP q,vI e_] [Er q c tp ep at_ i fl wa ws.length wc (vP k) gx sn bk od tm cd] (fun v L => ∃(gv:Nat),v=undef∧L=[Er q c tp ep 5 i fl wa ws.length wc (vP k) (vP gv) sn bk od tm e_,EC gv c bk 1 0]):=by
 refine cb 23 func87 fun F=>gX [.e 0,.e 0,.z [1,1] 0 [0]] (gQ q (gQ q (gS [.c [1,1]] (zG (zN [0,1,2,3,4,5,6,7,8] (kV 0 [.w,.w,.w,.w,.e 0,.w,.w,.w,.e 0]) [0,11,12,13,14,15,16,17,18,19] [9] (.e q (.e q .n)) ⟨?_,trivial⟩)))))
 refine zC (some 20) [] call145 (ref_NewGive c bk oM hb0) ?_
 rintro v post ⟨gv_9_1,rfl,rfl⟩
 refine zN [10,11] [(0,.w),(10,.w),(11,.w)] [20,0,11,21,22] [12] .n ⟨?_,trivial⟩
 refine zX (.e 0) (sQ q (sK ?_))
 exact zE [] [] [] .n (gX [] (gJ [0,1] ⟨gv_9_1,rfl,rfl⟩))
theorem rp_Step1W(c:Cfg)(q ra k:Nat)(tp ep i fl sn bk od tm cd:Int)(wa:Option Addr)(wc:Nat)(ws:List Int)(gx:Value)(T:Tk)(A:Ar)(hc:c.Ok)(hn:A.ws.length=A.n)(hs:0≤A.steps∧A.steps≤1000000000)(hz:(A.n:Int)=sizeOfC c)(hR:RngW A.ws)(htp:0≤tp∧tp<c.topics)(hwd:0≤ctlAt c tp∧ctlAt c tp<A.n)(hT:T.Ok c)(hd:(Tk.step c T A).1.ph≠0):
  Ctr prog 40 #[vP q,vP ra] [Er q c tp ep 1 i fl wa ws.length wc (vP k) gx sn bk od tm cd,EQ k c T,Ed ra A false 0,Ea A] (Ret (.bool false) [Er q c tp ep 1 i fl wa ws.length wc (vP k) gx sn bk od tm cd,EQ k c ((Tk.step c T A).1),Ed ra ((Tk.step c T A).2) false 0,Ea ((Tk.step c T A).2)]):=by
 exact cb 235 func40 fun F=>gX [.z [0,1] 0 [0,1]] (gS [.c [0,1],.c [1,1]] (qG (kV 0 [.ww,.ww,.ww,.e 0,.ww,.ww,.ww,.e 0,.q (vI (ctlAt c tp)),.ww]) [0,1,5] (.e q (.e q .n)) (.c call79 (qR [] (ref_Control c tp oM htp)) .n) (gX [.e 0,.e 0,.z qam 5 [0,30,31]] (gQ q (gQ q (gS [.o qam 5,.c qbI,.b 0,.c [1,1,1]] (gC (some 32) [1,2,3] call82 (rtake_Step c k ra T A oM oM oa hz oM hT) (gX [.sp [34,32,6,33] [.dead] [.e 0]] (gQ ((T.step c A).1.ph==0) (gQ ((T.step c A).1.ph==0) (gQ ((T.step c A).1.ph==0) (gF ((T.step c A).1.ph==0) (by simp [hd]) (gQ q (gJ [0,1,2,3] ⟨rfl,rfl⟩))))))))))))))
theorem rp_Step1N(c:Cfg)(q ra k:Nat)(tp ep i fl sn bk od tm cd:Int)(wa:Option Addr)(wc:Nat)(ws:List Int)(gx:Value)(T:Tk)(A:Ar)(hc:c.Ok)(hn:A.ws.length=A.n)(hs:0≤A.steps∧A.steps≤1000000000)(hz:(A.n:Int)=sizeOfC c)(hR:RngW A.ws)(htp:0≤tp∧tp<c.topics)(hwd:0≤ctlAt c tp∧ctlAt c tp<A.n)(hT:T.Ok c)(hd:(Tk.step c T A).1.ph=0)(h0:(Tk.step c T A).1.block=0):
  Ctr prog 40 #[vP q,vP ra] [Er q c tp ep 1 i fl wa ws.length wc (vP k) gx sn bk od tm cd,EQ k c T,Ed ra A false 0,Ea A] (Ret (.bool true) [Er q c tp ep 0 i fl wa ws.length wc (vP k) gx sn bk od tm 18,EQ k c ((Tk.step c T A).1),Ed ra ((Tk.step c T A).2) false 0,Ea ((Tk.step c T A).2)]):=by
 exact cb 235 func40 fun F=>gX [.z [0,1] 0 [0,1]] (gS [.c [0,1],.c [1,1]] (qG (kV 0 [.ww,.ww,.ww,.e 0,.ww,.ww,.ww,.e 0,.q (vI (ctlAt c tp)),.ww]) [0,1,5] (.e q (.e q .n)) (.c call79 (qR [] (ref_Control c tp oM htp)) .n) (gX [.e 0,.e 0,.z qam 5 [0,30,31]] (gQ q (gQ q (gS [.o qam 5,.c qbI,.b 0,.c [1,1,1]] (gC (some 32) [1,2,3] call82 (rtake_Step c k ra T A oM oM oa hz oM hT) (gX [.sp [34,32,6,33] [.e 0,.z qbr 6 [0,6,34,38]] [.dead]] (gQ ((T.step c A).1.ph==0) (gQ ((T.step c A).1.ph==0) (gQ ((T.step c A).1.ph==0) (gT ((T.step c A).1.ph==0) (by simp [hd]) (gQ q (gS [.o qbr 6,.c qcV,.b 0,.c [1,1,1]] (gC (some 39) [1] call83 (rtake_Block c k ((T.step c A).1) hd) (gX [.sp [41,40] [.e 0,.e 0,.e 0] [.dead]] (gQ (((T.step c A).1.block)==0) (gT (((T.step c A).1.block)==0) (beq_iff_eq.2 h0) (gQ q (gQ q (gQ q (gJ [0,3,1,2] ⟨rfl,rfl⟩))))))))))))))))))))))
theorem rp_Step1Y(c:Cfg)(q ra k:Nat)(tp ep i fl sn bk od tm cd:Int)(wa:Option Addr)(wc:Nat)(ws:List Int)(gx:Value)(T:Tk)(A:Ar)(hc:c.Ok)(hn:A.ws.length=A.n)(hs:0≤A.steps∧A.steps≤1000000000)(hz:(A.n:Int)=sizeOfC c)(hR:RngW A.ws)(htp:0≤tp∧tp<c.topics)(hwd:0≤ctlAt c tp∧ctlAt c tp<A.n)(hT:T.Ok c)(hd:(Tk.step c T A).1.ph=0)(h0:(Tk.step c T A).1.block≠0):
  Ctr prog 40 #[vP q,vP ra] [Er q c tp ep 1 i fl wa ws.length wc (vP k) gx sn bk od tm cd,EQ k c T,Ed ra A false 0,Ea A] (Ret (.bool false) [Er q c tp ep 2 i fl wa ws.length wc (vP k) gx sn ((Tk.step c T A).1.block) od tm cd,EQ k c ((Tk.step c T A).1),Ed ra ((Tk.step c T A).2) false 0,Ea ((Tk.step c T A).2)]):=by
 exact cb 235 func40 fun F=>gX [.z [0,1] 0 [0,1]] (gS [.c [0,1],.c [1,1]] (qG (kV 0 [.ww,.ww,.ww,.e 0,.ww,.ww,.ww,.e 0,.q (vI (ctlAt c tp)),.ww]) [0,1,5] (.e q (.e q .n)) (.c call79 (qR [] (ref_Control c tp oM htp)) .n) (gX [.e 0,.e 0,.z qam 5 [0,30,31]] (gQ q (gQ q (gS [.o qam 5,.c qbI,.b 0,.c [1,1,1]] (gC (some 32) [1,2,3] call82 (rtake_Step c k ra T A oM oM oa hz oM hT) (gX [.sp [34,32,6,33] [.e 0,.z qbr 6 [0,6,34,38]] [.dead]] (gQ ((T.step c A).1.ph==0) (gQ ((T.step c A).1.ph==0) (gQ ((T.step c A).1.ph==0) (gT ((T.step c A).1.ph==0) (by simp [hd]) (gQ q (gS [.o qbr 6,.c qcV,.b 0,.c [1,1,1]] (gC (some 39) [1] call83 (rtake_Block c k ((T.step c A).1) hd) (gX [.sp [41,40] [.dead] [.e 0,.z qcW 5 [0,49,53]]] (gQ (((T.step c A).1.block)==0) (gF (((T.step c A).1.block)==0) (beq_eq_false_iff_ne.2 h0) (gQ q (gS [.o qcW 5,.c [1,0,1,1,1,1,0,1,0,1,0,1,1],.b 0,.c [1,1,1]] (gC (some 54) [3] call83 (rtake_Block c k ((T.step c A).1) hd) (gX [.e 0,.e 0,.e 0] (gQ q (gQ q (gQ q (gJ [0,3,1,2] ⟨rfl,rfl⟩))))))))))))))))))))))))))
theorem rp_Step2N(c:Cfg)(q ra k:Nat)(tp ep i fl sn bk od tm cd:Int)(wa:Option Addr)(wc:Nat)(ws:List Int)(gx:Value)(A:Ar)(hc:c.Ok)(hn:A.ws.length=A.n)(hs:0≤A.steps∧A.steps≤1000000000)(hz:(A.n:Int)=sizeOfC c)(hR:RngW A.ws)(htp:0≤tp∧tp<c.topics)(hwd:0≤ctlAt c tp∧ctlAt c tp<A.n)(hcl:0≤clsOf c bk)(hi0:0≤i∧i<(ws.length:Int))(hx:0≤blockAt c bk+1+i∧blockAt c bk+1+i<A.n)(hl:ws.length≤1000000)(hd:i+1≠(ws.length:Int)):
  Ctr prog 40 #[vP q,vP ra] [Er q c tp ep 2 i fl wa ws.length wc (vP k) gx sn bk od tm cd,Ee wa wc ws,Ed ra A false 0,Ea A] (Ret (.bool false) [Er q c tp ep 2 (i+1) fl wa ws.length wc (vP k) gx sn bk od tm cd,Ee wa wc ws,Ed ra (A.store (blockAt c bk+1+i) (ws.getD i.toNat 0)) false 0,Ea (A.store (blockAt c bk+1+i) (ws.getD i.toNat 0))]):=by
 refine cb 235 func40 fun F=>gX [.z [0,1] 0 [0,1]] (gS [.c [0,1],.c [1,1]] (qG (kV 0 [.ww,.ww,.ww,.e 0,.ww,.ww,.ww,.e 0,.q (vI (ctlAt c tp)),.ww]) [0,1,5] (.e q (.e q .n)) (.c call79 (qR [] (ref_Control c tp oM htp)) .n) (gX [.e 0,.z qbs 0 [0,1]] (gQ q (gS [.c qbs,.c qcX,.b 0,.c [1,1,1]] ?_)))))
 refine tC (some 88) (kV 0 [.ww,.ww,.ww,.ww,.e 0,.ww,.ww,.ww,.e 0,.q (vI (blockAt c bk)),.h (.n),.ww,.ww,.ww,.e 0,.h (.n),.ww,.ww,.ww,.e 0,.ww,.ww,.ww,.e 0,.h (.s 1),.h (.j 1 i.toNat)]) 26 [] [2,3] [0] call84 (ref_Store ra A (((blockAt c bk)+1)+i) (ws.getD i.toNat 0) oM hx oM) (.e q (.e q (.p (InK .i64 ((blockAt c bk)+1)) (by have h9:=sizeOfC_ok hc; have h8:=blockAt_ok hc hcl; simp only [InK]; omega) (.e q (.p (InK .i64 (((blockAt c bk)+1)+i)) (by have h9:=sizeOfC_ok hc; have h8:=blockAt_ok hc hcl; simp only [InK]; omega) (.e q (.e q (.p (wa=wa∧ws.length=ws.length) ⟨rfl,oe⟩ (.p ((0:Int)≤i∧i<(ws.length:Int)) oa (.e (slAt wa i.toNat 1) (.p (i.toNat<ws.length) oa .n))))))))))) (.c call85 (qR [] (ref_Block c bk oM (clsOf_ok hcl))) .n) ?_
 rintro v post ⟨rfl,rfl⟩
 refine tN .n ?_
 exact gX [.e 0,.n,.e 0,.z qbt 0 [0]] (gQ q (gO (InK .i64 (i+1)) (by have h9:=sizeOfC_ok hc; have h8:=blockAt_ok hc hcl; simp only [InK]; omega) (gQ q (gS [.c qbt,.c qcY,.b 0,.c [1,1,1]] (qG (kV 0 [.ww,.ww,.ww,.e 0,.ww,.ww,.ww,.e 0,.ww,.t false]) [0,105] (.e q (.e q (.p (((i+1)==(ws.length:Int))=false) (beq_eq_false_iff_ne.2 hd) .n))) .n (gX [.e 0] (gQ q (gJ [0,1,2,3] ⟨rfl,rfl⟩))))))))
theorem rp_Step2Y(c:Cfg)(q ra k:Nat)(tp ep i fl sn bk od tm cd:Int)(wa:Option Addr)(wc:Nat)(ws:List Int)(gx:Value)(A:Ar)(hc:c.Ok)(hn:A.ws.length=A.n)(hs:0≤A.steps∧A.steps≤1000000000)(hz:(A.n:Int)=sizeOfC c)(hR:RngW A.ws)(htp:0≤tp∧tp<c.topics)(hwd:0≤ctlAt c tp∧ctlAt c tp<A.n)(hcl:0≤clsOf c bk)(hi0:0≤i∧i<(ws.length:Int))(hx:0≤blockAt c bk+1+i∧blockAt c bk+1+i<A.n)(hl:ws.length≤1000000)(hd:i+1=(ws.length:Int)):
  Ctr prog 40 #[vP q,vP ra] [Er q c tp ep 2 i fl wa ws.length wc (vP k) gx sn bk od tm cd,Ee wa wc ws,Ed ra A false 0,Ea A] (Ret (.bool false) [Er q c tp ep 3 (i+1) fl wa ws.length wc (vP k) gx sn bk od tm cd,Ee wa wc ws,Ed ra (A.store (blockAt c bk+1+i) (ws.getD i.toNat 0)) false 0,Ea (A.store (blockAt c bk+1+i) (ws.getD i.toNat 0))]):=by
 refine cb 235 func40 fun F=>gX [.z [0,1] 0 [0,1]] (gS [.c [0,1],.c [1,1]] (qG (kV 0 [.ww,.ww,.ww,.e 0,.ww,.ww,.ww,.e 0,.q (vI (ctlAt c tp)),.ww]) [0,1,5] (.e q (.e q .n)) (.c call79 (qR [] (ref_Control c tp oM htp)) .n) (gX [.e 0,.z qbs 0 [0,1]] (gQ q (gS [.c qbs,.c qcX,.b 0,.c [1,1,1]] ?_)))))
 refine tC (some 88) (kV 0 [.ww,.ww,.ww,.ww,.e 0,.ww,.ww,.ww,.e 0,.q (vI (blockAt c bk)),.h (.n),.ww,.ww,.ww,.e 0,.h (.n),.ww,.ww,.ww,.e 0,.ww,.ww,.ww,.e 0,.h (.s 1),.h (.j 1 i.toNat)]) 26 [] [2,3] [0] call84 (ref_Store ra A (((blockAt c bk)+1)+i) (ws.getD i.toNat 0) oM hx oM) (.e q (.e q (.p (InK .i64 ((blockAt c bk)+1)) (by have h9:=sizeOfC_ok hc; have h8:=blockAt_ok hc hcl; simp only [InK]; omega) (.e q (.p (InK .i64 (((blockAt c bk)+1)+i)) (by have h9:=sizeOfC_ok hc; have h8:=blockAt_ok hc hcl; simp only [InK]; omega) (.e q (.e q (.p (wa=wa∧ws.length=ws.length) ⟨rfl,oe⟩ (.p ((0:Int)≤i∧i<(ws.length:Int)) oa (.e (slAt wa i.toNat 1) (.p (i.toNat<ws.length) oa .n))))))))))) (.c call85 (qR [] (ref_Block c bk oM (clsOf_ok hcl))) .n) ?_
 rintro v post ⟨rfl,rfl⟩
 refine tN .n ?_
 exact gX [.e 0,.n,.e 0,.z qbt 0 [0]] (gQ q (gO (InK .i64 (i+1)) (by have h9:=sizeOfC_ok hc; have h8:=blockAt_ok hc hcl; simp only [InK]; omega) (gQ q (gS [.c qbt,.c qcY,.b 0,.c [1,1,1]] (qG (kV 0 [.ww,.ww,.ww,.e 0,.ww,.ww,.ww,.e 0,.ww,.t true]) [0,105] (.e q (.e q (.p (((i+1)==(ws.length:Int))=true) (beq_iff_eq.2 hd) .n))) .n (gX [.e 0,.e 0] (gQ q (gQ q (gJ [0,1,2,3] ⟨rfl,rfl⟩)))))))))
theorem rp_Step3D(c:Cfg)(q ra k:Nat)(tp ep i fl sn bk od tm cd:Int)(wa:Option Addr)(wc:Nat)(ws:List Int)(gx:Value)(A:Ar)(hc:c.Ok)(hn:A.ws.length=A.n)(hs:0≤A.steps∧A.steps≤1000000000)(hz:(A.n:Int)=sizeOfC c)(hR:RngW A.ws)(htp:0≤tp∧tp<c.topics)(hwd:0≤ctlAt c tp∧ctlAt c tp<A.n)(hb0:0≤clsOf c bk)(hl:ctlLive (A.ws.getD (ctlAt c tp).toNat 0)=false):
  Ctr prog 40 #[vP q,vP ra] [Er q c tp ep 3 i fl wa ws.length wc (vP k) gx sn bk od tm cd,Ed ra A false 0,Ea A] (fun v L => ∃(gv:Nat),v = .bool false∧L=[Er q c tp ep 5 i fl wa ws.length wc (vP k) (vP gv) (A.ws.getD (ctlAt c tp).toNat 0) bk od tm 22,Ed ra (A.load (ctlAt c tp)) false 0,Ea (A.load (ctlAt c tp)),EC gv c bk 1 0]):=by
 refine cb 235 func40 fun F=>gX [.z [0,1] 0 [0,1]] (gS [.c [0,1],.c [1,1]] (qG (kV 0 [.ww,.ww,.ww,.e 0,.ww,.ww,.ww,.e 0,.q (vI (ctlAt c tp)),.ww]) [0,1,5] (.e q (.e q .n)) (.c call79 (qR [] (ref_Control c tp oM htp)) .n) (gX [.e 0,.z qz 3 [0,111,112,113]] (gQ q (gS [.o qz 3,.c qaz,.b 0,.c [1,1,1]] (gC (some 114) [1,2] call86 (ref_Load ra A (ctlAt c tp) oM hwd oM) (gX [.e 0,.e 0,.z qA 4 [0,120]] (gQ q (gQ q (gS [.o qA 4,.c qaA,.b 0,.c [1,1,1]] (gC (some 121) [] call34 (r13_Unpack (A.ws.getD (ctlAt c tp).toNat 0) (hR _)) (gX [.e 3,.e 0,.z qB 0 [0,7]] (gN fun b_2=>gQ b_2 (gQ q (gS [.c qB,.c qaB,.b 0,.c [1,1,1]] (qG (kV 0 [.ww,.e 3,.t true,.ww,.ww,.ww,.ww,.ww,.ww,.ww,.ww,.ww,.ww,.ww,.ww,.ww]) [0,7,140] (.e b_2 (.p ((!(ctlLive (A.ws.getD (ctlAt c tp).toNat 0)))=true) (by rw [hl]; try rfl) .n)) .n (gX [.z qan 1 [0,141]] (gS [.o qan 1,.b 0,.c [1,1,1]] ?_))))))))))))))))))
 refine go_call (some 142) [0] call87 (rp_fail c q k tp ep i fl (A.ws.getD (ctlAt c tp).toNat 0) bk od tm cd wa wc ws gx 4 22 oM oM) kR ?_
 rintro v post ⟨gv_3,rfl,rfl⟩
 exact gX [.e 3] (gQ q (gJ [3,0,1,4] ⟨gv_3,rfl,rfl⟩))
theorem rp_Step3E(c:Cfg)(q ra k:Nat)(tp ep i fl sn bk od tm cd:Int)(wa:Option Addr)(wc:Nat)(ws:List Int)(gx:Value)(A:Ar)(hc:c.Ok)(hn:A.ws.length=A.n)(hs:0≤A.steps∧A.steps≤1000000000)(hz:(A.n:Int)=sizeOfC c)(hR:RngW A.ws)(htp:0≤tp∧tp<c.topics)(hwd:0≤ctlAt c tp∧ctlAt c tp<A.n)(hb0:0≤clsOf c bk)(hl:ctlLive (A.ws.getD (ctlAt c tp).toNat 0)=true)(he:ctlEpoch (A.ws.getD (ctlAt c tp).toNat 0)≠ep):
  Ctr prog 40 #[vP q,vP ra] [Er q c tp ep 3 i fl wa ws.length wc (vP k) gx sn bk od tm cd,Ed ra A false 0,Ea A] (fun v L => ∃(gv:Nat),v = .bool false∧L=[Er q c tp ep 5 i fl wa ws.length wc (vP k) (vP gv) (A.ws.getD (ctlAt c tp).toNat 0) bk od tm 22,Ed ra (A.load (ctlAt c tp)) false 0,Ea (A.load (ctlAt c tp)),EC gv c bk 1 0]):=by
 refine cb 235 func40 fun F=>gX [.z [0,1] 0 [0,1]] (gS [.c [0,1],.c [1,1]] (qG (kV 0 [.ww,.ww,.ww,.e 0,.ww,.ww,.ww,.e 0,.q (vI (ctlAt c tp)),.ww]) [0,1,5] (.e q (.e q .n)) (.c call79 (qR [] (ref_Control c tp oM htp)) .n) (gX [.e 0,.z qz 3 [0,111,112,113]] (gQ q (gS [.o qz 3,.c qaz,.b 0,.c [1,1,1]] (gC (some 114) [1,2] call86 (ref_Load ra A (ctlAt c tp) oM hwd oM) (gX [.e 0,.e 0,.z qA 4 [0,120]] (gQ q (gQ q (gS [.o qA 4,.c qaA,.b 0,.c [1,1,1]] (gC (some 121) [] call34 (r13_Unpack (A.ws.getD (ctlAt c tp).toNat 0) (hR _)) (gX [.e 3,.e 0,.z qB 0 [0,7]] (gN fun b_2=>gQ b_2 (gQ q (gS [.c qB,.c qaB,.b 0,.c [1,1,1]] (qG (kV 0 [.ww,.e 3,.t false,.ww,.ww,.e 3,.ww,.ww,.ww,.e 0,.t true,.ww,.ww,.ww,.ww,.ww]) [0,7,140] (.e b_2 (.p ((!(ctlLive (A.ws.getD (ctlAt c tp).toNat 0)))=false) (by rw [hl]; try rfl) (.e b_2 (.e q (.p (((ctlEpoch (A.ws.getD (ctlAt c tp).toNat 0)) != ep)=true) (bne_iff_ne.2 he) .n))))) .n (gX [.z qan 1 [0,141]] (gS [.o qan 1,.b 0,.c [1,1,1]] ?_))))))))))))))))))
 refine go_call (some 142) [0] call87 (rp_fail c q k tp ep i fl (A.ws.getD (ctlAt c tp).toNat 0) bk od tm cd wa wc ws gx 4 22 oM oM) kR ?_
 rintro v post ⟨gv_3,rfl,rfl⟩
 exact gX [.e 3] (gQ q (gJ [3,0,1,4] ⟨gv_3,rfl,rfl⟩))
theorem rp_Step3B(c:Cfg)(q ra k:Nat)(tp ep i fl sn bk od tm cd:Int)(wa:Option Addr)(wc:Nat)(ws:List Int)(gx:Value)(A:Ar)(hc:c.Ok)(hn:A.ws.length=A.n)(hs:0≤A.steps∧A.steps≤1000000000)(hz:(A.n:Int)=sizeOfC c)(hR:RngW A.ws)(htp:0≤tp∧tp<c.topics)(hwd:0≤ctlAt c tp∧ctlAt c tp<A.n)(hb0:0≤clsOf c bk)(hl:ctlLive (A.ws.getD (ctlAt c tp).toNat 0)=true)(he:ctlEpoch (A.ws.getD (ctlAt c tp).toNat 0)=ep)(hb:ctlBusy (A.ws.getD (ctlAt c tp).toNat 0)=true):
  Ctr prog 40 #[vP q,vP ra] [Er q c tp ep 3 i fl wa ws.length wc (vP k) gx sn bk od tm cd,Ed ra A false 0,Ea A] (fun v L => ∃(gv:Nat),v = .bool false∧L=[Er q c tp ep 5 i fl wa ws.length wc (vP k) (vP gv) (A.ws.getD (ctlAt c tp).toNat 0) bk od tm 22,Ed ra (A.load (ctlAt c tp)) false 0,Ea (A.load (ctlAt c tp)),EC gv c bk 1 0]):=by
 refine cb 235 func40 fun F=>gX [.z [0,1] 0 [0,1]] (gS [.c [0,1],.c [1,1]] (qG (kV 0 [.ww,.ww,.ww,.e 0,.ww,.ww,.ww,.e 0,.q (vI (ctlAt c tp)),.ww]) [0,1,5] (.e q (.e q .n)) (.c call79 (qR [] (ref_Control c tp oM htp)) .n) (gX [.e 0,.z qz 3 [0,111,112,113]] (gQ q (gS [.o qz 3,.c qaz,.b 0,.c [1,1,1]] (gC (some 114) [1,2] call86 (ref_Load ra A (ctlAt c tp) oM hwd oM) (gX [.e 0,.e 0,.z qA 4 [0,120]] (gQ q (gQ q (gS [.o qA 4,.c qaA,.b 0,.c [1,1,1]] (gC (some 121) [] call34 (r13_Unpack (A.ws.getD (ctlAt c tp).toNat 0) (hR _)) (gX [.e 3,.e 0,.z qB 0 [0,7]] (gN fun b_2=>gQ b_2 (gQ q (gS [.c qB,.c qaB,.b 0,.c [1,1,1]] (qG (kV 0 [.ww,.e 3,.t false,.ww,.ww,.e 3,.ww,.ww,.ww,.e 0,.t false,.ww,.ww,.ww,.e 3,.t true]) [0,7,140] (.e b_2 (.p ((!(ctlLive (A.ws.getD (ctlAt c tp).toNat 0)))=false) (by rw [hl]; try rfl) (.e b_2 (.e q (.p (((ctlEpoch (A.ws.getD (ctlAt c tp).toNat 0)) != ep)=false) (bne_eq_false_iff_eq.2 he) (.e b_2 (.p ((ctlBusy (A.ws.getD (ctlAt c tp).toNat 0))=true) (by rw [hb]; try rfl) .n))))))) .n (gX [.z qan 1 [0,141]] (gS [.o qan 1,.b 0,.c [1,1,1]] ?_))))))))))))))))))
 refine go_call (some 142) [0] call87 (rp_fail c q k tp ep i fl (A.ws.getD (ctlAt c tp).toNat 0) bk od tm cd wa wc ws gx 4 22 oM oM) kR ?_
 rintro v post ⟨gv_3,rfl,rfl⟩
 exact gX [.e 3] (gQ q (gJ [3,0,1,4] ⟨gv_3,rfl,rfl⟩))
theorem rp_Step3O(c:Cfg)(q ra k:Nat)(tp ep i fl sn bk od tm cd:Int)(wa:Option Addr)(wc:Nat)(ws:List Int)(gx:Value)(A:Ar)(hc:c.Ok)(hn:A.ws.length=A.n)(hs:0≤A.steps∧A.steps≤1000000000)(hz:(A.n:Int)=sizeOfC c)(hR:RngW A.ws)(htp:0≤tp∧tp<c.topics)(hwd:0≤ctlAt c tp∧ctlAt c tp<A.n)(hb0:0≤clsOf c bk)(hl:ctlLive (A.ws.getD (ctlAt c tp).toNat 0)=true)(he:ctlEpoch (A.ws.getD (ctlAt c tp).toNat 0)=ep)(hb:ctlBusy (A.ws.getD (ctlAt c tp).toNat 0)=false)(hg:ctlGen (A.ws.getD (ctlAt c tp).toNat 0)=2147483647):
  Ctr prog 40 #[vP q,vP ra] [Er q c tp ep 3 i fl wa ws.length wc (vP k) gx sn bk od tm cd,Ed ra A false 0,Ea A] (fun v L => ∃(gv:Nat),v = .bool false∧L=[Er q c tp ep 5 i fl wa ws.length wc (vP k) (vP gv) (A.ws.getD (ctlAt c tp).toNat 0) bk od tm 16,Ed ra (A.load (ctlAt c tp)) false 0,Ea (A.load (ctlAt c tp)),EC gv c bk 1 0]):=by
 refine cb 235 func40 fun F=>gX [.z [0,1] 0 [0,1]] (gS [.c [0,1],.c [1,1]] (qG (kV 0 [.ww,.ww,.ww,.e 0,.ww,.ww,.ww,.e 0,.q (vI (ctlAt c tp)),.ww]) [0,1,5] (.e q (.e q .n)) (.c call79 (qR [] (ref_Control c tp oM htp)) .n) (gX [.e 0,.z qz 3 [0,111,112,113]] (gQ q (gS [.o qz 3,.c qaz,.b 0,.c [1,1,1]] (gC (some 114) [1,2] call86 (ref_Load ra A (ctlAt c tp) oM hwd oM) (gX [.e 0,.e 0,.z qA 4 [0,120]] (gQ q (gQ q (gS [.o qA 4,.c qaA,.b 0,.c [1,1,1]] (gC (some 121) [] call34 (r13_Unpack (A.ws.getD (ctlAt c tp).toNat 0) (hR _)) (gX [.e 3,.e 0,.z qB 0 [0,7]] (gN fun b_2=>gQ b_2 (gQ q (gS [.c qB,.c qaB,.b 0,.c [1,1,1]] (qG (kV 0 [.ww,.e 3,.t false,.ww,.ww,.e 3,.ww,.ww,.ww,.e 0,.t false,.ww,.ww,.ww,.e 3,.t false]) [0,7,140] (.e b_2 (.p ((!(ctlLive (A.ws.getD (ctlAt c tp).toNat 0)))=false) (by rw [hl]; try rfl) (.e b_2 (.e q (.p (((ctlEpoch (A.ws.getD (ctlAt c tp).toNat 0)) != ep)=false) (bne_eq_false_iff_eq.2 he) (.e b_2 (.p ((ctlBusy (A.ws.getD (ctlAt c tp).toNat 0))=false) (by rw [hb]; try rfl) .n))))))) .n (gX [.e 3,.sp [145] [.z qcZ 1 [0,146]] [.dead]] (gQ b_2 (gT ((ctlGen (A.ws.getD (ctlAt c tp).toNat 0))==2147483647) (beq_iff_eq.2 hg) (gS [.o qcZ 1,.b 0,.c [1,1,1]] ?_))))))))))))))))))))
 refine go_call (some 147) [0] call87 (rp_fail c q k tp ep i fl (A.ws.getD (ctlAt c tp).toNat 0) bk od tm cd wa wc ws gx 4 16 oM oM) kR ?_
 rintro v post ⟨gv_3,rfl,rfl⟩
 exact gX [.e 3] (gQ q (gJ [3,0,1,4] ⟨gv_3,rfl,rfl⟩))
theorem rp_Step3K(c:Cfg)(q ra k:Nat)(tp ep i fl sn bk od tm cd:Int)(wa:Option Addr)(wc:Nat)(ws:List Int)(gx:Value)(A:Ar)(hc:c.Ok)(hn:A.ws.length=A.n)(hs:0≤A.steps∧A.steps≤1000000000)(hz:(A.n:Int)=sizeOfC c)(hR:RngW A.ws)(htp:0≤tp∧tp<c.topics)(hwd:0≤ctlAt c tp∧ctlAt c tp<A.n)(hb0:0≤clsOf c bk)(hl:ctlLive (A.ws.getD (ctlAt c tp).toNat 0)=true)(he:ctlEpoch (A.ws.getD (ctlAt c tp).toNat 0)=ep)(hb:ctlBusy (A.ws.getD (ctlAt c tp).toNat 0)=false)(hg:ctlGen (A.ws.getD (ctlAt c tp).toNat 0)≠2147483647):
  Ctr prog 40 #[vP q,vP ra] [Er q c tp ep 3 i fl wa ws.length wc (vP k) gx sn bk od tm cd,Ed ra A false 0,Ea A] (Ret (.bool false) [Er q c tp ep 4 i fl wa ws.length wc (vP k) gx (A.ws.getD (ctlAt c tp).toNat 0) bk od tm cd,Ed ra (A.load (ctlAt c tp)) false 0,Ea (A.load (ctlAt c tp))]):=by
 exact cb 235 func40 fun F=>gX [.z [0,1] 0 [0,1]] (gS [.c [0,1],.c [1,1]] (qG (kV 0 [.ww,.ww,.ww,.e 0,.ww,.ww,.ww,.e 0,.q (vI (ctlAt c tp)),.ww]) [0,1,5] (.e q (.e q .n)) (.c call79 (qR [] (ref_Control c tp oM htp)) .n) (gX [.e 0,.z qz 3 [0,111,112,113]] (gQ q (gS [.o qz 3,.c qaz,.b 0,.c [1,1,1]] (gC (some 114) [1,2] call86 (ref_Load ra A (ctlAt c tp) oM hwd oM) (gX [.e 0,.e 0,.z qA 4 [0,120]] (gQ q (gQ q (gS [.o qA 4,.c qaA,.b 0,.c [1,1,1]] (gC (some 121) [] call34 (r13_Unpack (A.ws.getD (ctlAt c tp).toNat 0) (hR _)) (gX [.e 3,.e 0,.z qB 0 [0,7]] (gN fun b_2=>gQ b_2 (gQ q (gS [.c qB,.c qaB,.b 0,.c [1,1,1]] (qG (kV 0 [.ww,.e 3,.t false,.ww,.ww,.e 3,.ww,.ww,.ww,.e 0,.t false,.ww,.ww,.ww,.e 3,.t false]) [0,7,140] (.e b_2 (.p ((!(ctlLive (A.ws.getD (ctlAt c tp).toNat 0)))=false) (by rw [hl]; try rfl) (.e b_2 (.e q (.p (((ctlEpoch (A.ws.getD (ctlAt c tp).toNat 0)) != ep)=false) (bne_eq_false_iff_eq.2 he) (.e b_2 (.p ((ctlBusy (A.ws.getD (ctlAt c tp).toNat 0))=false) (by rw [hb]; try rfl) .n))))))) .n (gX [.e 3,.sp [145] [.dead] [.e 0]] (gQ b_2 (gF ((ctlGen (A.ws.getD (ctlAt c tp).toNat 0))==2147483647) (beq_eq_false_iff_ne.2 hg) (gQ q (gJ [0,1,2] ⟨rfl,rfl⟩)))))))))))))))))))))
theorem rp_Step4T(c:Cfg)(q ra k:Nat)(tp ep i fl sn bk od tm cd:Int)(wa:Option Addr)(wc:Nat)(ws:List Int)(gx:Value)(A:Ar)(hc:c.Ok)(hn:A.ws.length=A.n)(hs:0≤A.steps∧A.steps≤1000000000)(hz:(A.n:Int)=sizeOfC c)(hR:RngW A.ws)(htp:0≤tp∧tp<c.topics)(hwd:0≤ctlAt c tp∧ctlAt c tp<A.n)(hU:U64 sn)(hl:ctlLive sn=true)(hb:ctlBusy sn=false)(hg:ctlGen sn≠2147483647)(hbk:1≤bk∧bk≤65535)(hb0:0≤clsOf c bk)(hf:0≤fl∧fl≤1000)(hq:(A.ws.getD (ctlAt c tp).toNat 0)=sn):
  Ctr prog 40 #[vP q,vP ra] [Er q c tp ep 4 i fl wa ws.length wc (vP k) gx sn bk od tm cd,Ed ra A false 0,Ea A] (Ret (.bool true) [Er q c tp ep 0 i fl wa ws.length wc (vP k) gx sn 0 (ctlBlock sn) (A.steps+1) cd,Ed ra (A.swapT (ctlAt c tp) (pubW sn bk)) false 0,Ea (A.swapT (ctlAt c tp) (pubW sn bk))]):=by
 exact cb 235 func40 fun F=>gX [.z [0,1] 0 [0,1]] (gS [.c [0,1],.c [1,1]] (qG (kV 0 [.ww,.ww,.ww,.e 0,.ww,.ww,.ww,.e 0,.q (vI (ctlAt c tp)),.ww]) [0,1,5] (.e q (.e q .n)) (.c call79 (qR [] (ref_Control c tp oM htp)) .n) (gX [.e 0,.z qao 0 [0,1,5]] (gQ q (gS [.c qao,.c qbJ,.b 0,.c [1,1,1]] (qG (kV 0 [.ww,.ww,.ww,.e 0,.ww,.ww,.ww,.e 0,.q (.tuple #[vU (pubW sn bk),vI 0]),.ww,.ww,.ww,.ww,.ww]) [0,1,5,8] (.e q (.e q .n)) (.c call88 (qR [] (r13_Published sn bk hU hl hb hg hbk)) .n) (gX [.e 0,.z qap 7 [0,1,162,163,167,168]] (gQ q (gS [.o qap 7,.c qbK,.b 0,.c [1,1,1]] (gC (some 169) [1,2] call89 (ref_SwapT ra A (ctlAt c tp) sn (pubW sn bk) oM hwd oM hq) (gX [.e 0,.e 0,.z qda 5 [0,1,174,178]] (gQ q (gQ q (gS [.o qda 5,.c [1,1,0,1,0,1,1,0,1,1,1,1,1,1,1,0,1,0,1,1],.c [1,1,1,0,1,1,1,1,1,1,1,0,1,0,1,1],.b 0,.c [1,1,1]] (gC (some 179) [] call34 (r13_Unpack sn hU) (gX [.e 0,.e 0,.e 1,.e 0,.e 0] (gQ q (gQ q (gQ ra (gQ q (gQ q (gJ [0,1,2] ⟨rfl,rfl⟩))))))))))))))))))))))
theorem rp_Step4R(c:Cfg)(q ra k:Nat)(tp ep i fl sn bk od tm cd:Int)(wa:Option Addr)(wc:Nat)(ws:List Int)(gx:Value)(A:Ar)(hc:c.Ok)(hn:A.ws.length=A.n)(hs:0≤A.steps∧A.steps≤1000000000)(hz:(A.n:Int)=sizeOfC c)(hR:RngW A.ws)(htp:0≤tp∧tp<c.topics)(hwd:0≤ctlAt c tp∧ctlAt c tp<A.n)(hU:U64 sn)(hl:ctlLive sn=true)(hb:ctlBusy sn=false)(hg:ctlGen sn≠2147483647)(hbk:1≤bk∧bk≤65535)(hb0:0≤clsOf c bk)(hf:0≤fl∧fl≤1000)(hq:(A.ws.getD (ctlAt c tp).toNat 0)≠sn)(hr:fl+1=c.retry):
  Ctr prog 40 #[vP q,vP ra] [Er q c tp ep 4 i fl wa ws.length wc (vP k) gx sn bk od tm cd,Ed ra A false 0,Ea A] (fun v L => ∃(gv:Nat),v = .bool false∧L=[Er q c tp ep 5 i (fl+1) wa ws.length wc (vP k) (vP gv) sn bk od tm 17,Ed ra (A.swapF (ctlAt c tp)) false 0,Ea (A.swapF (ctlAt c tp)),EC gv c bk 1 0]):=by
 refine cb 235 func40 fun F=>gX [.z [0,1] 0 [0,1]] (gS [.c [0,1],.c [1,1]] (qG (kV 0 [.ww,.ww,.ww,.e 0,.ww,.ww,.ww,.e 0,.q (vI (ctlAt c tp)),.ww]) [0,1,5] (.e q (.e q .n)) (.c call79 (qR [] (ref_Control c tp oM htp)) .n) (gX [.e 0,.z qao 0 [0,1,5]] (gQ q (gS [.c qao,.c qbJ,.b 0,.c [1,1,1]] (qG (kV 0 [.ww,.ww,.ww,.e 0,.ww,.ww,.ww,.e 0,.q (.tuple #[vU (pubW sn bk),vI 0]),.ww,.ww,.ww,.ww,.ww]) [0,1,5,8] (.e q (.e q .n)) (.c call88 (qR [] (r13_Published sn bk hU hl hb hg hbk)) .n) (gX [.e 0,.z qap 7 [0,1,162,163,167,168]] (gQ q (gS [.o qap 7,.c qbK,.b 0,.c [1,1,1]] (gC (some 169) [1,2] call89 (ref_SwapF ra A (ctlAt c tp) sn (pubW sn bk) oM hwd oM hq) (gX [.e 0,.n,.e 0,.e 0,.z qbu 0 [0]] (gQ q (gO (InK .i64 (fl+1)) oh (gQ q (gQ q (gS [.c qbu,.c qdb,.b 0,.c [1,1,1]] (qG (kV 0 [.ww,.ww,.ww,.e 0,.ww,.ww,.ww,.ww,.e 0,.t true]) [0,212] (.e q (.e q (.p (((fl+1)==c.retry)=true) (beq_iff_eq.2 hr) .n))) .n (gX [.z qdc 1 [0,213]] (gS [.o qdc 1,.b 0,.c [1,1,1]] ?_)))))))))))))))))))
 refine go_call (some 214) [0] call87 (rp_fail c q k tp ep i (fl+1) sn bk od tm cd wa wc ws gx 3 17 oM oM) kR ?_
 rintro v post ⟨gv_1,rfl,rfl⟩
 exact gX [.e 2] (gQ q (gJ [2,0,1,3] ⟨gv_1,rfl,rfl⟩))
theorem rp_Step4N(c:Cfg)(q ra k:Nat)(tp ep i fl sn bk od tm cd:Int)(wa:Option Addr)(wc:Nat)(ws:List Int)(gx:Value)(A:Ar)(hc:c.Ok)(hn:A.ws.length=A.n)(hs:0≤A.steps∧A.steps≤1000000000)(hz:(A.n:Int)=sizeOfC c)(hR:RngW A.ws)(htp:0≤tp∧tp<c.topics)(hwd:0≤ctlAt c tp∧ctlAt c tp<A.n)(hU:U64 sn)(hl:ctlLive sn=true)(hb:ctlBusy sn=false)(hg:ctlGen sn≠2147483647)(hbk:1≤bk∧bk≤65535)(hb0:0≤clsOf c bk)(hf:0≤fl∧fl≤1000)(hq:(A.ws.getD (ctlAt c tp).toNat 0)≠sn)(hr:fl+1≠c.retry):
  Ctr prog 40 #[vP q,vP ra] [Er q c tp ep 4 i fl wa ws.length wc (vP k) gx sn bk od tm cd,Ed ra A false 0,Ea A] (Ret (.bool false) [Er q c tp ep 3 i (fl+1) wa ws.length wc (vP k) gx sn bk od tm cd,Ed ra (A.swapF (ctlAt c tp)) false 0,Ea (A.swapF (ctlAt c tp))]):=by
 exact cb 235 func40 fun F=>gX [.z [0,1] 0 [0,1]] (gS [.c [0,1],.c [1,1]] (qG (kV 0 [.ww,.ww,.ww,.e 0,.ww,.ww,.ww,.e 0,.q (vI (ctlAt c tp)),.ww]) [0,1,5] (.e q (.e q .n)) (.c call79 (qR [] (ref_Control c tp oM htp)) .n) (gX [.e 0,.z qao 0 [0,1,5]] (gQ q (gS [.c qao,.c qbJ,.b 0,.c [1,1,1]] (qG (kV 0 [.ww,.ww,.ww,.e 0,.ww,.ww,.ww,.e 0,.q (.tuple #[vU (pubW sn bk),vI 0]),.ww,.ww,.ww,.ww,.ww]) [0,1,5,8] (.e q (.e q .n)) (.c call88 (qR [] (r13_Published sn bk hU hl hb hg hbk)) .n) (gX [.e 0,.z qap 7 [0,1,162,163,167,168]] (gQ q (gS [.o qap 7,.c qbK,.b 0,.c [1,1,1]] (gC (some 169) [1,2] call89 (ref_SwapF ra A (ctlAt c tp) sn (pubW sn bk) oM hwd oM hq) (gX [.e 0,.n,.e 0,.e 0,.z qbu 0 [0]] (gQ q (gO (InK .i64 (fl+1)) oh (gQ q (gQ q (gS [.c qbu,.c qdb,.b 0,.c [1,1,1]] (qG (kV 0 [.ww,.ww,.ww,.e 0,.ww,.ww,.ww,.ww,.e 0,.t false]) [0,212] (.e q (.e q (.p (((fl+1)==c.retry)=false) (beq_eq_false_iff_ne.2 hr) .n))) .n (gX [.e 0] (gQ q (gJ [0,1,2] ⟨rfl,rfl⟩))))))))))))))))))))
theorem rp_Step5W(c:Cfg)(q ra k:Nat)(tp ep i fl sn bk od tm cd:Int)(wa:Option Addr)(wc:Nat)(ws:List Int)(gb:Nat)(G:Gv)(A:Ar)(hc:c.Ok)(hn:A.ws.length=A.n)(hs:0≤A.steps∧A.steps≤1000000000)(hz:(A.n:Int)=sizeOfC c)(hR:RngW A.ws)(htp:0≤tp∧tp<c.topics)(hwd:0≤ctlAt c tp∧ctlAt c tp<A.n)(hG:GvR c G)(hd:(Gv.step c G A).1.ph≠0):
  Ctr prog 40 #[vP q,vP ra] [Er q c tp ep 5 i fl wa ws.length wc (vP k) (vP gb) sn bk od tm cd,EG gb c G,Ed ra A false 0,Ea A] (Ret (.bool false) [Er q c tp ep 5 i fl wa ws.length wc (vP k) (vP gb) sn bk od tm cd,EG gb c ((Gv.step c G A).1),Ed ra ((Gv.step c G A).2) false 0,Ea ((Gv.step c G A).2)]):=by
 exact cb 235 func40 fun F=>gX [.z [0,1] 0 [0,1]] (gS [.c [0,1],.c [1,1]] (qG (kV 0 [.ww,.ww,.ww,.e 0,.ww,.ww,.ww,.e 0,.q (vI (ctlAt c tp)),.ww]) [0,1,5] (.e q (.e q .n)) (.c call79 (qR [] (ref_Control c tp oM htp)) .n) (gX [.e 0,.e 0,.z qbv 5 [0,220,221]] (gQ q (gQ q (gS [.o qbv 5,.c qdd,.b 0,.c [1,1,1]] (gC (some 222) [1,2,3] call90 (ref_give_Step c gb ra G A oM oM oa hz hG) (gX [.sp [223,222,11] [.dead] [.e 0]] (gQ ((G.step c A).1.ph==0) (gQ ((G.step c A).1.ph==0) (gF ((G.step c A).1.ph==0) (by simp [hd]) (gQ q (gJ [0,1,2,3] ⟨rfl,rfl⟩)))))))))))))
theorem rp_Step5Y(c:Cfg)(q ra k:Nat)(tp ep i fl sn bk od tm cd:Int)(wa:Option Addr)(wc:Nat)(ws:List Int)(gb:Nat)(G:Gv)(A:Ar)(hc:c.Ok)(hn:A.ws.length=A.n)(hs:0≤A.steps∧A.steps≤1000000000)(hz:(A.n:Int)=sizeOfC c)(hR:RngW A.ws)(htp:0≤tp∧tp<c.topics)(hwd:0≤ctlAt c tp∧ctlAt c tp<A.n)(hG:GvR c G)(hd:(Gv.step c G A).1.ph=0):
  Ctr prog 40 #[vP q,vP ra] [Er q c tp ep 5 i fl wa ws.length wc (vP k) (vP gb) sn bk od tm cd,EG gb c G,Ed ra A false 0,Ea A] (Ret (.bool true) [Er q c tp ep 0 i fl wa ws.length wc (vP k) (vP gb) sn 0 od tm cd,EG gb c ((Gv.step c G A).1),Ed ra ((Gv.step c G A).2) false 0,Ea ((Gv.step c G A).2)]):=by
 exact cb 235 func40 fun F=>gX [.z [0,1] 0 [0,1]] (gS [.c [0,1],.c [1,1]] (qG (kV 0 [.ww,.ww,.ww,.e 0,.ww,.ww,.ww,.e 0,.q (vI (ctlAt c tp)),.ww]) [0,1,5] (.e q (.e q .n)) (.c call79 (qR [] (ref_Control c tp oM htp)) .n) (gX [.e 0,.e 0,.z qbv 5 [0,220,221]] (gQ q (gQ q (gS [.o qbv 5,.c qdd,.b 0,.c [1,1,1]] (gC (some 222) [1,2,3] call90 (ref_give_Step c gb ra G A oM oM oa hz hG) (gX [.sp [223,222,11] [.e 0,.e 0,.e 0] [.dead]] (gQ ((G.step c A).1.ph==0) (gQ ((G.step c A).1.ph==0) (gT ((G.step c A).1.ph==0) (by simp [hd]) (gQ q (gQ q (gQ q (gJ [0,1,2,3] ⟨rfl,rfl⟩)))))))))))))))
theorem rp_Step0(c:Cfg)(q ra k:Nat)(tp ep i fl sn bk od tm cd:Int)(wa:Option Addr)(wc:Nat)(ws:List Int)(gx:Value)(A:Ar)(hc:c.Ok)(htp:0≤tp∧tp<c.topics):
  Ctr prog 40 #[vP q,vP ra] [Er q c tp ep 0 i fl wa ws.length wc (vP k) gx sn bk od tm cd,Ed ra A false 0,Ea A] (Ret (.bool true) [Er q c tp ep 0 i fl wa ws.length wc (vP k) gx sn bk od tm cd,Ed ra A false 0,Ea A]):=by
 exact cb 235 func40 fun F=>gX [.z [0,1] 0 [0,1]] (gS [.c [0,1],.c [1,1]] (qG (kV 0 [.ww,.ww,.ww,.e 0,.ww,.ww,.ww,.e 0,.q (vI (ctlAt c tp)),.ww]) [0,1,5] (.e q (.e q .n)) (.c call79 (qR [] (ref_Control c tp oM htp)) .n) (gX [.e 0,.e 0] (gQ q (gQ q (gJ [0,1,2] ⟨rfl,rfl⟩))))))
end Go.Proofs.YtpcaijopodhdgaaGreatDoor
namespace Go.Proofs.YtpcaijopodhdgaaGreatDoor
open Go.Proofs.Tryz
open Go.Sx
abbrev Eap(x0:Nat)(c1:Cfg)(x2:Int)(x3:Int)(x4:Nat)(x5:Int)(x6:Int)(x7:Option Addr)(x8:Nat)(x9:Nat)(x10:Value)(x11:Value)(x12:Int)(x13:Int)(x14:Int)(x15:Int)(x16:Int): Ent:=.pts x0 [.int .i64 c1.topics,.int .i64 c1.small,.int .i64 c1.slots,.int .i64 c1.clients,.int .i64 c1.s0,.int .i64 c1.n0,.int .i64 c1.s1,.int .i64 c1.n1,.int .i64 c1.retry,.int .i64 x2,.int .i64 x3,.int .i64 ((x4:Nat):Int),.int .i64 x5,.int .i64 x6,.slice x7 x8 x9,x10,x11,.int .u64 x12,.int .i64 x13,.int .i64 x14,.int .i64 x15,.int .i64 x16] 91
structure PqbH where
 wa:Option Addr
 wc:Nat
 k:Nat
 gb:Nat
 gx:Value
def gxV(h:PqbH): Nat→Value
 | 5=>vP h.gb
 | _=>h.gx
noncomputable def gvQ(c:Cfg)(b:Nat)(S:Pb): List Ent:=match S.ph with
 | 5=>[EG b c S.gv]
 | _=>[]
noncomputable def pqbL(q:Nat)(c:Cfg)(ep:Int)(ws:List Int)(S:Pb)(h:PqbH): List Ent:=[Eap q c 0 ep S.ph S.i S.failed h.wa ws.length h.wc (vP h.k) (gxV h S.ph) S.seen S.block S.old S.time S.code,EQ h.k c S.tk,Ee h.wa h.wc ws,.res (dens (gvQ c h.gb S))]
noncomputable def PbQ(q:Nat)(c:Cfg)(ep:Int)(ws:List Int)(S:Pb): Res:=Box (fun _:PqbH=>True) (pqbL q c ep ws S)
theorem rpub_Step(c:Cfg)(q ra:Nat)(ep:Int)(ws:List Int)(S:Pb)(A:Ar)(hc:c.Ok)(hn:A.ws.length=A.n)(hs:0≤A.steps∧A.steps≤1000000000)(hz:(A.n:Int)=sizeOfC c)(hR:RngW A.ws)(hS:S.Ok c ws):
  Ctr prog 40 #[vP q,vP ra] [.res (PbQ q c ep ws S),Ed ra A false 0,Ea A] (Ret (.bool ((S.step c (ctlAt c 0) ep ws A).1.ph==0)) [.res (PbQ q c ep ws ((S.step c (ctlAt c 0) ep ws A).1)),Ed ra ((S.step c (ctlAt c 0) ep ws A).2) false 0,Ea ((S.step c (ctlAt c 0) ep ws A).2)]):=by
 refine oC (I:=fun _:PqbH=>True) (LL:=pqbL q c ep ws S) 0 ?_
 rintro⟨wa,wc,k,gb,gx⟩ -
 obtain⟨tk,i,sn,fl,bk,od,tm,cd,gv,ph⟩:=S
 obtain⟨h1,h2,h3,hne,h4,h5,h6,h7,h8,h9,h10,h11,h12,h13,h14,h15,h16,h17,hc0,h18⟩:=hS
 simp only at h1 h2 h3 h4 h5 h6 h7 h8 h9 h10 h11 h12 h13 h14 h15 h16 h17 h18 hc0
 have hc':=hc
 simp only [Cfg.Ok] at hc'
 have htp:(0:Int)≤0∧(0:Int)<c.topics:=by omega
 have hwd:0≤ctlAt c 0∧ctlAt c 0<A.n:=by have:=ctl0_ok hc; omega
 have hk0:=h2.cls
 have hfl:0≤fl∧fl≤1000:=by omega
 have hsz:=sizeOfC_ok hc
 match ph,h1 with
 | 0,_=>
  have e:Pb.step c (ctlAt c 0) ep ws (⟨tk,i,sn,fl,bk,od,tm,cd,gv,0⟩:Pb) A=((⟨tk,i,sn,fl,bk,od,tm,cd,gv,0⟩:Pb),A):=by unfold Pb.step; simp only; skip
  rw [e]
  refine cP [2,0,1] (rp_Step0 c q ra k 0 ep i fl sn bk od tm cd wa wc ws gx A hc htp) ?_
  rintro v post ⟨rfl,rfl⟩
  exact⟨_,(((vC [])).trans (vK (fun _:PqbH=>True) (pqbL q c ep ws (⟨tk,i,sn,fl,bk,od,tm,cd,gv,0⟩:Pb)) ⟨wa,wc,k,gb,gx⟩ [3,0,1,6] trivial)).trans (vQ [3,1,2]),rfl,rfl⟩
 | 1,_=>
  by_cases hd:(Tk.step c tk A).1.ph=0
  ·by_cases h0:(Tk.step c tk A).1.block=0
   ·skip
    have e:Pb.step c (ctlAt c 0) ep ws (⟨tk,i,sn,fl,bk,od,tm,cd,gv,1⟩:Pb) A=((⟨(Tk.step c tk A).1,i,sn,fl,bk,od,tm,18,gv,0⟩:Pb),(Tk.step c tk A).2):=by unfold Pb.step; simp only; rw [if_pos hd,if_pos h0]
    rw [e]
    refine cP [2,3,0,1] (rp_Step1N c q ra k 0 ep i fl sn bk od tm cd wa wc ws gx tk A hc hn hs hz hR htp hwd h2 hd h0) ?_
    rintro v post ⟨rfl,rfl⟩
    exact⟨_,(((vC [])).trans (vK (fun _:PqbH=>True) (pqbL q c ep ws (⟨(Tk.step c tk A).1,i,sn,fl,bk,od,tm,18,gv,0⟩:Pb)) ⟨wa,wc,k,gb,gx⟩ [2,3,0,6] trivial)).trans (vQ [3,1,2]),rfl,rfl⟩
   ·skip
    have e:Pb.step c (ctlAt c 0) ep ws (⟨tk,i,sn,fl,bk,od,tm,cd,gv,1⟩:Pb) A=((⟨(Tk.step c tk A).1,i,sn,fl,(Tk.step c tk A).1.block,od,tm,cd,gv,2⟩:Pb),(Tk.step c tk A).2):=by unfold Pb.step; simp only; rw [if_pos hd,if_neg h0]
    rw [e]
    refine cP [2,3,0,1] (rp_Step1Y c q ra k 0 ep i fl sn bk od tm cd wa wc ws gx tk A hc hn hs hz hR htp hwd h2 hd h0) ?_
    rintro v post ⟨rfl,rfl⟩
    exact⟨_,(((vC [])).trans (vK (fun _:PqbH=>True) (pqbL q c ep ws (⟨(Tk.step c tk A).1,i,sn,fl,(Tk.step c tk A).1.block,od,tm,cd,gv,2⟩:Pb)) ⟨wa,wc,k,gb,gx⟩ [2,3,0,6] trivial)).trans (vQ [3,1,2]),rfl,rfl⟩
  ·skip
   have e:Pb.step c (ctlAt c 0) ep ws (⟨tk,i,sn,fl,bk,od,tm,cd,gv,1⟩:Pb) A=((⟨(Tk.step c tk A).1,i,sn,fl,bk,od,tm,cd,gv,1⟩:Pb),(Tk.step c tk A).2):=by unfold Pb.step; simp only; rw [if_neg hd]
   rw [e]
   refine cP [2,3,0,1] (rp_Step1W c q ra k 0 ep i fl sn bk od tm cd wa wc ws gx tk A hc hn hs hz hR htp hwd h2 hd) ?_
   rintro v post ⟨rfl,rfl⟩
   exact⟨_,(((vC [])).trans (vK (fun _:PqbH=>True) (pqbL q c ep ws (⟨(Tk.step c tk A).1,i,sn,fl,bk,od,tm,cd,gv,1⟩:Pb)) ⟨wa,wc,k,gb,gx⟩ [2,3,0,6] trivial)).trans (vQ [3,1,2]),rfl,rfl⟩
 | 2,_=>
  have hcb:=h11 oc oc
  have hcl:0≤clsOf c bk:=by omega
  have hbf:=blockAt_fit hc hcl
  have hbl:=blockAt_ok hc hcl
  have hi2:=h6 rfl
  rw [←hcb] at h4
  have hzk:=szK_ok hc (clsOf c bk)
  have hi0:0≤i∧i<(ws.length:Int):=⟨h5.1,hi2⟩
  have hx:0≤blockAt c bk+1+i∧blockAt c bk+1+i<A.n:=by omega
  have hlw:ws.length≤1000000:=by omega
  by_cases hd:i+1=(ws.length:Int)
  ·skip
   have e:Pb.step c (ctlAt c 0) ep ws (⟨tk,i,sn,fl,bk,od,tm,cd,gv,2⟩:Pb) A=((⟨tk,i+1,sn,fl,bk,od,tm,cd,gv,3⟩:Pb),(A.store (blockAt c bk+1+i) (ws.getD i.toNat 0))):=by unfold Pb.step; simp only; rw [if_pos hd]
   rw [e]
   refine cP [2,4,0,1] (rp_Step2Y c q ra k 0 ep i fl sn bk od tm cd wa wc ws gx A hc hn hs hz hR htp hwd hcl hi0 hx hlw hd) ?_
   rintro v post ⟨rfl,rfl⟩
   exact⟨_,(((vC [])).trans (vK (fun _:PqbH=>True) (pqbL q c ep ws (⟨tk,i+1,sn,fl,bk,od,tm,cd,gv,3⟩:Pb)) ⟨wa,wc,k,gb,gx⟩ [2,0,3,6] trivial)).trans (vQ [3,1,2]),rfl,rfl⟩
  ·skip
   have e:Pb.step c (ctlAt c 0) ep ws (⟨tk,i,sn,fl,bk,od,tm,cd,gv,2⟩:Pb) A=((⟨tk,i+1,sn,fl,bk,od,tm,cd,gv,2⟩:Pb),(A.store (blockAt c bk+1+i) (ws.getD i.toNat 0))):=by unfold Pb.step; simp only; rw [if_neg hd]
   rw [e]
   refine cP [2,4,0,1] (rp_Step2N c q ra k 0 ep i fl sn bk od tm cd wa wc ws gx A hc hn hs hz hR htp hwd hcl hi0 hx hlw hd) ?_
   rintro v post ⟨rfl,rfl⟩
   exact⟨_,(((vC [])).trans (vK (fun _:PqbH=>True) (pqbL q c ep ws (⟨tk,i+1,sn,fl,bk,od,tm,cd,gv,2⟩:Pb)) ⟨wa,wc,k,gb,gx⟩ [2,0,3,6] trivial)).trans (vQ [3,1,2]),rfl,rfl⟩
 | 3,_=>
  have hcb:=h11 oc oc
  have hcl:0≤clsOf c bk:=by omega
  cases hl:ctlLive (A.ws.getD (ctlAt c 0).toNat 0) with
  | false=>
   have e:Pb.step c (ctlAt c 0) ep ws (⟨tk,i,sn,fl,bk,od,tm,cd,gv,3⟩:Pb) A=((⟨tk,i,(A.ws.getD (ctlAt c 0).toNat 0),fl,bk,od,tm,22,newGv c bk,5⟩:Pb),(A.load (ctlAt c 0))):=by unfold Pb.step; simp only; rw [if_neg (by rw [hl]; simp)]; rfl
   rw [e]
   refine cP [2,0,1] (rp_Step3D c q ra k 0 ep i fl sn bk od tm cd wa wc ws gx A hc hn hs hz hR htp hwd hcl hl) ?_
   rintro v post ⟨gv_1,rfl,rfl⟩
   exact⟨_,(((vC [6])).trans (vK (fun _:PqbH=>True) (pqbL q c ep ws (⟨tk,i,(A.ws.getD (ctlAt c 0).toNat 0),fl,bk,od,tm,22,newGv c bk,5⟩:Pb)) ⟨wa,wc,k,gv_1,gx⟩ [3,0,1,6] trivial)).trans (vQ [3,1,2]),rfl,rfl⟩
  | true=>
   by_cases he:ctlEpoch (A.ws.getD (ctlAt c 0).toNat 0)=ep
   ·cases hb:ctlBusy (A.ws.getD (ctlAt c 0).toNat 0) with
    | true=>
     have e:Pb.step c (ctlAt c 0) ep ws (⟨tk,i,sn,fl,bk,od,tm,cd,gv,3⟩:Pb) A=((⟨tk,i,(A.ws.getD (ctlAt c 0).toNat 0),fl,bk,od,tm,22,newGv c bk,5⟩:Pb),(A.load (ctlAt c 0))):=by unfold Pb.step; simp only; rw [if_neg (fun h=>by rw [hb] at h; simp at h)]; rfl
     rw [e]
     refine cP [2,0,1] (rp_Step3B c q ra k 0 ep i fl sn bk od tm cd wa wc ws gx A hc hn hs hz hR htp hwd hcl hl he hb) ?_
     rintro v post ⟨gv_1,rfl,rfl⟩
     exact⟨_,(((vC [6])).trans (vK (fun _:PqbH=>True) (pqbL q c ep ws (⟨tk,i,(A.ws.getD (ctlAt c 0).toNat 0),fl,bk,od,tm,22,newGv c bk,5⟩:Pb)) ⟨wa,wc,k,gv_1,gx⟩ [3,0,1,6] trivial)).trans (vQ [3,1,2]),rfl,rfl⟩
    | false=>
     by_cases hg:ctlGen (A.ws.getD (ctlAt c 0).toNat 0)=2147483647
     ·skip
      have e:Pb.step c (ctlAt c 0) ep ws (⟨tk,i,sn,fl,bk,od,tm,cd,gv,3⟩:Pb) A=((⟨tk,i,(A.ws.getD (ctlAt c 0).toNat 0),fl,bk,od,tm,16,newGv c bk,5⟩:Pb),(A.load (ctlAt c 0))):=by unfold Pb.step; simp only; rw [if_pos ⟨hl,he,hb⟩,if_pos hg]; rfl
      rw [e]
      refine cP [2,0,1] (rp_Step3O c q ra k 0 ep i fl sn bk od tm cd wa wc ws gx A hc hn hs hz hR htp hwd hcl hl he hb hg) ?_
      rintro v post ⟨gv_1,rfl,rfl⟩
      exact⟨_,(((vC [6])).trans (vK (fun _:PqbH=>True) (pqbL q c ep ws (⟨tk,i,(A.ws.getD (ctlAt c 0).toNat 0),fl,bk,od,tm,16,newGv c bk,5⟩:Pb)) ⟨wa,wc,k,gv_1,gx⟩ [3,0,1,6] trivial)).trans (vQ [3,1,2]),rfl,rfl⟩
     ·skip
      have e:Pb.step c (ctlAt c 0) ep ws (⟨tk,i,sn,fl,bk,od,tm,cd,gv,3⟩:Pb) A=((⟨tk,i,(A.ws.getD (ctlAt c 0).toNat 0),fl,bk,od,tm,cd,gv,4⟩:Pb),(A.load (ctlAt c 0))):=by unfold Pb.step; simp only; rw [if_pos ⟨hl,he,hb⟩,if_neg hg]
      rw [e]
      refine cP [2,0,1] (rp_Step3K c q ra k 0 ep i fl sn bk od tm cd wa wc ws gx A hc hn hs hz hR htp hwd hcl hl he hb hg) ?_
      rintro v post ⟨rfl,rfl⟩
      exact⟨_,(((vC [])).trans (vK (fun _:PqbH=>True) (pqbL q c ep ws (⟨tk,i,(A.ws.getD (ctlAt c 0).toNat 0),fl,bk,od,tm,cd,gv,4⟩:Pb)) ⟨wa,wc,k,gb,gx⟩ [3,0,1,6] trivial)).trans (vQ [3,1,2]),rfl,rfl⟩
   ·skip
    have e:Pb.step c (ctlAt c 0) ep ws (⟨tk,i,sn,fl,bk,od,tm,cd,gv,3⟩:Pb) A=((⟨tk,i,(A.ws.getD (ctlAt c 0).toNat 0),fl,bk,od,tm,22,newGv c bk,5⟩:Pb),(A.load (ctlAt c 0))):=by unfold Pb.step; simp only; rw [if_neg (fun h=>he h.2.1)]; rfl
    rw [e]
    refine cP [2,0,1] (rp_Step3E c q ra k 0 ep i fl sn bk od tm cd wa wc ws gx A hc hn hs hz hR htp hwd hcl hl he) ?_
    rintro v post ⟨gv_1,rfl,rfl⟩
    exact⟨_,(((vC [6])).trans (vK (fun _:PqbH=>True) (pqbL q c ep ws (⟨tk,i,(A.ws.getD (ctlAt c 0).toNat 0),fl,bk,od,tm,22,newGv c bk,5⟩:Pb)) ⟨wa,wc,k,gv_1,gx⟩ [3,0,1,6] trivial)).trans (vQ [3,1,2]),rfl,rfl⟩
 | 4,_=>
  have hcb:=h11 oc oc
  have hcl:0≤clsOf c bk:=by omega
  have hbk:1≤bk∧bk≤65535:=by have:=clsOf_ok hcl; omega
  have hcd0:=h17 oc oc
  obtain⟨hl,hb,hg⟩:=h15 rfl
  by_cases hq:(A.ws.getD (ctlAt c 0).toNat 0)=sn
  ·skip
   have e:Pb.step c (ctlAt c 0) ep ws (⟨tk,i,sn,fl,bk,od,tm,cd,gv,4⟩:Pb) A=((⟨tk,i,sn,fl,0,ctlBlock sn,A.steps+1,cd,gv,0⟩:Pb),(A.swapT (ctlAt c 0) (pubW sn bk))):=by unfold Pb.step; simp only; rw [if_pos hq,hcd0]
   rw [e]
   refine cP [2,0,1] (rp_Step4T c q ra k 0 ep i fl sn bk od tm cd wa wc ws gx A hc hn hs hz hR htp hwd h8 hl hb hg hbk hcl hfl hq) ?_
   rintro v post ⟨rfl,rfl⟩
   exact⟨_,(((vC [])).trans (vK (fun _:PqbH=>True) (pqbL q c ep ws (⟨tk,i,sn,fl,0,ctlBlock sn,A.steps+1,cd,gv,0⟩:Pb)) ⟨wa,wc,k,gb,gx⟩ [3,0,1,6] trivial)).trans (vQ [3,1,2]),rfl,rfl⟩
  ·by_cases hr:fl+1=c.retry
   ·skip
    have e:Pb.step c (ctlAt c 0) ep ws (⟨tk,i,sn,fl,bk,od,tm,cd,gv,4⟩:Pb) A=((⟨tk,i,sn,fl+1,bk,od,tm,17,newGv c bk,5⟩:Pb),(A.swapF (ctlAt c 0))):=by unfold Pb.step; simp only; rw [if_neg hq,if_pos hr]; rfl
    rw [e]
    refine cP [2,0,1] (rp_Step4R c q ra k 0 ep i fl sn bk od tm cd wa wc ws gx A hc hn hs hz hR htp hwd h8 hl hb hg hbk hcl hfl hq hr) ?_
    rintro v post ⟨gv_1,rfl,rfl⟩
    exact⟨_,(((vC [6])).trans (vK (fun _:PqbH=>True) (pqbL q c ep ws (⟨tk,i,sn,fl+1,bk,od,tm,17,newGv c bk,5⟩:Pb)) ⟨wa,wc,k,gv_1,gx⟩ [3,0,1,6] trivial)).trans (vQ [3,1,2]),rfl,rfl⟩
   ·skip
    have e:Pb.step c (ctlAt c 0) ep ws (⟨tk,i,sn,fl,bk,od,tm,cd,gv,4⟩:Pb) A=((⟨tk,i,sn,fl+1,bk,od,tm,cd,gv,3⟩:Pb),(A.swapF (ctlAt c 0))):=by unfold Pb.step; simp only; rw [if_neg hq,if_neg hr]
    rw [e]
    refine cP [2,0,1] (rp_Step4N c q ra k 0 ep i fl sn bk od tm cd wa wc ws gx A hc hn hs hz hR htp hwd h8 hl hb hg hbk hcl hfl hq hr) ?_
    rintro v post ⟨rfl,rfl⟩
    exact⟨_,(((vC [])).trans (vK (fun _:PqbH=>True) (pqbL q c ep ws (⟨tk,i,sn,fl+1,bk,od,tm,cd,gv,3⟩:Pb)) ⟨wa,wc,k,gb,gx⟩ [3,0,1,6] trivial)).trans (vQ [3,1,2]),rfl,rfl⟩
 | 5,_=>
  have hgv:=(h16 rfl).1
  by_cases hd:(Gv.step c gv A).1.ph=0
  ·skip
   have e:Pb.step c (ctlAt c 0) ep ws (⟨tk,i,sn,fl,bk,od,tm,cd,gv,5⟩:Pb) A=((⟨tk,i,sn,fl,0,od,tm,cd,(Gv.step c gv A).1,0⟩:Pb),(Gv.step c gv A).2):=by unfold Pb.step; simp only; rw [if_pos hd]
   rw [e]
   refine ctr_view (view_open 5 (N:=[EG gb c gv]) (M:=[Ed ra A false 0,Ea A,Er q c 0 ep 5 i fl wa ws.length wc (vP k) (vP gb) sn bk od tm cd,EQ k c tk,Ee wa wc ws]) kR) ?_
   refine cP [2,5,0,1] (rp_Step5Y c q ra k 0 ep i fl sn bk od tm cd wa wc ws gb gv A hc hn hs hz hR htp hwd hgv hd) ?_
   rintro v post ⟨rfl,rfl⟩
   exact⟨_,(((vC [])).trans (vK (fun _:PqbH=>True) (pqbL q c ep ws (⟨tk,i,sn,fl,0,od,tm,cd,(Gv.step c gv A).1,0⟩:Pb)) ⟨wa,wc,k,gb,(vP gb)⟩ [2,0,1,6] trivial)).trans (vQ [3,1,2]),rfl,rfl⟩
  ·skip
   have e:Pb.step c (ctlAt c 0) ep ws (⟨tk,i,sn,fl,bk,od,tm,cd,gv,5⟩:Pb) A=((⟨tk,i,sn,fl,bk,od,tm,cd,(Gv.step c gv A).1,5⟩:Pb),(Gv.step c gv A).2):=by unfold Pb.step; simp only; rw [if_neg hd]
   rw [e]
   refine ctr_view (view_open 5 (N:=[EG gb c gv]) (M:=[Ed ra A false 0,Ea A,Er q c 0 ep 5 i fl wa ws.length wc (vP k) (vP gb) sn bk od tm cd,EQ k c tk,Ee wa wc ws]) kR) ?_
   refine cP [2,5,0,1] (rp_Step5W c q ra k 0 ep i fl sn bk od tm cd wa wc ws gb gv A hc hn hs hz hR htp hwd hgv hd) ?_
   rintro v post ⟨rfl,rfl⟩
   exact⟨_,(((vC [3])).trans (vK (fun _:PqbH=>True) (pqbL q c ep ws (⟨tk,i,sn,fl,bk,od,tm,cd,(Gv.step c gv A).1,5⟩:Pb)) ⟨wa,wc,k,gb,gx⟩ [2,0,1,5] trivial)).trans (vQ [2,0,1]),rfl,rfl⟩
 | n+6,h=>omega
end Go.Proofs.YtpcaijopodhdgaaGreatDoor
namespace Go.Proofs.YtpcaijopodhdgaaGreatDoor
open Go.Proofs.Tryz
open Go.Sx
abbrev EI(x0:Nat)(c1:Cfg)(x2:Int)(x3:Int)(x4:Int)(x5:Int)(x6:Value)(x7:Value)(x8:Value)(x9:Value)(x10:Int)(x11:Int)(x12:Int): Ent:=.pts x0 [.int .i64 c1.topics,.int .i64 c1.small,.int .i64 c1.slots,.int .i64 c1.clients,.int .i64 c1.s0,.int .i64 c1.n0,.int .i64 c1.s1,.int .i64 c1.n1,.int .i64 c1.retry,.int .i64 x2,.int .i64 x3,.int .i64 x4,.int .i64 x5,x6,x7,x8,x9,.int .i64 x10,.int .i64 x11,.int .i64 x12] 97
abbrev EB(x0:Nat)(c1:Cfg)(x2:Int)(x3:Int)(x4:Int)(x5:Int)(x6:Value)(x7:Value)(x8:Value)(x9:Option Addr)(x10:Nat)(x11:Nat)(x12:Int)(x13:Int)(x14:Int): Ent:=.pts x0 [.int .i64 c1.topics,.int .i64 c1.small,.int .i64 c1.slots,.int .i64 c1.clients,.int .i64 c1.s0,.int .i64 c1.n0,.int .i64 c1.s1,.int .i64 c1.n1,.int .i64 c1.retry,.int .i64 x2,.int .i64 x3,.int .i64 x4,.int .i64 x5,x6,x7,x8,.slice x9 x10 x11,.int .i64 x12,.int .i64 x13,.int .i64 x14] 97
abbrev qaq: List Nat:=[0,0,1,0,1,0,1]
abbrev qbL: List Nat:=[1,0,1,0,1,0,1]
abbrev qbw: List Nat:=[0,1,0,1,0,1,0,1]
abbrev qde: List Nat:=[1,1,0,1,0,1,0,1]
abbrev qdf: List Nat:=[0,0,1,1,1,1,0,1,0,1,0,1]
abbrev qdg: List Nat:=[0,1,0,1,1,1,1,0,1,0,1,0,1]
abbrev qdh: List Nat:=[0,1,1,0,1,1,1,1,0,1,0,1,0,1]
abbrev qar: List Nat:=[0,0,1,1,1,0,1,0,1]
abbrev qbM: List Nat:=[1,0,1,1,1,0,1,0,1]
abbrev qac: List Nat:=[0,1,0,1,1,1,1,1,0,1,0,1]
abbrev qbx: List Nat:=[1,1,0,1,1,1,1,1,0,1,0,1]
abbrev qad: List Nat:=[0,1,1,0,1,1,1,1,1,0,1,0,1]
abbrev qby: List Nat:=[1,1,1,0,1,1,1,1,1,0,1,0,1]
abbrev qdi: List Nat:=[0,0,1,1,1,1,1,1,1,0,1,0,1]
theorem rr_Step1W(c:Cfg)(q ra kb:Nat)(cl tp ep sl cm cd:Int)(gx lx wv:Value)(K:Cl)(A:Ar)(hc:c.Ok)(hn:A.ws.length=A.n)(hs:0≤A.steps∧A.steps≤1000000000)(hz:(A.n:Int)=sizeOfC c)(hK:Cl.Ok c K)(ha:(Cl.step c K A).1.at_≠-1):
  Ctr prog 42 #[vP q,vP ra] [EI q c cl tp ep 1 (vP kb) gx lx wv sl cm cd,EL kb c K,Ed ra A false 0,Ea A] (Ret (.bool false) [EI q c cl tp ep 1 (vP kb) gx lx wv sl cm cd,EL kb c ((Cl.step c K A).1),Ed ra ((Cl.step c K A).2) false 0,Ea ((Cl.step c K A).2)]):=by
 exact cb 197 func42 fun F=>gX [.e 0,.e 0,.z qaq 5 [0,17,18]] (gQ q (gQ q (gS [.o qaq 5,.c qbL,.b 0,.c [1,1]] (gC (some 19) [1,2,3] call93 (rclaim_Step c kb ra K A oM oM oM oM hK) (gX [.sp [21,19,5,20] [.dead] [.e 0]] (gQ ((K.step c A).1.at_ == -1) (gQ ((K.step c A).1.at_ == -1) (gQ ((K.step c A).1.at_ == -1) (gF ((K.step c A).1.at_ == -1) (by simp [ha]) (gQ q (gJ [0,1,2,3] ⟨rfl,rfl⟩)))))))))))
theorem rr_Step1N(c:Cfg)(q ra kb:Nat)(cl tp ep sl cm cd:Int)(gx lx wv:Value)(K:Cl)(A:Ar)(hc:c.Ok)(hn:A.ws.length=A.n)(hs:0≤A.steps∧A.steps≤1000000000)(hz:(A.n:Int)=sizeOfC c)(hK:Cl.Ok c K)(ha:(Cl.step c K A).1.at_ = -1)(hq:(Cl.step c K A).1.slot<0):
  Ctr prog 42 #[vP q,vP ra] [EI q c cl tp ep 1 (vP kb) gx lx wv sl cm cd,EL kb c K,Ed ra A false 0,Ea A] (Ret (.bool true) [EI q c cl tp ep 0 (vP kb) gx lx wv sl cm 19,EL kb c ((Cl.step c K A).1),Ed ra ((Cl.step c K A).2) false 0,Ea ((Cl.step c K A).2)]):=by
 exact cb 197 func42 fun F=>gX [.e 0,.e 0,.z qaq 5 [0,17,18]] (gQ q (gQ q (gS [.o qaq 5,.c qbL,.b 0,.c [1,1]] (gC (some 19) [1,2,3] call93 (rclaim_Step c kb ra K A oM oM oM oM hK) (gX [.sp [21,19,5,20] [.e 0,.z qbw 6 [0,5,21,25]] [.dead]] (gQ ((K.step c A).1.at_ == -1) (gQ ((K.step c A).1.at_ == -1) (gQ ((K.step c A).1.at_ == -1) (gT ((K.step c A).1.at_ == -1) (by simp [ha]) (gQ q (gS [.o qbw 6,.c qde,.b 0,.c [1,1]] (gC (some 26) [1] call94 (rclaim_Slot c kb ((K.step c A).1) ha) (gX [.sp [28,27] [.e 0,.e 0,.e 0] [.dead]] (gQ (decide (((K.step c A).1.slot)<0)) (gT (decide (((K.step c A).1.slot)<0)) (decide_eq_true hq) (gQ q (gQ q (gQ q (gJ [0,3,1,2] ⟨rfl,rfl⟩)))))))))))))))))))
theorem rr_Step1Y(c:Cfg)(q ra kb:Nat)(cl tp ep sl cm cd:Int)(gx lx wv:Value)(K:Cl)(A:Ar)(hc:c.Ok)(hn:A.ws.length=A.n)(hs:0≤A.steps∧A.steps≤1000000000)(hz:(A.n:Int)=sizeOfC c)(hK:Cl.Ok c K)(ha:(Cl.step c K A).1.at_ = -1)(hq:¬(Cl.step c K A).1.slot<0)(hsl:0≤(Cl.step c K A).1.slot∧(Cl.step c K A).1.slot<c.slots)(hcl:0≤cl∧cl<c.clients)(htp:0≤tp∧tp<c.topics):
  Ctr prog 42 #[vP q,vP ra] [EI q c cl tp ep 1 (vP kb) gx lx wv sl cm cd,EL kb c K,Ed ra A false 0,Ea A] (fun v L => ∃(gb:Nat) (lb:Nat),v = .bool false∧L=[EI q c cl tp ep 2 (vP kb) (vP gb) (vP lb) wv ((Cl.step c K A).1.slot) cm cd,EL kb c ((Cl.step c K A).1),Ed ra ((Cl.step c K A).2) false 0,Ea ((Cl.step c K A).2),Es gb c (newGu c cl (Cl.step c K A).1.slot tp ep) ((Cl.step c K A).1.slot) tp,EF lb c ((Cl.step c K A).1.slot) false]):=by
 refine cb 197 func42 fun F=>gX [.e 0,.e 0,.z qaq 5 [0,17,18]] (gQ q (gQ q (gS [.o qaq 5,.c qbL,.b 0,.c [1,1]] (gC (some 19) [1,2,3] call93 (rclaim_Step c kb ra K A oM oM oM oM hK) (gX [.sp [21,19,5,20] [.e 0,.z qbw 6 [0,5,21,25]] [.dead]] (gQ ((K.step c A).1.at_ == -1) (gQ ((K.step c A).1.at_ == -1) (gQ ((K.step c A).1.at_ == -1) (gT ((K.step c A).1.at_ == -1) (by simp [ha]) (gQ q (gS [.o qbw 6,.c qde,.b 0,.c [1,1]] (gC (some 26) [1] call94 (rclaim_Slot c kb ((K.step c A).1) ha) (gX [.sp [28,27] [.dead] [.e 0,.z qdf 5 [0,36,40]]] (gQ (decide (((K.step c A).1.slot)<0)) (gF (decide (((K.step c A).1.slot)<0)) (decide_eq_false hq) (gQ q (gS [.o qdf 5,.c [1,0,1,1,1,1,0,1,0,1,0,1],.b 0,.c [1,1]] (gC (some 41) [3] call94 (rclaim_Slot c kb ((K.step c A).1) ha) (gX [.e 0,.z qdg 0 [0]] (gQ q (gS [.c qdg,.c [1,1,0,1,1,1,1,0,1,0,1,0,1],.b 0,.c [1,1]] (zG (zN [0,1,2,3,4,5,6,7,8,9,10,11,12,13,14,15,16,17,18,19,20] (kV 0 [.w,.w,.w,.w,.e 0,.w,.w,.w,.e 0,.w,.w,.w,.e 0,.w,.w,.w,.e 0,.w,.w,.w,.e 0]) [0,44,45,46,47,48,49,50,51,52,53,54,55,56,57,58,59,60,61,62,63,64] [21] (.e q (.e q (.e q (.e q (.e q .n))))) ⟨?_,trivial⟩)))))))))))))))))))))))
 refine zC (some 65) [] call95 (ref14_New c cl ((K.step c A).1.slot) tp ep oM hcl hsl htp) ?_
 rintro v post ⟨g_21_1,rfl,rfl⟩
 refine zN [22,23] [(0,.w),(22,.w),(23,.w)] [65,0,44,66,67] [24] .n ⟨?_,trivial⟩
 refine zX (.e 0) (sQ q (sK ?_))
 refine zE [] [] [0] .n (gX [.z qdh 0 [0]] (gS [.c qdh,.c [1,1,1,0,1,1,1,1,0,1,0,1,0,1],.b 0,.c [1,1]] (zG (zN [0,1,2,3,4,5,6,7,8] (kV 0 [.w,.w,.w,.w,.e 0,.w,.w,.w,.e 0]) [0,68,69,70,71,72,73,74,75,76] [9] (.e q (.e q .n)) ⟨?_,trivial⟩))))
 refine zC (some 77) [] call96 (rnew_Release c ((K.step c A).1.slot) oM hsl) ?_
 rintro v post ⟨r_9_1r1,rfl,rfl⟩
 refine zN [10,11] [(0,.w),(10,.w),(11,.w)] [77,0,68,78,79] [12] .n ⟨?_,trivial⟩
 refine zX (.e 0) (sQ q (sK ?_))
 exact zE [] [] [0] .n (gX [.e 0,.e 0] (gQ q (gQ q (gJ [0,3,1,2,4,5] ⟨g_21_1,r_9_1r1,rfl,rfl⟩))))
theorem rr_Step2W(c:Cfg)(q ra gb lb:Nat)(cl tp ep sl cm cd:Int)(kx wv:Value)(G:Gu)(A:Ar)(hc:c.Ok)(hn:A.ws.length=A.n)(hs:0≤A.steps∧A.steps≤1000000000)(hR:RngW A.ws)(hG:Gu.Ok c A.n G)(htp:0≤tp∧tp<c.topics)(hsk:InK .i64 sl)(hwq:G.word=ctlAt c tp)(hsq:G.slot=slotAt c sl)(hd:(Gu.step c.retry G A).1.ph≠0):
  Ctr prog 42 #[vP q,vP ra] [EI q c cl tp ep 2 kx (vP gb) (vP lb) wv sl cm cd,Es gb c G sl tp,Ed ra A false 0,Ea A] (Ret (.bool false) [EI q c cl tp ep 2 kx (vP gb) (vP lb) wv sl cm cd,Es gb c ((Gu.step c.retry G A).1) sl tp,Ed ra ((Gu.step c.retry G A).2) false 0,Ea ((Gu.step c.retry G A).2)]):=by
 exact cb 197 func42 fun F=>gX [.e 0,.e 0,.z qar 5 [0,88,89]] (gQ q (gQ q (gS [.o qar 5,.c qbM,.b 0,.c [1,1]] (gC (some 90) [1,2,3] call97 (ref14_Step c gb ra sl tp G A hc hn hs hR hG htp hsk hwq hsq) (gX [.sp [91,90,6] [.dead] [.e 0]] (gQ ((G.step c.retry A).1.ph==0) (gQ ((G.step c.retry A).1.ph==0) (gF ((G.step c.retry A).1.ph==0) (by simp [hd]) (gQ q (gJ [0,1,2,3] ⟨rfl,rfl⟩))))))))))
theorem rr_Step2K(c:Cfg)(q ra gb lb:Nat)(cl tp ep sl cm cd:Int)(kx wv:Value)(G:Gu)(A:Ar)(hc:c.Ok)(hn:A.ws.length=A.n)(hs:0≤A.steps∧A.steps≤1000000000)(hR:RngW A.ws)(hG:Gu.Ok c A.n G)(htp:0≤tp∧tp<c.topics)(hsk:InK .i64 sl)(hwq:G.word=ctlAt c tp)(hsq:G.slot=slotAt c sl)(hd:(Gu.step c.retry G A).1.ph=0)(he:(Gu.step c.retry G A).1.code=0):
  Ctr prog 42 #[vP q,vP ra] [EI q c cl tp ep 2 kx (vP gb) (vP lb) wv sl cm cd,Es gb c G sl tp,Ed ra A false 0,Ea A] (Ret (.bool false) [EI q c cl tp ep 3 kx (vP gb) (vP lb) wv sl ((Gu.step c.retry G A).1.commit) ((Gu.step c.retry G A).1.code),Es gb c ((Gu.step c.retry G A).1) sl tp,Ed ra ((Gu.step c.retry G A).2) false 0,Ea ((Gu.step c.retry G A).2)]):=by
 exact cb 197 func42 fun F=>gX [.e 0,.e 0,.z qar 5 [0,88,89]] (gQ q (gQ q (gS [.o qar 5,.c qbM,.b 0,.c [1,1]] (gC (some 90) [1,2,3] call97 (ref14_Step c gb ra sl tp G A hc hn hs hR hG htp hsk hwq hsq) (gX [.sp [91,90,6] [.e 0,.e 1,.e 0,.e 0,.e 1,.e 0,.e 0,.e 0,.sp [119] [.dead] [.e 0]] [.dead]] (gQ ((G.step c.retry A).1.ph==0) (gQ ((G.step c.retry A).1.ph==0) (gT ((G.step c.retry A).1.ph==0) (by simp [hd]) (gQ q (gQ gb (gQ q (gQ q (gQ gb (gQ q (gQ q (gQ q (gF (((G.step c.retry A).1.code) != 0) (bne_eq_false_iff_eq.2 he) (gQ q (gJ [0,1,2,3] ⟨rfl,rfl⟩)))))))))))))))))))
theorem rr_Step2E(c:Cfg)(q ra gb lb:Nat)(cl tp ep sl cm cd:Int)(kx wv:Value)(G:Gu)(A:Ar)(hc:c.Ok)(hn:A.ws.length=A.n)(hs:0≤A.steps∧A.steps≤1000000000)(hR:RngW A.ws)(hG:Gu.Ok c A.n G)(htp:0≤tp∧tp<c.topics)(hsk:InK .i64 sl)(hwq:G.word=ctlAt c tp)(hsq:G.slot=slotAt c sl)(hd:(Gu.step c.retry G A).1.ph=0)(he:(Gu.step c.retry G A).1.code≠0):
  Ctr prog 42 #[vP q,vP ra] [EI q c cl tp ep 2 kx (vP gb) (vP lb) wv sl cm cd,Es gb c G sl tp,Ed ra A false 0,Ea A] (Ret (.bool false) [EI q c cl tp ep 4 kx (vP gb) (vP lb) wv sl ((Gu.step c.retry G A).1.commit) ((Gu.step c.retry G A).1.code),Es gb c ((Gu.step c.retry G A).1) sl tp,Ed ra ((Gu.step c.retry G A).2) false 0,Ea ((Gu.step c.retry G A).2)]):=by
 exact cb 197 func42 fun F=>gX [.e 0,.e 0,.z qar 5 [0,88,89]] (gQ q (gQ q (gS [.o qar 5,.c qbM,.b 0,.c [1,1]] (gC (some 90) [1,2,3] call97 (ref14_Step c gb ra sl tp G A hc hn hs hR hG htp hsk hwq hsq) (gX [.sp [91,90,6] [.e 0,.e 1,.e 0,.e 0,.e 1,.e 0,.e 0,.e 0,.sp [119] [.e 0,.e 0] [.dead]] [.dead]] (gQ ((G.step c.retry A).1.ph==0) (gQ ((G.step c.retry A).1.ph==0) (gT ((G.step c.retry A).1.ph==0) (by simp [hd]) (gQ q (gQ gb (gQ q (gQ q (gQ gb (gQ q (gQ q (gQ q (gT (((G.step c.retry A).1.code) != 0) (bne_iff_ne.2 he) (gQ q (gQ q (gJ [0,1,2,3] ⟨rfl,rfl⟩))))))))))))))))))))
theorem ref_ClassK0(c:Cfg)(k:Int)(hc:c.Ok)(hk:clsOf c k=0):
  Ctr prog 98 #[cfgV c,vI k] [] (Ret (vI 0) []):=by
 have h:=ref_Class c k hc
 rw [hk] at h
 exact h
theorem ref_ClassK1(c:Cfg)(k:Int)(hc:c.Ok)(hk:clsOf c k=1):
  Ctr prog 98 #[cfgV c,vI k] [] (Ret (vI 1) []):=by
 have h:=ref_Class c k hc
 rw [hk] at h
 exact h
theorem rr_Step3N0(c:Cfg)(q ra gb:Nat)(cl tp ep sl cm cd:Int)(kx lx:Value)(wa:Option Addr)(wc:Nat)(ws:List Int)(G:Gu)(A:Ar)(hc:c.Ok)(hn:A.ws.length=A.n)(hs:0≤A.steps∧A.steps≤1000000000)(hz:(A.n:Int)=sizeOfC c)(hk:clsOf c G.block=0)(hx:0≤(blockAt c G.block+1+(ws.length:Int))∧(blockAt c G.block+1+(ws.length:Int))<A.n)(hl:ws.length≤1000)(hd:(ws.length:Int)+1≠szK c (clsOf c G.block)):
  Ctr prog 42 #[vP q,vP ra] [EB q c cl tp ep 3 kx (vP gb) lx wa ws.length wc sl cm cd,Es gb c G sl tp,Ee wa wc ws,Ed ra A false 0,Ea A] (fun v L => ∃(wa2:Option Addr) (wc2:Nat),v = .bool false∧L=[EB q c cl tp ep 3 kx (vP gb) lx wa2 ((ws++[A.ws.getD (blockAt c G.block+1+(ws.length:Int)).toNat 0]).length) wc2 sl cm cd,Es gb c G sl tp,Ee wa2 wc2 (ws++[A.ws.getD (blockAt c G.block+1+(ws.length:Int)).toNat 0]),Ed ra (A.load (blockAt c G.block+1+(ws.length:Int))) false 0,Ea (A.load (blockAt c G.block+1+(ws.length:Int)))]):=by
 refine cb 197 func42 fun F=>gX [.e 0,.e 0,.e 1,.z qac 0 [0,1,7]] (gQ q (gQ q (gQ gb (gS [.c qac,.c qbx,.b 0,.c [1,1]] (zG (zN [0,1,2,3,4,5,6,7,8,9,10,11,12,13,14,15,16,17,18] (kV 0 [.w,.w,.w,.w,.e 0,.w,.w,.w,.w,.e 0,.w,.q (vI (blockAt c G.block)),.h (.n),.w,.w,.w,.e 0,.w,.h (.n)]) [0,1,7,132,133,134,135,136,137,138,139,140,141,142,143,144,145,146,147,148,149,150] [19] (.e q (.e q (.q (lQ [] call85 (ref_Block c G.block oM (clsOf_ok oa))) (.p (InK .i64 ((blockAt c G.block)+1)) (by have h9:=sizeOfC_ok hc; simp only [InK]; omega) (.e q (.p (InK .i64 (((blockAt c G.block)+1)+(ws.length:Int))) (by have h9:=sizeOfC_ok hc; simp only [InK]; omega) .n)))))) ⟨?_,trivial⟩))))))
 refine zC (some 151) [3,4] call86 (ref_Load ra A (((blockAt c G.block)+1)+(ws.length:Int)) oM hx oM) ?_
 rintro v post ⟨rfl,rfl⟩
 refine zN [] (kV 0 [.w,.w,.w,.w,.e 0]) [151,0,7,132,133,134,135,136] [20] (.e q .n) ⟨?_,trivial⟩
 refine zX .w (sN fun b_20_1=>(sV ?_))
 refine zN [] (kV 0 [.w,.w,.w,.w,.e 0]) [152,0,7,132,133,134,135,136] [21] (.e q .n) ⟨?_,trivial⟩
 refine zB (some 153) (appO prog _) (some (.slice wa (ws).length wc,.slice (some ⟨b_20_1,0,none⟩) 1 1,(60,1,8))) (R_append 2 (a:=wa) (c:=wc) (enc:=encI .u64) (d:=0) (sz:=1) (xs:=ws) (te:=60) kR (.slice (some ⟨b_20_1,0,none⟩) 1 1) [(A.ws.getD (((blockAt c G.block)+1)+(ws.length:Int)).toNat 0)] (src_pts (i:=5) (t:=60) kR) (oneI _) 8 oW oW) ?_
 rintro v L2 ⟨a_21_1,c_21_1,rfl,rfl⟩
 refine zN [22,23] [(0,.w),(22,.w),(23,.w)] [153,0,7,132,154,155] [24] .n ⟨?_,trivial⟩
 refine zX (.e 0) (sQ q (sK ?_))
 exact zE [] [] [0,7] .n (gX [.z qad 0 [0,7]] (gS [.c qad,.c qby,.b 0,.c [1,1]] (qG (kV 0 [.ww,.ww,.ww,.e 0,.ww,.ww,.ww,.ww,.ww,.e 0,.ww,.q (vI 0),.ww,.ww,.ww,.ww,.ww,.e 0,.t false]) [0,174] (.e q (.e q (.e q (.p (((((ws++[(A.ws.getD (((blockAt c G.block)+1)+(ws.length:Int)).toNat 0)]).length:Nat):Int)==c.s0)=false) (beq_eq_false_iff_ne.2 (by have h9:=hd; rw [hk] at h9; unfold szK at h9; simp at h9 ⊢; omega)) .n)))) (.c call98 (qR [] (ref_ClassK0 c G.block oM oM)) .n) (gX [.e 0] (gQ q (gJ [0,1,2,3,4] ⟨a_21_1,c_21_1,rfl,rfl⟩))))))
theorem rr_Step3N1(c:Cfg)(q ra gb:Nat)(cl tp ep sl cm cd:Int)(kx lx:Value)(wa:Option Addr)(wc:Nat)(ws:List Int)(G:Gu)(A:Ar)(hc:c.Ok)(hn:A.ws.length=A.n)(hs:0≤A.steps∧A.steps≤1000000000)(hz:(A.n:Int)=sizeOfC c)(hk:clsOf c G.block=1)(hx:0≤(blockAt c G.block+1+(ws.length:Int))∧(blockAt c G.block+1+(ws.length:Int))<A.n)(hl:ws.length≤1000)(hd:(ws.length:Int)+1≠szK c (clsOf c G.block)):
  Ctr prog 42 #[vP q,vP ra] [EB q c cl tp ep 3 kx (vP gb) lx wa ws.length wc sl cm cd,Es gb c G sl tp,Ee wa wc ws,Ed ra A false 0,Ea A] (fun v L => ∃(wa2:Option Addr) (wc2:Nat),v = .bool false∧L=[EB q c cl tp ep 3 kx (vP gb) lx wa2 ((ws++[A.ws.getD (blockAt c G.block+1+(ws.length:Int)).toNat 0]).length) wc2 sl cm cd,Es gb c G sl tp,Ee wa2 wc2 (ws++[A.ws.getD (blockAt c G.block+1+(ws.length:Int)).toNat 0]),Ed ra (A.load (blockAt c G.block+1+(ws.length:Int))) false 0,Ea (A.load (blockAt c G.block+1+(ws.length:Int)))]):=by
 refine cb 197 func42 fun F=>gX [.e 0,.e 0,.e 1,.z qac 0 [0,1,7]] (gQ q (gQ q (gQ gb (gS [.c qac,.c qbx,.b 0,.c [1,1]] (zG (zN [0,1,2,3,4,5,6,7,8,9,10,11,12,13,14,15,16,17,18] (kV 0 [.w,.w,.w,.w,.e 0,.w,.w,.w,.w,.e 0,.w,.q (vI (blockAt c G.block)),.h (.n),.w,.w,.w,.e 0,.w,.h (.n)]) [0,1,7,132,133,134,135,136,137,138,139,140,141,142,143,144,145,146,147,148,149,150] [19] (.e q (.e q (.q (lQ [] call85 (ref_Block c G.block oM (clsOf_ok oa))) (.p (InK .i64 ((blockAt c G.block)+1)) (by have h9:=sizeOfC_ok hc; simp only [InK]; omega) (.e q (.p (InK .i64 (((blockAt c G.block)+1)+(ws.length:Int))) (by have h9:=sizeOfC_ok hc; simp only [InK]; omega) .n)))))) ⟨?_,trivial⟩))))))
 refine zC (some 151) [3,4] call86 (ref_Load ra A (((blockAt c G.block)+1)+(ws.length:Int)) oM hx oM) ?_
 rintro v post ⟨rfl,rfl⟩
 refine zN [] (kV 0 [.w,.w,.w,.w,.e 0]) [151,0,7,132,133,134,135,136] [20] (.e q .n) ⟨?_,trivial⟩
 refine zX .w (sN fun b_20_1=>(sV ?_))
 refine zN [] (kV 0 [.w,.w,.w,.w,.e 0]) [152,0,7,132,133,134,135,136] [21] (.e q .n) ⟨?_,trivial⟩
 refine zB (some 153) (appO prog _) (some (.slice wa (ws).length wc,.slice (some ⟨b_20_1,0,none⟩) 1 1,(60,1,8))) (R_append 2 (a:=wa) (c:=wc) (enc:=encI .u64) (d:=0) (sz:=1) (xs:=ws) (te:=60) kR (.slice (some ⟨b_20_1,0,none⟩) 1 1) [(A.ws.getD (((blockAt c G.block)+1)+(ws.length:Int)).toNat 0)] (src_pts (i:=5) (t:=60) kR) (oneI _) 8 oW oW) ?_
 rintro v L2 ⟨a_21_1,c_21_1,rfl,rfl⟩
 refine zN [22,23] [(0,.w),(22,.w),(23,.w)] [153,0,7,132,154,155] [24] .n ⟨?_,trivial⟩
 refine zX (.e 0) (sQ q (sK ?_))
 exact zE [] [] [0,7] .n (gX [.z qad 0 [0,7]] (gS [.c qad,.c qby,.b 0,.c [1,1]] (qG (kV 0 [.ww,.ww,.ww,.e 0,.ww,.ww,.ww,.ww,.ww,.e 0,.ww,.q (vI 1),.ww,.ww,.ww,.ww,.ww,.e 0,.t false]) [0,174] (.e q (.e q (.e q (.p (((((ws++[(A.ws.getD (((blockAt c G.block)+1)+(ws.length:Int)).toNat 0)]).length:Nat):Int)==c.s1)=false) (beq_eq_false_iff_ne.2 (by have h9:=hd; rw [hk] at h9; unfold szK at h9; simp at h9 ⊢; omega)) .n)))) (.c call98 (qR [] (ref_ClassK1 c G.block oM oM)) .n) (gX [.e 0] (gQ q (gJ [0,1,2,3,4] ⟨a_21_1,c_21_1,rfl,rfl⟩))))))
theorem rr_Step3Y0(c:Cfg)(q ra gb:Nat)(cl tp ep sl cm cd:Int)(kx lx:Value)(wa:Option Addr)(wc:Nat)(ws:List Int)(G:Gu)(A:Ar)(hc:c.Ok)(hn:A.ws.length=A.n)(hs:0≤A.steps∧A.steps≤1000000000)(hz:(A.n:Int)=sizeOfC c)(hk:clsOf c G.block=0)(hx:0≤(blockAt c G.block+1+(ws.length:Int))∧(blockAt c G.block+1+(ws.length:Int))<A.n)(hl:ws.length≤1000)(hd:(ws.length:Int)+1=szK c (clsOf c G.block)):
  Ctr prog 42 #[vP q,vP ra] [EB q c cl tp ep 3 kx (vP gb) lx wa ws.length wc sl cm cd,Es gb c G sl tp,Ee wa wc ws,Ed ra A false 0,Ea A] (fun v L => ∃(wa2:Option Addr) (wc2:Nat),v = .bool false∧L=[EB q c cl tp ep 4 kx (vP gb) lx wa2 ((ws++[A.ws.getD (blockAt c G.block+1+(ws.length:Int)).toNat 0]).length) wc2 sl cm cd,Es gb c G sl tp,Ee wa2 wc2 (ws++[A.ws.getD (blockAt c G.block+1+(ws.length:Int)).toNat 0]),Ed ra (A.load (blockAt c G.block+1+(ws.length:Int))) false 0,Ea (A.load (blockAt c G.block+1+(ws.length:Int)))]):=by
 refine cb 197 func42 fun F=>gX [.e 0,.e 0,.e 1,.z qac 0 [0,1,7]] (gQ q (gQ q (gQ gb (gS [.c qac,.c qbx,.b 0,.c [1,1]] (zG (zN [0,1,2,3,4,5,6,7,8,9,10,11,12,13,14,15,16,17,18] (kV 0 [.w,.w,.w,.w,.e 0,.w,.w,.w,.w,.e 0,.w,.q (vI (blockAt c G.block)),.h (.n),.w,.w,.w,.e 0,.w,.h (.n)]) [0,1,7,132,133,134,135,136,137,138,139,140,141,142,143,144,145,146,147,148,149,150] [19] (.e q (.e q (.q (lQ [] call85 (ref_Block c G.block oM (clsOf_ok oa))) (.p (InK .i64 ((blockAt c G.block)+1)) (by have h9:=sizeOfC_ok hc; simp only [InK]; omega) (.e q (.p (InK .i64 (((blockAt c G.block)+1)+(ws.length:Int))) (by have h9:=sizeOfC_ok hc; simp only [InK]; omega) .n)))))) ⟨?_,trivial⟩))))))
 refine zC (some 151) [3,4] call86 (ref_Load ra A (((blockAt c G.block)+1)+(ws.length:Int)) oM hx oM) ?_
 rintro v post ⟨rfl,rfl⟩
 refine zN [] (kV 0 [.w,.w,.w,.w,.e 0]) [151,0,7,132,133,134,135,136] [20] (.e q .n) ⟨?_,trivial⟩
 refine zX .w (sN fun b_20_1=>(sV ?_))
 refine zN [] (kV 0 [.w,.w,.w,.w,.e 0]) [152,0,7,132,133,134,135,136] [21] (.e q .n) ⟨?_,trivial⟩
 refine zB (some 153) (appO prog _) (some (.slice wa (ws).length wc,.slice (some ⟨b_20_1,0,none⟩) 1 1,(60,1,8))) (R_append 2 (a:=wa) (c:=wc) (enc:=encI .u64) (d:=0) (sz:=1) (xs:=ws) (te:=60) kR (.slice (some ⟨b_20_1,0,none⟩) 1 1) [(A.ws.getD (((blockAt c G.block)+1)+(ws.length:Int)).toNat 0)] (src_pts (i:=5) (t:=60) kR) (oneI _) 8 oW oW) ?_
 rintro v L2 ⟨a_21_1,c_21_1,rfl,rfl⟩
 refine zN [22,23] [(0,.w),(22,.w),(23,.w)] [153,0,7,132,154,155] [24] .n ⟨?_,trivial⟩
 refine zX (.e 0) (sQ q (sK ?_))
 exact zE [] [] [0,7] .n (gX [.z qad 0 [0,7]] (gS [.c qad,.c qby,.b 0,.c [1,1]] (qG (kV 0 [.ww,.ww,.ww,.e 0,.ww,.ww,.ww,.ww,.ww,.e 0,.ww,.q (vI 0),.ww,.ww,.ww,.ww,.ww,.e 0,.t true]) [0,174] (.e q (.e q (.e q (.p (((((ws++[(A.ws.getD (((blockAt c G.block)+1)+(ws.length:Int)).toNat 0)]).length:Nat):Int)==c.s0)=true) (beq_iff_eq.2 (by have h9:=hd; rw [hk] at h9; unfold szK at h9; simp at h9 ⊢; omega)) .n)))) (.c call98 (qR [] (ref_ClassK0 c G.block oM oM)) .n) (gX [.e 0,.e 0] (gQ q (gQ q (gJ [0,1,2,3,4] ⟨a_21_1,c_21_1,rfl,rfl⟩)))))))
theorem rr_Step3Y1(c:Cfg)(q ra gb:Nat)(cl tp ep sl cm cd:Int)(kx lx:Value)(wa:Option Addr)(wc:Nat)(ws:List Int)(G:Gu)(A:Ar)(hc:c.Ok)(hn:A.ws.length=A.n)(hs:0≤A.steps∧A.steps≤1000000000)(hz:(A.n:Int)=sizeOfC c)(hk:clsOf c G.block=1)(hx:0≤(blockAt c G.block+1+(ws.length:Int))∧(blockAt c G.block+1+(ws.length:Int))<A.n)(hl:ws.length≤1000)(hd:(ws.length:Int)+1=szK c (clsOf c G.block)):
  Ctr prog 42 #[vP q,vP ra] [EB q c cl tp ep 3 kx (vP gb) lx wa ws.length wc sl cm cd,Es gb c G sl tp,Ee wa wc ws,Ed ra A false 0,Ea A] (fun v L => ∃(wa2:Option Addr) (wc2:Nat),v = .bool false∧L=[EB q c cl tp ep 4 kx (vP gb) lx wa2 ((ws++[A.ws.getD (blockAt c G.block+1+(ws.length:Int)).toNat 0]).length) wc2 sl cm cd,Es gb c G sl tp,Ee wa2 wc2 (ws++[A.ws.getD (blockAt c G.block+1+(ws.length:Int)).toNat 0]),Ed ra (A.load (blockAt c G.block+1+(ws.length:Int))) false 0,Ea (A.load (blockAt c G.block+1+(ws.length:Int)))]):=by
 refine cb 197 func42 fun F=>gX [.e 0,.e 0,.e 1,.z qac 0 [0,1,7]] (gQ q (gQ q (gQ gb (gS [.c qac,.c qbx,.b 0,.c [1,1]] (zG (zN [0,1,2,3,4,5,6,7,8,9,10,11,12,13,14,15,16,17,18] (kV 0 [.w,.w,.w,.w,.e 0,.w,.w,.w,.w,.e 0,.w,.q (vI (blockAt c G.block)),.h (.n),.w,.w,.w,.e 0,.w,.h (.n)]) [0,1,7,132,133,134,135,136,137,138,139,140,141,142,143,144,145,146,147,148,149,150] [19] (.e q (.e q (.q (lQ [] call85 (ref_Block c G.block oM (clsOf_ok oa))) (.p (InK .i64 ((blockAt c G.block)+1)) (by have h9:=sizeOfC_ok hc; simp only [InK]; omega) (.e q (.p (InK .i64 (((blockAt c G.block)+1)+(ws.length:Int))) (by have h9:=sizeOfC_ok hc; simp only [InK]; omega) .n)))))) ⟨?_,trivial⟩))))))
 refine zC (some 151) [3,4] call86 (ref_Load ra A (((blockAt c G.block)+1)+(ws.length:Int)) oM hx oM) ?_
 rintro v post ⟨rfl,rfl⟩
 refine zN [] (kV 0 [.w,.w,.w,.w,.e 0]) [151,0,7,132,133,134,135,136] [20] (.e q .n) ⟨?_,trivial⟩
 refine zX .w (sN fun b_20_1=>(sV ?_))
 refine zN [] (kV 0 [.w,.w,.w,.w,.e 0]) [152,0,7,132,133,134,135,136] [21] (.e q .n) ⟨?_,trivial⟩
 refine zB (some 153) (appO prog _) (some (.slice wa (ws).length wc,.slice (some ⟨b_20_1,0,none⟩) 1 1,(60,1,8))) (R_append 2 (a:=wa) (c:=wc) (enc:=encI .u64) (d:=0) (sz:=1) (xs:=ws) (te:=60) kR (.slice (some ⟨b_20_1,0,none⟩) 1 1) [(A.ws.getD (((blockAt c G.block)+1)+(ws.length:Int)).toNat 0)] (src_pts (i:=5) (t:=60) kR) (oneI _) 8 oW oW) ?_
 rintro v L2 ⟨a_21_1,c_21_1,rfl,rfl⟩
 refine zN [22,23] [(0,.w),(22,.w),(23,.w)] [153,0,7,132,154,155] [24] .n ⟨?_,trivial⟩
 refine zX (.e 0) (sQ q (sK ?_))
 exact zE [] [] [0,7] .n (gX [.z qad 0 [0,7]] (gS [.c qad,.c qby,.b 0,.c [1,1]] (qG (kV 0 [.ww,.ww,.ww,.e 0,.ww,.ww,.ww,.ww,.ww,.e 0,.ww,.q (vI 1),.ww,.ww,.ww,.ww,.ww,.e 0,.t true]) [0,174] (.e q (.e q (.e q (.p (((((ws++[(A.ws.getD (((blockAt c G.block)+1)+(ws.length:Int)).toNat 0)]).length:Nat):Int)==c.s1)=true) (beq_iff_eq.2 (by have h9:=hd; rw [hk] at h9; unfold szK at h9; simp at h9 ⊢; omega)) .n)))) (.c call98 (qR [] (ref_ClassK1 c G.block oM oM)) .n) (gX [.e 0,.e 0] (gQ q (gQ q (gJ [0,1,2,3,4] ⟨a_21_1,c_21_1,rfl,rfl⟩)))))))
theorem rr_Step4(c:Cfg)(q ra lb:Nat)(cl tp ep sl cm cd:Int)(kx gx wv:Value)(A:Ar)(hc:c.Ok)(hn:A.ws.length=A.n)(hs:0≤A.steps∧A.steps≤1000000000)(hsl:0≤sl∧sl<c.slots)(hi:0≤slotAt c sl∧slotAt c sl<A.n):
  Ctr prog 42 #[vP q,vP ra] [EI q c cl tp ep 4 kx gx (vP lb) wv sl cm cd,EF lb c sl false,Ed ra A false 0,Ea A] (Ret (.bool true) [EI q c cl tp ep 0 kx gx (vP lb) wv (-1) cm cd,EF lb c sl true,Ed ra (A.store (slotAt c sl) 0) false 0,Ea (A.store (slotAt c sl) 0)]):=by
 exact cb 197 func42 fun F=>gX [.e 0,.e 0,.z qdi 5 [0,183,184]] (gQ q (gQ q (gS [.o qdi 5,.c [1,0,1,1,1,1,1,1,1,0,1,0,1],.b 0,.c [1,1]] (gC (some 185) [1,2,3] call99 (rrelease_Step c lb ra sl A oM oM hsl hi oM) (gX [.e 0,.e 0,.e 0] (gQ q (gQ q (gQ q (gJ [0,1,2,3] ⟨rfl,rfl⟩)))))))))
theorem rr_Step0(c:Cfg)(q ra:Nat)(cl tp ep sl cm cd:Int)(kx gx lx wv:Value)(A:Ar):
  Ctr prog 42 #[vP q,vP ra] [EI q c cl tp ep 0 kx gx lx wv sl cm cd,Ed ra A false 0,Ea A] (Ret (.bool true) [EI q c cl tp ep 0 kx gx lx wv sl cm cd,Ed ra A false 0,Ea A]):=by
 exact cb 197 func42 fun F=>gX [.e 0,.e 0] (gQ q (gQ q (gJ [0,1,2] ⟨rfl,rfl⟩)))
end Go.Proofs.YtpcaijopodhdgaaGreatDoor
namespace Go.Proofs.YtpcaijopodhdgaaGreatDoor
open Go.Proofs.Tryz
open Go.Sx
abbrev Eaq(x0:Nat)(c1:Cfg)(x2:Int)(x3:Int)(x4:Int)(x5:Nat)(x6:Value)(x7:Value)(x8:Value)(x9:Option Addr)(x10:Nat)(x11:Nat)(x12:Int)(x13:Int)(x14:Int): Ent:=.pts x0 [.int .i64 c1.topics,.int .i64 c1.small,.int .i64 c1.slots,.int .i64 c1.clients,.int .i64 c1.s0,.int .i64 c1.n0,.int .i64 c1.s1,.int .i64 c1.n1,.int .i64 c1.retry,.int .i64 x2,.int .i64 x3,.int .i64 x4,.int .i64 ((x5:Nat):Int),x6,x7,x8,.slice x9 x10 x11,.int .i64 x12,.int .i64 x13,.int .i64 x14] 97
structure RdqH where
 wa:Option Addr
 wc:Nat
 kb:Nat
 gb:Nat
 lb:Nat
 kx:Value
 gx:Value
 lx:Value
def Rd.dcm(S:Rd): Int:=match S.ph with
 | 1=>0
 | 2=>0
 | _=>match S.gu with
  | none=>0
  | some G=>G.commit
def kqV(h:RdqH): Nat→Value
 | 1=>vP h.kb
 | _=>h.kx
def gqV(h:RdqH)(x:Value)(y:Nat): Nat→Value
 | 2=>vP y
 | 3=>vP y
 | 4=>vP y
 | _=>x
noncomputable def rdqN(c:Cfg)(S:Rd)(h:RdqH): List Ent:=match S.ph,S.gu with
 | 1,_=>[EL h.kb c S.cl]
 | 2,some G=>[Es h.gb c G S.slot 0,EF h.lb c S.slot false]
 | 3,some G=>[Es h.gb c G S.slot 0,EF h.lb c S.slot false]
 | 4,some G=>[Es h.gb c G S.slot 0,EF h.lb c S.slot false]
 | _,_=>[]
noncomputable def rdqL(q:Nat)(c:Cfg)(cl ep:Int)(S:Rd)(h:RdqH): List Ent:=[Eaq q c cl 0 ep S.ph (kqV h S.ph) (gqV h h.gx h.gb S.ph) (gqV h h.lx h.lb S.ph) h.wa S.words.length h.wc S.slot (Rd.dcm S) S.code,Ee h.wa h.wc S.words,.res (dens (rdqN c S h))]
noncomputable def RdQ(q:Nat)(c:Cfg)(cl ep:Int)(S:Rd): Res:=Box (fun _:RdqH=>True) (rdqL q c cl ep S)
theorem rread_Step(c:Cfg)(q ra:Nat)(cl ep:Int)(S:Rd)(A:Ar)(hc:c.Ok)(hn:A.ws.length=A.n)(hs:0≤A.steps∧A.steps≤1000000000)(hz:(A.n:Int)=sizeOfC c)(hR:RngW A.ws)(hS:S.Ok c cl 0 A.n)(hI:RdI c S)(hC:CtlOk c A 0):
  Ctr prog 42 #[vP q,vP ra] [.res (RdQ q c cl ep S),Ed ra A false 0,Ea A] (Ret (.bool ((S.step c cl 0 ep A).1.ph==0)) [.res (RdQ q c cl ep ((S.step c cl 0 ep A).1)),Ed ra ((S.step c cl 0 ep A).2) false 0,Ea ((S.step c cl 0 ep A).2)]):=by
 refine oC (I:=fun _:RdqH=>True) (LL:=rdqL q c cl ep S) 0 ?_
 rintro⟨wa,wc,kb,gb,lb,kx,gx,lx⟩ -
 obtain⟨K,gu,sl,ws,cd,ph⟩:=S
 obtain⟨h1,h2,h3,h4,h5,h6,h7,h8,h8b,h9,h10,h10b,h11,h12⟩:=hS
 simp only at h1 h2 h3 h4 h5 h6 h7 h8 h8b h9 h10 h10b h11 h12
 have hsz:=sizeOfC_ok hc
 have htp:(0:Int)≤0∧(0:Int)<c.topics:=by have h9:=hc; simp only [Cfg.Ok] at h9; omega
 have hcs:=hc
 simp only [Cfg.Ok] at hcs
 match ph,h1 with
 | 0,_=>
  cases gu with
  | none=>
   have e:Rd.step c cl 0 ep (⟨K,none,sl,ws,cd,0⟩:Rd) A=((⟨K,none,sl,ws,cd,0⟩:Rd),A):=by rfl
   rw [e]
   refine cP [2,0,1] (rr_Step0 c q ra cl 0 ep sl 0 cd kx gx lx (.slice wa ws.length wc) A) ?_
   rintro v post ⟨rfl,rfl⟩
   exact⟨_,(((vC [])).trans (vK (fun _:RdqH=>True) (rdqL q c cl ep (⟨K,none,sl,ws,cd,0⟩:Rd)) ⟨wa,wc,kb,gb,lb,kx,gx,lx⟩ [2,0,5] trivial)).trans (vQ [3,1,2]),rfl,rfl⟩
  | some G=>
   have e:Rd.step c cl 0 ep (⟨K,(some G),sl,ws,cd,0⟩:Rd) A=((⟨K,(some G),sl,ws,cd,0⟩:Rd),A):=by rfl
   rw [e]
   refine cP [2,0,1] (rr_Step0 c q ra cl 0 ep sl G.commit cd kx gx lx (.slice wa ws.length wc) A) ?_
   rintro v post ⟨rfl,rfl⟩
   exact⟨_,(((vC [])).trans (vK (fun _:RdqH=>True) (rdqL q c cl ep (⟨K,(some G),sl,ws,cd,0⟩:Rd)) ⟨wa,wc,kb,gb,lb,kx,gx,lx⟩ [2,0,5] trivial)).trans (vQ [3,1,2]),rfl,rfl⟩
 | 1,_=>
  obtain⟨e1,e2,e3,e4,e5⟩:=h5 rfl
  subst e1; subst e2; subst e5
  have hk:Cl.Ok c (Cl.step c K A).1:=(cl_step (k:=A.steps) hc h2 ⟨hn,hz,hR,hs.1,Int.le_refl _⟩).1
  have hclr:0≤cl∧cl<c.clients:=by have:=h2.client; rw [h3] at this; exact this
  by_cases ha:(Cl.step c K A).1.at_ = -1
  ·by_cases hq1:(Cl.step c K A).1.slot = -1
   ·have hq:(Cl.step c K A).1.slot<0:=by omega
    have e:Rd.step c cl 0 ep (⟨K,none,(-1),[],cd,1⟩:Rd) A=((⟨(Cl.step c K A).1,none,(-1),[],19,0⟩:Rd),(Cl.step c K A).2):=by unfold Rd.step; simp only; rw [if_pos ha,if_pos hq1,hq1]
    rw [e]
    refine ctr_view (view_open 4 (N:=[EL kb c K]) (M:=[Ed ra A false 0,Ea A,EB q c cl 0 ep 1 (vP kb) gx lx wa (([]:List Int).length) wc (-1) 0 cd,Ee wa wc ([]:List Int)]) kR) ?_
    refine cP [2,4,0,1] (rr_Step1N c q ra kb cl 0 ep (-1) 0 cd gx lx (.slice wa (([]:List Int).length) wc) K A hc hn hs hz h2 ha hq) ?_
    rintro v post ⟨rfl,rfl⟩
    exact⟨_,(((vC [])).trans (vK (fun _:RdqH=>True) (rdqL q c cl ep (⟨(Cl.step c K A).1,none,(-1),[],19,0⟩:Rd)) ⟨wa,wc,kb,gb,lb,(vP kb),gx,lx⟩ [1,0,5] trivial)).trans (vQ [3,1,2]),rfl,rfl⟩
   ·have hsl:=hk.slot.resolve_left hq1
    have hq:¬(Cl.step c K A).1.slot<0:=by omega
    have e:Rd.step c cl 0 ep (⟨K,none,(-1),[],cd,1⟩:Rd) A=((⟨(Cl.step c K A).1,(some (newGu c cl (Cl.step c K A).1.slot 0 ep)),(Cl.step c K A).1.slot,[],cd,2⟩:Rd),(Cl.step c K A).2):=by unfold Rd.step; simp only; rw [if_pos ha,if_neg hq1]
    rw [e]
    refine ctr_view (view_open 4 (N:=[EL kb c K]) (M:=[Ed ra A false 0,Ea A,EB q c cl 0 ep 1 (vP kb) gx lx wa (([]:List Int).length) wc (-1) 0 cd,Ee wa wc ([]:List Int)]) kR) ?_
    refine cP [2,4,0,1] (rr_Step1Y c q ra kb cl 0 ep (-1) 0 cd gx lx (.slice wa (([]:List Int).length) wc) K A hc hn hs hz h2 ha hq hsl hclr htp) ?_
    rintro v post ⟨gb_1,lb_2,rfl,rfl⟩
    exact⟨_,(((vC [5,6])).trans (vK (fun _:RdqH=>True) (rdqL q c cl ep (⟨(Cl.step c K A).1,(some (newGu c cl (Cl.step c K A).1.slot 0 ep)),(Cl.step c K A).1.slot,[],cd,2⟩:Rd)) ⟨wa,wc,kb,gb_1,lb_2,(vP kb),gx,lx⟩ [1,0,5] trivial)).trans (vQ [3,1,2]),rfl,rfl⟩
  ·skip
   have e:Rd.step c cl 0 ep (⟨K,none,(-1),[],cd,1⟩:Rd) A=((⟨(Cl.step c K A).1,none,(-1),[],cd,1⟩:Rd),(Cl.step c K A).2):=by unfold Rd.step; simp only; rw [if_neg ha]
   rw [e]
   refine ctr_view (view_open 4 (N:=[EL kb c K]) (M:=[Ed ra A false 0,Ea A,EB q c cl 0 ep 1 (vP kb) gx lx wa (([]:List Int).length) wc (-1) 0 cd,Ee wa wc ([]:List Int)]) kR) ?_
   refine cP [2,4,0,1] (rr_Step1W c q ra kb cl 0 ep (-1) 0 cd gx lx (.slice wa (([]:List Int).length) wc) K A hc hn hs hz h2 ha) ?_
   rintro v post ⟨rfl,rfl⟩
   exact⟨_,(((vC [2])).trans (vK (fun _:RdqH=>True) (rdqL q c cl ep (⟨(Cl.step c K A).1,none,(-1),[],cd,1⟩:Rd)) ⟨wa,wc,kb,gb,lb,kx,gx,lx⟩ [1,0,4] trivial)).trans (vQ [2,0,1]),rfl,rfl⟩
 | 2,_=>
  obtain⟨G,e1,e2,e3,e4⟩:=h6 rfl
  subst e1; subst e3
  obtain⟨hGu,g2⟩:=h4 G rfl
  have hsl:0≤sl∧sl<c.slots:=h9.resolve_left (h10 oc oc)
  have hgs:G.slot=slotAt c sl:=hI rfl G rfl
  by_cases hd:(Gu.step c.retry G A).1.ph=0
  ·by_cases he:(Gu.step c.retry G A).1.code=0
   ·skip
    have e:Rd.step c cl 0 ep (⟨K,(some G),sl,[],cd,2⟩:Rd) A=((⟨K,(some (Gu.step c.retry G A).1),sl,[],(Gu.step c.retry G A).1.code,3⟩:Rd),(Gu.step c.retry G A).2):=by unfold Rd.step; simp only; rw [if_pos hd,if_pos he,he]
    rw [e]
    refine ctr_view (view_open 4 (N:=[Es gb c G sl 0,EF lb c sl false]) (M:=[Ed ra A false 0,Ea A,EB q c cl 0 ep 2 kx (vP gb) (vP lb) wa (([]:List Int).length) wc sl 0 cd,Ee wa wc ([]:List Int)]) kR) ?_
    refine cP [2,4,0,1] (rr_Step2K c q ra gb lb cl 0 ep sl 0 cd kx (.slice wa (([]:List Int).length) wc) G A hc hn hs hR hGu htp oh g2.word hgs hd he) ?_
    rintro v post ⟨rfl,rfl⟩
    exact⟨_,(((vC [3,1])).trans (vK (fun _:RdqH=>True) (rdqL q c cl ep (⟨K,(some (Gu.step c.retry G A).1),sl,[],(Gu.step c.retry G A).1.code,3⟩:Rd)) ⟨wa,wc,kb,gb,lb,kx,gx,lx⟩ [1,0,4] trivial)).trans (vQ [2,0,1]),rfl,rfl⟩
   ·skip
    have e:Rd.step c cl 0 ep (⟨K,(some G),sl,[],cd,2⟩:Rd) A=((⟨K,(some (Gu.step c.retry G A).1),sl,[],(Gu.step c.retry G A).1.code,4⟩:Rd),(Gu.step c.retry G A).2):=by unfold Rd.step; simp only; rw [if_pos hd,if_neg he]
    rw [e]
    refine ctr_view (view_open 4 (N:=[Es gb c G sl 0,EF lb c sl false]) (M:=[Ed ra A false 0,Ea A,EB q c cl 0 ep 2 kx (vP gb) (vP lb) wa (([]:List Int).length) wc sl 0 cd,Ee wa wc ([]:List Int)]) kR) ?_
    refine cP [2,4,0,1] (rr_Step2E c q ra gb lb cl 0 ep sl 0 cd kx (.slice wa (([]:List Int).length) wc) G A hc hn hs hR hGu htp oh g2.word hgs hd he) ?_
    rintro v post ⟨rfl,rfl⟩
    exact⟨_,(((vC [3,1])).trans (vK (fun _:RdqH=>True) (rdqL q c cl ep (⟨K,(some (Gu.step c.retry G A).1),sl,[],(Gu.step c.retry G A).1.code,4⟩:Rd)) ⟨wa,wc,kb,gb,lb,kx,gx,lx⟩ [1,0,4] trivial)).trans (vQ [2,0,1]),rfl,rfl⟩
  ·skip
   have e:Rd.step c cl 0 ep (⟨K,(some G),sl,[],cd,2⟩:Rd) A=((⟨K,(some (Gu.step c.retry G A).1),sl,[],cd,2⟩:Rd),(Gu.step c.retry G A).2):=by unfold Rd.step; simp only; rw [if_neg hd]
   rw [e]
   refine ctr_view (view_open 4 (N:=[Es gb c G sl 0,EF lb c sl false]) (M:=[Ed ra A false 0,Ea A,EB q c cl 0 ep 2 kx (vP gb) (vP lb) wa (([]:List Int).length) wc sl 0 cd,Ee wa wc ([]:List Int)]) kR) ?_
   refine cP [2,4,0,1] (rr_Step2W c q ra gb lb cl 0 ep sl 0 cd kx (.slice wa (([]:List Int).length) wc) G A hc hn hs hR hGu htp oh g2.word hgs hd) ?_
   rintro v post ⟨rfl,rfl⟩
   exact⟨_,(((vC [3,1])).trans (vK (fun _:RdqH=>True) (rdqL q c cl ep (⟨K,(some (Gu.step c.retry G A).1),sl,[],cd,2⟩:Rd)) ⟨wa,wc,kb,gb,lb,kx,gx,lx⟩ [1,0,4] trivial)).trans (vQ [2,0,1]),rfl,rfl⟩
 | 3,_=>
  obtain⟨G,e1,e2,e3,e4,e5⟩:=h7 rfl
  subst e1
  have hz3:=szK_ok hc (clsOf c G.block)
  have hbf:=blockAt_fit hc e3
  have hbl:=blockAt_ok hc e3
  have hx:0≤blockAt c G.block+1+(ws.length:Int)∧blockAt c G.block+1+(ws.length:Int)<A.n:=by omega
  have hl:ws.length≤1000:=by omega
  have hsl:0≤sl∧sl<c.slots:=h9.resolve_left (h10 oc oc)
  have hk01:=clsOf_le c G.block
  by_cases hk9:clsOf c G.block=0
  ·by_cases hd:(ws.length:Int)+1=szK c (clsOf c G.block)
   ·skip
    have e:Rd.step c cl 0 ep (⟨K,(some G),sl,ws,cd,3⟩:Rd) A=((⟨K,(some G),sl,(ws++[A.ws.getD (blockAt c G.block+1+(ws.length:Int)).toNat 0]),cd,4⟩:Rd),(A.load (blockAt c G.block+1+(ws.length:Int)))):=by exact if_pos hd
    rw [e]
    refine ctr_view (view_open 4 (N:=[Es gb c G sl 0,EF lb c sl false]) (M:=[Ed ra A false 0,Ea A,EB q c cl 0 ep 3 kx (vP gb) (vP lb) wa ws.length wc sl G.commit cd,Ee wa wc ws]) kR) ?_
    refine cP [2,4,3,0,1] (rr_Step3Y0 c q ra gb cl 0 ep sl G.commit cd kx (vP lb) wa wc ws G A hc hn hs hz hk9 hx hl hd) ?_
    rintro v post ⟨wa2_1,wc2_2,rfl,rfl⟩
    exact⟨_,(((vC [2,0])).trans (vK (fun _:RdqH=>True) (rdqL q c cl ep (⟨K,(some G),sl,(ws++[A.ws.getD (blockAt c G.block+1+(ws.length:Int)).toNat 0]),cd,4⟩:Rd)) ⟨wa2_1,wc2_2,kb,gb,lb,kx,gx,lx⟩ [0,1,4] trivial)).trans (vQ [2,0,1]),rfl,rfl⟩
   ·skip
    have e:Rd.step c cl 0 ep (⟨K,(some G),sl,ws,cd,3⟩:Rd) A=((⟨K,(some G),sl,(ws++[A.ws.getD (blockAt c G.block+1+(ws.length:Int)).toNat 0]),cd,3⟩:Rd),(A.load (blockAt c G.block+1+(ws.length:Int)))):=by exact if_neg hd
    rw [e]
    refine ctr_view (view_open 4 (N:=[Es gb c G sl 0,EF lb c sl false]) (M:=[Ed ra A false 0,Ea A,EB q c cl 0 ep 3 kx (vP gb) (vP lb) wa ws.length wc sl G.commit cd,Ee wa wc ws]) kR) ?_
    refine cP [2,4,3,0,1] (rr_Step3N0 c q ra gb cl 0 ep sl G.commit cd kx (vP lb) wa wc ws G A hc hn hs hz hk9 hx hl hd) ?_
    rintro v post ⟨wa2_1,wc2_2,rfl,rfl⟩
    exact⟨_,(((vC [2,0])).trans (vK (fun _:RdqH=>True) (rdqL q c cl ep (⟨K,(some G),sl,(ws++[A.ws.getD (blockAt c G.block+1+(ws.length:Int)).toNat 0]),cd,3⟩:Rd)) ⟨wa2_1,wc2_2,kb,gb,lb,kx,gx,lx⟩ [0,1,4] trivial)).trans (vQ [2,0,1]),rfl,rfl⟩
  ·have hk9:clsOf c G.block=1:=by omega
   by_cases hd:(ws.length:Int)+1=szK c (clsOf c G.block)
   ·skip
    have e:Rd.step c cl 0 ep (⟨K,(some G),sl,ws,cd,3⟩:Rd) A=((⟨K,(some G),sl,(ws++[A.ws.getD (blockAt c G.block+1+(ws.length:Int)).toNat 0]),cd,4⟩:Rd),(A.load (blockAt c G.block+1+(ws.length:Int)))):=by exact if_pos hd
    rw [e]
    refine ctr_view (view_open 4 (N:=[Es gb c G sl 0,EF lb c sl false]) (M:=[Ed ra A false 0,Ea A,EB q c cl 0 ep 3 kx (vP gb) (vP lb) wa ws.length wc sl G.commit cd,Ee wa wc ws]) kR) ?_
    refine cP [2,4,3,0,1] (rr_Step3Y1 c q ra gb cl 0 ep sl G.commit cd kx (vP lb) wa wc ws G A hc hn hs hz hk9 hx hl hd) ?_
    rintro v post ⟨wa2_1,wc2_2,rfl,rfl⟩
    exact⟨_,(((vC [2,0])).trans (vK (fun _:RdqH=>True) (rdqL q c cl ep (⟨K,(some G),sl,(ws++[A.ws.getD (blockAt c G.block+1+(ws.length:Int)).toNat 0]),cd,4⟩:Rd)) ⟨wa2_1,wc2_2,kb,gb,lb,kx,gx,lx⟩ [0,1,4] trivial)).trans (vQ [2,0,1]),rfl,rfl⟩
   ·skip
    have e:Rd.step c cl 0 ep (⟨K,(some G),sl,ws,cd,3⟩:Rd) A=((⟨K,(some G),sl,(ws++[A.ws.getD (blockAt c G.block+1+(ws.length:Int)).toNat 0]),cd,3⟩:Rd),(A.load (blockAt c G.block+1+(ws.length:Int)))):=by exact if_neg hd
    rw [e]
    refine ctr_view (view_open 4 (N:=[Es gb c G sl 0,EF lb c sl false]) (M:=[Ed ra A false 0,Ea A,EB q c cl 0 ep 3 kx (vP gb) (vP lb) wa ws.length wc sl G.commit cd,Ee wa wc ws]) kR) ?_
    refine cP [2,4,3,0,1] (rr_Step3N1 c q ra gb cl 0 ep sl G.commit cd kx (vP lb) wa wc ws G A hc hn hs hz hk9 hx hl hd) ?_
    rintro v post ⟨wa2_1,wc2_2,rfl,rfl⟩
    exact⟨_,(((vC [2,0])).trans (vK (fun _:RdqH=>True) (rdqL q c cl ep (⟨K,(some G),sl,(ws++[A.ws.getD (blockAt c G.block+1+(ws.length:Int)).toNat 0]),cd,3⟩:Rd)) ⟨wa2_1,wc2_2,kb,gb,lb,kx,gx,lx⟩ [0,1,4] trivial)).trans (vQ [2,0,1]),rfl,rfl⟩
 | 4,_=>
  obtain⟨G,e1⟩:=h8b rfl
  subst e1
  have hsl:0≤sl∧sl<c.slots:=h9.resolve_left (h10 oc oc)
  have hi:0≤slotAt c sl∧slotAt c sl<A.n:=by have:=slotAt_ok hc hsl; omega
  have e:Rd.step c cl 0 ep (⟨K,(some G),sl,ws,cd,4⟩:Rd) A=((⟨K,(some G),(-1),ws,cd,0⟩:Rd),(A.store (slotAt c sl) 0)):=by rfl
  rw [e]
  refine ctr_view (view_open 4 (N:=[Es gb c G sl 0,EF lb c sl false]) (M:=[Ed ra A false 0,Ea A,EB q c cl 0 ep 4 kx (vP gb) (vP lb) wa ws.length wc sl G.commit cd,Ee wa wc ws]) kR) ?_
  refine cP [2,5,0,1] (rr_Step4 c q ra lb cl 0 ep sl G.commit cd kx (vP gb) (.slice wa ws.length wc) A hc hn hs hsl hi) ?_
  rintro v post ⟨rfl,rfl⟩
  exact⟨_,(((vC [])).trans (vK (fun _:RdqH=>True) (rdqL q c cl ep (⟨K,(some G),(-1),ws,cd,0⟩:Rd)) ⟨wa,wc,kb,gb,lb,kx,(vP gb),(vP lb)⟩ [2,0,6] trivial)).trans (vQ [4,2,3]),rfl,rfl⟩
 | n+5,h=>omega
end Go.Proofs.YtpcaijopodhdgaaGreatDoor
namespace Go.Proofs.YtpcaijopodhdgaaGreatDoor
open Go.Proofs.Tryz
open Go.Sx
abbrev EX(x0:Nat)(x1:Value)(x2:Value)(x3:Value)(x4:Value)(x5:Option Addr)(x6:Nat)(x7:Nat)(x8:Int): Ent:=.pts x0 [x1,.pointer none,.pointer none,x2,x3,x4,.slice x5 x6 x7,.int .u64 x8] 74
structure KmH where
 pv:Value
 sv:Value
 rv:Value
 ra:Option Addr
 rc:Nat
 y:Nat
 q:Nat
 R:Rs
def kmI(c:Cfg)(k:Kc)(h:KmH): Prop:=match k.d with
 | .scan S=>Go.Sx.Alike c S h.R∧Go.Sx.RsI c h.R
 | _=>True
noncomputable def kmL(c:Cfg)(p:Nat)(k:Kc)(h:KmH): List Ent:=match k.d with
 | .idle=>[Et p h.pv h.sv h.rv h.ra k.ret.length h.rc k.id,Ec h.ra h.rc k.ret]
 | .pub ep ws S=>[EX p (vP h.y) (vP h.q) h.sv h.rv h.ra k.ret.length h.rc k.id,Ec h.ra h.rc k.ret,.res (PbR h.y c (ctlAt c 0) ep ws S),.res (PbQ h.q c ep ws S)]
 | .scan S=>[Eah p (vP h.y) h.pv (vP h.q) h.rv h.ra k.ret.length h.rc k.id,Ec h.ra h.rc k.ret,.res (ScanR h.y c S),.res (RsR h.q c h.R)]
 | .read cl ep S=>[EJ p (vP h.y) h.pv h.sv (vP h.q) h.ra k.ret.length h.rc k.id,Ec h.ra h.rc k.ret,.res (RdR h.y c cl 0 ep S),.res (RdQ h.q c cl ep S)]
noncomputable def KmR(c:Cfg)(p:Nat)(k:Kc): Res:=Box (kmI c k) (kmL c p k)
noncomputable abbrev KnR(ps:List Nat)(ks:List Kc)(c:Cfg): Res:=AllR (KmR c) (ps.zip ks)
noncomputable abbrev KnX(ps:List Nat)(ks:List Kc)(n:Nat)(c:Cfg): Res:=AllR (KmR c) ((ps.zip ks).eraseIdx n)
theorem zip_at2{ps:List Nat}{ks:List Kc}(n:Nat)(h1:n<ps.length)(h2:n<ks.length): (ps.zip ks).getD n (0,dK)=(ps.getD n 0,ks.getD n dK):=by
 have h:n<(ps.zip ks).length:=by rw [List.length_zip]; omega
 simp [List.getD_eq_getElem?_getD,h1,h2,List.getElem?_eq_getElem h]
theorem zip_put2{ps:List Nat}{ks:List Kc}(n:Nat)(k:Kc): (ps.zip ks).set n (ps.getD n 0,k)=ps.zip (ks.set n k):=by
 induction ps generalizing ks n with
 | nil=>simp
 | cons p ps ih=>
  cases ks with
  | nil=>simp
  | cons q ks=>
   cases n with
   | zero=>simp
   | succ n=>simpa using ih n
theorem kn_focus{L:List Ent}{ps:List Nat}{ks:List Kc}{c:Cfg}(j n:Nat)(h1:n<ps.length)(h2:n<ks.length)(h:(pick L [j],places L.length [j])=([.res (KnR ps ks c)],true):=by kernel_rfl):
  View L (dropAt L [j]++[.res (KmR c (ps.getD n 0) (ks.getD n dK)),.res (KnX ps ks n c)]):=by
 have hv:=view_focus (M:=dropAt L [j]) (pred:=KmR c) (qs:=ps.zip ks) j n (0,dK) (by rw [List.length_zip]; omega) (by rw [Prod.mk.injEq] at h; rw [h.1,h.2])
 rw [zip_at2 n h1 h2] at hv
 exact hv
theorem kn_unfocus{L:List Ent}{ps:List Nat}{ks:List Kc}{c:Cfg}(i j n:Nat)(k:Kc)(h1:n<ps.length)(h2:n<ks.length)(h:(pick L [i,j],places L.length [i,j])=([.res (KmR c (ps.getD n 0) k),.res (KnX ps ks n c)],true):=by kernel_rfl):
  View L (dropAt L [i,j]++[.res (KnR ps (ks.set n k) c)]):=by
 have hv:=view_unfocus (M:=dropAt L [i,j]) (pred:=KmR c) (qs:=ps.zip ks) i j n (ps.getD n 0) k (by rw [List.length_zip]; omega) (by rw [Prod.mk.injEq] at h; rw [h.1,h.2])
 rw [zip_put2] at hv
 exact hv
theorem n_begin(c:Cfg)(x ba rb:Nat)(now:Int)(ka ma:Option Addr)(kc mc:Nat)(ps:List Nat)(many:List Int)(B:Ar)(i n_:Int)(ks:List Kc)(hi:0≤i∧i<4)(hps:ps.length=4)(hc:c.Ok)(hnB:B.ws.length=B.n)(hzB:(B.n:Int)=sizeOfC c)(hwB:U64 (B.ws.getD (ctlAt c 0).toNat 0))(hml:many.length≤2000)(hcl:c.clients=4∧c.s0=4∧c.s1=6)(hks:ks.length=4)(hG:goodRow c (ks.getD i.toNat dK).ret∧(ks.getD i.toNat dK).ret.length≤100):
  Ctr prog 28 #[vP x,vI i,vI n_] [Eg x c (vP ba) (vP rb) ka ps.length kc ma many.length mc now,.sl ka kc encP 0 1 ps 68,Ec ma mc many,Ed rb B false 0,Ea B,.res (KnR ps ks c)] (fun v L => ∃(ma2:Option Addr) (mc2:Nat),v=undef∧L=[Eg x c (vP ba) (vP rb) ka ps.length kc ma2 (((ks.getD i.toNat dK).beginD c (ctlEpoch (B.ws.getD (ctlAt c 0).toNat 0)) many i n_).2.length) mc2 now,.sl ka kc encP 0 1 ps 68,Ec ma2 mc2 (((ks.getD i.toNat dK).beginD c (ctlEpoch (B.ws.getD (ctlAt c 0).toNat 0)) many i n_).2),Ed rb B false 0,Ea B,.res (KnR ps (ks.set i.toNat ((ks.getD i.toNat dK).beginD c (ctlEpoch (B.ws.getD (ctlAt c 0).toNat 0)) many i n_).1) c)]):=by
 refine ctr_view (kn_focus 5 i.toNat (ps:=ps) (ks:=ks) (c:=c) oa oa) ?_
 generalize hk:ks.getD i.toNat dK=k at hG
 refine oC (I:=kmI c k) (LL:=kmL c (ps.getD i.toNat 0) k) 5 ?_
 rintro⟨pv,sv,rv,ra,rc,y,q,R⟩ hI9
 obtain⟨d,ret,id_⟩:=k
 simp only at hG
 cases d with
 | idle=>
  by_cases hi2:i≥2
  ·skip
   have e:Kc.beginD c (ctlEpoch (B.ws.getD (ctlAt c 0).toNat 0)) many i n_ ⟨.idle,ret,id_⟩=(⟨.read i (ctlEpoch (B.ws.getD (ctlAt c 0).toNat 0)) (newRd i),ret,id_⟩,many):=by unfold Kc.beginD; simp only; rw [if_pos hi2]
   rw [e]
   refine cP [0,1,6,3,4] (w_beginNR c x ba rb now ka ma kc mc ps many B i n_ pv sv rv ra rc id_ ret hi hps hc hnB hzB hwB hi2 oa) ?_
   rintro v post ⟨y_1,k_2,b1_3,b2_4,b3_5,b4_6,b5_7,b6_8,q_9,k2_10,rfl,rfl⟩
   exact⟨_,((((((((view_nil (encI .u64) 0 1 60 (sizedI _)).trans (vC [9,10,11,12,13,14,15])).trans (vK (fun _:RdH=>True) (rdL y_1 c i 0 (ctlEpoch (B.ws.getD (ctlAt c 0).toNat 0)) (newRd i)) ⟨.nilFunc,.nilFunc,none,0,k_2,b1_3,b2_4,b3_5,b4_6,b5_7,b6_8,0,0,0,0,0,0⟩ [8,11,12] trivial)).trans (view_nil (encI .u64) 0 1 60 (sizedI _))).trans (vC [9])).trans (vK (fun _:RdqH=>True) (rdqL q_9 c i (ctlEpoch (B.ws.getD (ctlAt c 0).toNat 0)) (newRd i)) ⟨none,0,k2_10,0,0,.pointer none,.pointer none,.pointer none⟩ [8,10,11] trivial)).trans (vK (kmI c ⟨.read i (ctlEpoch (B.ws.getD (ctlAt c 0).toNat 0)) (newRd i),ret,id_⟩) (kmL c (ps.getD i.toNat 0) ⟨.read i (ctlEpoch (B.ws.getD (ctlAt c 0).toNat 0)) (newRd i),ret,id_⟩) ⟨pv,sv,vP q_9,ra,rc,y_1,q_9,R⟩ [5,2,8,9] trivial)).trans (kn_unfocus (ps:=ps) (ks:=ks) (c:=c) 6 1 i.toNat ⟨.read i (ctlEpoch (B.ws.getD (ctlAt c 0).toNat 0)) (newRd i),ret,id_⟩ oa oa)).trans (vQ [1,2,0,3,4,5]),ma,mc,rfl,rfl⟩
  ·have hm7:=msz_rng n_
   have hf:fitK c (((List.replicate (1+(((n_.tmod 6)+6).tmod 6)).toNat ((((many++[(1+(((n_.tmod 6)+6).tmod 6))]).length):Nat):Int)).length:Nat):Int)≠-1:=by
    have e:(((List.replicate (1+(((n_.tmod 6)+6).tmod 6)).toNat ((((many++[(1+(((n_.tmod 6)+6).tmod 6))]).length):Nat):Int)).length:Nat):Int)=msz n_:=by rw [List.length_replicate]; show((msz n_).toNat:Int)=msz n_; omega
    rw [e]; unfold fitK; rw [if_neg oa]; split
    ·omega
    ·rw [if_pos oa]; omega
   by_cases h3:bAnd .i64 n_ 3=0
   ·by_cases hl0:(ret.length:Int)>0
    ·have hin:=good_in hc hG.1
     have e:Kc.beginD c (ctlEpoch (B.ws.getD (ctlAt c 0).toNat 0)) many i n_ ⟨.idle,ret,id_⟩=(⟨.scan (newSc ret),ret,id_⟩,many):=by unfold Kc.beginD; simp only; rw [if_neg hi2,if_pos ⟨h3,fun h=>by rw [h] at hl0; simp at hl0⟩]
     rw [e]
     refine cP [0,1,6,7,3,4] (w_beginNSok c x ba rb now ka ma kc mc ps many B i n_ pv sv rv ra rc id_ ret hi hps hc hnB hzB hwB hi2 h3 hl0 hG.2 hin (newOk_iff.2 hG.1) hG.1) ?_
     rintro v post ⟨y_1,q_2,rfl,rfl⟩
     exact⟨_,((vK (kmI c ⟨.scan (newSc ret),ret,id_⟩) (kmL c (ps.getD i.toNat 0) ⟨.scan (newSc ret),ret,id_⟩) ⟨pv,vP q_2,rv,ra,rc,y_1,q_2,newRs ret⟩ [4,5,8,9] (al_begin hc ret)).trans (kn_unfocus (ps:=ps) (ks:=ks) (c:=c) 6 1 i.toNat ⟨.scan (newSc ret),ret,id_⟩ oa oa)).trans (vQ [1,2,0,3,4,5]),ma,mc,rfl,rfl⟩
    ·skip
     have e:Kc.beginD c (ctlEpoch (B.ws.getD (ctlAt c 0).toNat 0)) many i n_ ⟨.idle,ret,id_⟩=(⟨.pub (ctlEpoch (B.ws.getD (ctlAt c 0).toNat 0)) (List.replicate (1+(((n_.tmod 6)+6).tmod 6)).toNat ((((many++[(1+(((n_.tmod 6)+6).tmod 6))]).length):Nat):Int)) (newPb (fitK c (((List.replicate (1+(((n_.tmod 6)+6).tmod 6)).toNat ((((many++[(1+(((n_.tmod 6)+6).tmod 6))]).length):Nat):Int)).length:Nat):Int))),ret,((((many++[(1+(((n_.tmod 6)+6).tmod 6))]).length):Nat):Int)⟩,many++[(1+(((n_.tmod 6)+6).tmod 6))]):=by unfold Kc.beginD; simp only; rw [if_neg hi2,if_neg (fun h=>h.2 (List.eq_nil_of_length_eq_zero oa))]; rfl
     rw [e]
     refine cP [0,1,2,6,3,4] (w_beginNPe c x ba rb now ka ma kc mc ps many B i n_ pv sv rv ra rc id_ ret hi hps hc hnB hzB hwB hi2 h3 hl0 hml hf) ?_
     rintro v post ⟨ma2_1,mc2_2,la_3,lc_4,y_5,k_6,bp_7,bt_8,wa_9,wc_10,q_11,k2_12,rfl,rfl⟩
     exact⟨_,((((((vC [9,10,11]).trans (vK (fun _:PbH=>True) (pbL y_5 c (ctlAt c 0) (ctlEpoch (B.ws.getD (ctlAt c 0).toNat 0)) (List.replicate (1+(((n_.tmod 6)+6).tmod 6)).toNat ((((many++[(1+(((n_.tmod 6)+6).tmod 6))]).length):Nat):Int)) (newPb (fitK c (((List.replicate (1+(((n_.tmod 6)+6).tmod 6)).toNat ((((many++[(1+(((n_.tmod 6)+6).tmod 6))]).length):Nat):Int)).length:Nat):Int)))) ⟨.nilFunc,.nilFunc,wa_9,wc_10,k_6,bp_7,bt_8,0,0,0,0,0,0,0⟩ [8,9,13] trivial)).trans (vC [])).trans (vK (fun _:PqbH=>True) (pqbL q_11 c (ctlEpoch (B.ws.getD (ctlAt c 0).toNat 0)) (List.replicate (1+(((n_.tmod 6)+6).tmod 6)).toNat ((((many++[(1+(((n_.tmod 6)+6).tmod 6))]).length):Nat):Int)) (newPb (fitK c (((List.replicate (1+(((n_.tmod 6)+6).tmod 6)).toNat ((((many++[(1+(((n_.tmod 6)+6).tmod 6))]).length):Nat):Int)).length:Nat):Int)))) ⟨la_3,lc_4,k2_12,0,.pointer none⟩ [9,10,8,12] trivial)).trans (vK (kmI c ⟨.pub (ctlEpoch (B.ws.getD (ctlAt c 0).toNat 0)) (List.replicate (1+(((n_.tmod 6)+6).tmod 6)).toNat ((((many++[(1+(((n_.tmod 6)+6).tmod 6))]).length):Nat):Int)) (newPb (fitK c (((List.replicate (1+(((n_.tmod 6)+6).tmod 6)).toNat ((((many++[(1+(((n_.tmod 6)+6).tmod 6))]).length):Nat):Int)).length:Nat):Int))),ret,((((many++[(1+(((n_.tmod 6)+6).tmod 6))]).length):Nat):Int)⟩) (kmL c (ps.getD i.toNat 0) ⟨.pub (ctlEpoch (B.ws.getD (ctlAt c 0).toNat 0)) (List.replicate (1+(((n_.tmod 6)+6).tmod 6)).toNat ((((many++[(1+(((n_.tmod 6)+6).tmod 6))]).length):Nat):Int)) (newPb (fitK c (((List.replicate (1+(((n_.tmod 6)+6).tmod 6)).toNat ((((many++[(1+(((n_.tmod 6)+6).tmod 6))]).length):Nat):Int)).length:Nat):Int))),ret,((((many++[(1+(((n_.tmod 6)+6).tmod 6))]).length):Nat):Int)⟩) ⟨vP q_11,sv,rv,ra,rc,y_5,q_11,R⟩ [5,1,8,9] trivial)).trans (kn_unfocus (ps:=ps) (ks:=ks) (c:=c) 6 0 i.toNat ⟨.pub (ctlEpoch (B.ws.getD (ctlAt c 0).toNat 0)) (List.replicate (1+(((n_.tmod 6)+6).tmod 6)).toNat ((((many++[(1+(((n_.tmod 6)+6).tmod 6))]).length):Nat):Int)) (newPb (fitK c (((List.replicate (1+(((n_.tmod 6)+6).tmod 6)).toNat ((((many++[(1+(((n_.tmod 6)+6).tmod 6))]).length):Nat):Int)).length:Nat):Int))),ret,((((many++[(1+(((n_.tmod 6)+6).tmod 6))]).length):Nat):Int)⟩ oa oa)).trans (vQ [0,1,2,3,4,5]),ma2_1,mc2_2,rfl,rfl⟩
   ·skip
    have e:Kc.beginD c (ctlEpoch (B.ws.getD (ctlAt c 0).toNat 0)) many i n_ ⟨.idle,ret,id_⟩=(⟨.pub (ctlEpoch (B.ws.getD (ctlAt c 0).toNat 0)) (List.replicate (1+(((n_.tmod 6)+6).tmod 6)).toNat ((((many++[(1+(((n_.tmod 6)+6).tmod 6))]).length):Nat):Int)) (newPb (fitK c (((List.replicate (1+(((n_.tmod 6)+6).tmod 6)).toNat ((((many++[(1+(((n_.tmod 6)+6).tmod 6))]).length):Nat):Int)).length:Nat):Int))),ret,((((many++[(1+(((n_.tmod 6)+6).tmod 6))]).length):Nat):Int)⟩,many++[(1+(((n_.tmod 6)+6).tmod 6))]):=by unfold Kc.beginD; simp only; rw [if_neg hi2,if_neg (fun h=>h3 h.1)]; rfl
    rw [e]
    refine cP [0,1,2,6,3,4] (w_beginNPx c x ba rb now ka ma kc mc ps many B i n_ pv sv rv ra rc id_ ret hi hps hc hnB hzB hwB hi2 h3 hml hf) ?_
    rintro v post ⟨ma2_1,mc2_2,la_3,lc_4,y_5,k_6,bp_7,bt_8,wa_9,wc_10,q_11,k2_12,rfl,rfl⟩
    exact⟨_,((((((vC [9,10,11]).trans (vK (fun _:PbH=>True) (pbL y_5 c (ctlAt c 0) (ctlEpoch (B.ws.getD (ctlAt c 0).toNat 0)) (List.replicate (1+(((n_.tmod 6)+6).tmod 6)).toNat ((((many++[(1+(((n_.tmod 6)+6).tmod 6))]).length):Nat):Int)) (newPb (fitK c (((List.replicate (1+(((n_.tmod 6)+6).tmod 6)).toNat ((((many++[(1+(((n_.tmod 6)+6).tmod 6))]).length):Nat):Int)).length:Nat):Int)))) ⟨.nilFunc,.nilFunc,wa_9,wc_10,k_6,bp_7,bt_8,0,0,0,0,0,0,0⟩ [8,9,13] trivial)).trans (vC [])).trans (vK (fun _:PqbH=>True) (pqbL q_11 c (ctlEpoch (B.ws.getD (ctlAt c 0).toNat 0)) (List.replicate (1+(((n_.tmod 6)+6).tmod 6)).toNat ((((many++[(1+(((n_.tmod 6)+6).tmod 6))]).length):Nat):Int)) (newPb (fitK c (((List.replicate (1+(((n_.tmod 6)+6).tmod 6)).toNat ((((many++[(1+(((n_.tmod 6)+6).tmod 6))]).length):Nat):Int)).length:Nat):Int)))) ⟨la_3,lc_4,k2_12,0,.pointer none⟩ [9,10,8,12] trivial)).trans (vK (kmI c ⟨.pub (ctlEpoch (B.ws.getD (ctlAt c 0).toNat 0)) (List.replicate (1+(((n_.tmod 6)+6).tmod 6)).toNat ((((many++[(1+(((n_.tmod 6)+6).tmod 6))]).length):Nat):Int)) (newPb (fitK c (((List.replicate (1+(((n_.tmod 6)+6).tmod 6)).toNat ((((many++[(1+(((n_.tmod 6)+6).tmod 6))]).length):Nat):Int)).length:Nat):Int))),ret,((((many++[(1+(((n_.tmod 6)+6).tmod 6))]).length):Nat):Int)⟩) (kmL c (ps.getD i.toNat 0) ⟨.pub (ctlEpoch (B.ws.getD (ctlAt c 0).toNat 0)) (List.replicate (1+(((n_.tmod 6)+6).tmod 6)).toNat ((((many++[(1+(((n_.tmod 6)+6).tmod 6))]).length):Nat):Int)) (newPb (fitK c (((List.replicate (1+(((n_.tmod 6)+6).tmod 6)).toNat ((((many++[(1+(((n_.tmod 6)+6).tmod 6))]).length):Nat):Int)).length:Nat):Int))),ret,((((many++[(1+(((n_.tmod 6)+6).tmod 6))]).length):Nat):Int)⟩) ⟨vP q_11,sv,rv,ra,rc,y_5,q_11,R⟩ [5,1,8,9] trivial)).trans (kn_unfocus (ps:=ps) (ks:=ks) (c:=c) 6 0 i.toNat ⟨.pub (ctlEpoch (B.ws.getD (ctlAt c 0).toNat 0)) (List.replicate (1+(((n_.tmod 6)+6).tmod 6)).toNat ((((many++[(1+(((n_.tmod 6)+6).tmod 6))]).length):Nat):Int)) (newPb (fitK c (((List.replicate (1+(((n_.tmod 6)+6).tmod 6)).toNat ((((many++[(1+(((n_.tmod 6)+6).tmod 6))]).length):Nat):Int)).length:Nat):Int))),ret,((((many++[(1+(((n_.tmod 6)+6).tmod 6))]).length):Nat):Int)⟩ oa oa)).trans (vQ [0,1,2,3,4,5]),ma2_1,mc2_2,rfl,rfl⟩
 | pub ep ws S=>
  have e:Kc.beginD c (ctlEpoch (B.ws.getD (ctlAt c 0).toNat 0)) many i n_ ⟨.pub ep ws S,ret,id_⟩=(⟨.pub ep ws S,ret,id_⟩,many):=by rfl
  rw [e]
  refine cP [0,1,6] (w_beginP c x ba rb now ka ma kc mc ps many B i n_ (vP q) sv rv ra rc id_ ret y (.pointer none) (.pointer none) hi hps) ?_
  rintro v post ⟨rfl,rfl⟩
  exact⟨_,((vK (kmI c ⟨.pub ep ws S,ret,id_⟩) (kmL c (ps.getD i.toNat 0) ⟨.pub ep ws S,ret,id_⟩) ⟨vP q,sv,rv,ra,rc,y,q,R⟩ [9,4,5,6] trivial).trans (kn_unfocus (ps:=ps) (ks:=ks) (c:=c) 6 3 i.toNat ⟨.pub ep ws S,ret,id_⟩ oa oa)).trans (vQ [3,4,0,1,2,5]),ma,mc,rfl,rfl⟩
 | scan S=>
  have e:Kc.beginD c (ctlEpoch (B.ws.getD (ctlAt c 0).toNat 0)) many i n_ ⟨.scan S,ret,id_⟩=(⟨.scan S,ret,id_⟩,many):=by rfl
  rw [e]
  refine cP [0,1,6] (w_beginS c x ba rb now ka ma kc mc ps many B i n_ pv (vP q) rv ra rc id_ ret y (.pointer none) hi hps) ?_
  rintro v post ⟨rfl,rfl⟩
  exact⟨_,((vK (kmI c ⟨.scan S,ret,id_⟩) (kmL c (ps.getD i.toNat 0) ⟨.scan S,ret,id_⟩) ⟨pv,vP q,rv,ra,rc,y,q,R⟩ [9,4,5,6] hI9).trans (kn_unfocus (ps:=ps) (ks:=ks) (c:=c) 6 3 i.toNat ⟨.scan S,ret,id_⟩ oa oa)).trans (vQ [3,4,0,1,2,5]),ma,mc,rfl,rfl⟩
 | read cl ep S=>
  have e:Kc.beginD c (ctlEpoch (B.ws.getD (ctlAt c 0).toNat 0)) many i n_ ⟨.read cl ep S,ret,id_⟩=(⟨.read cl ep S,ret,id_⟩,many):=by rfl
  rw [e]
  refine cP [0,1,6] (w_beginR c x ba rb now ka ma kc mc ps many B i n_ pv sv (vP q) ra rc id_ ret y hi hps) ?_
  rintro v post ⟨rfl,rfl⟩
  exact⟨_,((vK (kmI c ⟨.read cl ep S,ret,id_⟩) (kmL c (ps.getD i.toNat 0) ⟨.read cl ep S,ret,id_⟩) ⟨pv,sv,vP q,ra,rc,y,q,R⟩ [9,4,5,6] trivial).trans (kn_unfocus (ps:=ps) (ks:=ks) (c:=c) 6 3 i.toNat ⟨.read cl ep S,ret,id_⟩ oa oa)).trans (vQ [3,4,0,1,2,5]),ma,mc,rfl,rfl⟩
theorem n_who(c:Cfg)(x ba rb:Nat)(now:Int)(ka ma:Option Addr)(kc mc:Nat)(ps:List Nat)(many:List Int)(A B:Ar)(wh n_:Int)(ks:List Kc)(hc:c.Ok)(hnB:B.ws.length=B.n)(hzB:(B.n:Int)=sizeOfC c)(hnA:A.ws.length=A.n)(hzA:(A.n:Int)=sizeOfC c)(hsA:0≤A.steps∧A.steps≤900000)(hsB:0≤B.steps∧B.steps≤900000)(hwB:U64 (B.ws.getD (ctlAt c 0).toNat 0))(hps:ps.length=4)(hks:ks.length=4)(hl:(ks.getD 0 dK).ret.length≤1000):
  Ctr prog 27 #[vP x,.agg #[vI wh,vI n_]] [Eg x c (vP ba) (vP rb) ka ps.length kc ma many.length mc now,.sl ka kc encP 0 1 ps 68,Eb ba A,Ea A,Ed rb B false 0,Ea B,.res (KnR ps ks c)] (Ret (vI (((ks.getD 0 dK).whoD (B.ws.getD (ctlAt c 0).toNat 0) wh n_).1)) [Eg x c (vP ba) (vP rb) ka ps.length kc ma many.length mc (bif ((ks.getD 0 dK).whoD (B.ws.getD (ctlAt c 0).toNat 0) wh n_).2.1 then 0 else now),.sl ka kc encP 0 1 ps 68,Eb ba (bif ((ks.getD 0 dK).whoD (B.ws.getD (ctlAt c 0).toNat 0) wh n_).2.1 then(anewW c (B.ws.getD (ctlAt c 0).toNat 0) A) else A),Ea (bif ((ks.getD 0 dK).whoD (B.ws.getD (ctlAt c 0).toNat 0) wh n_).2.1 then(anewW c (B.ws.getD (ctlAt c 0).toNat 0) A) else A),Ed rb (bif ((ks.getD 0 dK).whoD (B.ws.getD (ctlAt c 0).toNat 0) wh n_).2.1 then(anewW c (B.ws.getD (ctlAt c 0).toNat 0) B) else B) false 0,Ea (bif ((ks.getD 0 dK).whoD (B.ws.getD (ctlAt c 0).toNat 0) wh n_).2.1 then(anewW c (B.ws.getD (ctlAt c 0).toNat 0) B) else B),.res (KnR ps (ks.set 0 ((ks.getD 0 dK).whoD (B.ws.getD (ctlAt c 0).toNat 0) wh n_).2.2) c)]):=by
 refine ctr_view (kn_focus 6 0 (ps:=ps) (ks:=ks) (c:=c) oa oa) ?_
 generalize hk:ks.getD 0 dK=k at hl
 refine oC (I:=kmI c k) (LL:=kmL c (ps.getD 0 0) k) 6 ?_
 rintro⟨pv,sv,rv,ra,rc,y,q,R⟩ hI9
 obtain⟨d,ret,id_⟩:=k
 simp only at hl
 cases d with
 | idle=>
  by_cases h4:bAnd .i64 wh 4=0
  ·skip
   have e:Kc.whoD (B.ws.getD (ctlAt c 0).toNat 0) ⟨.idle,ret,id_⟩ wh n_ = (bAnd .i64 wh 3,false,⟨.idle,ret,id_⟩):=by unfold Kc.whoD; simp only; rw [if_pos (.inl h4)]
   rw [e]
   refine cP [0] (w_whoa c x ba rb now (.slice ka ps.length kc) (.slice ma many.length mc) wh n_ h4) ?_
   rintro v post ⟨rfl,rfl⟩
   exact⟨_,((vK (kmI c ⟨.idle,ret,id_⟩) (kmL c (ps.getD 0 0) ⟨.idle,ret,id_⟩) ⟨pv,sv,rv,ra,rc,y,q,R⟩ [6,7] trivial).trans (kn_unfocus (ps:=ps) (ks:=ks) (c:=c) 7 5 0 ⟨.idle,ret,id_⟩ oa oa)).trans (vQ [5,0,1,2,3,4,6]),rfl,rfl⟩
  ·by_cases h15:bAnd .i64 n_ 15=0
   ·by_cases hbp:ctlBlock (B.ws.getD (ctlAt c 0).toNat 0)>0
    ·skip
     have e:Kc.whoD (B.ws.getD (ctlAt c 0).toNat 0) ⟨.idle,ret,id_⟩ wh n_ = (-1,true,⟨.idle,ret++[ctlBlock (B.ws.getD (ctlAt c 0).toNat 0)],id_⟩):=by unfold Kc.whoD; simp only; rw [if_neg (fun h=>h.elim h4 (fun h=>h h15)),if_pos hbp]; rfl
     rw [e]
     refine cP [0,1,7,8,2,3,4,5] (w_whoR c x ba rb now ka ma kc mc ps many A B wh n_ (.pointer none) (.pointer none) pv sv rv ra rc id_ ret hc hnB hzB hnA hzA hsA hsB hwB hps hl h4 h15 hbp) ?_
     rintro v post ⟨ra2_1,rc2_2,rfl,rfl⟩
     exact⟨_,((vK (kmI c ⟨.idle,ret++[ctlBlock (B.ws.getD (ctlAt c 0).toNat 0)],id_⟩) (kmL c (ps.getD 0 0) ⟨.idle,ret++[ctlBlock (B.ws.getD (ctlAt c 0).toNat 0)],id_⟩) ⟨pv,sv,rv,ra2_1,rc2_2,y,q,R⟩ [3,4] trivial).trans (kn_unfocus (ps:=ps) (ks:=ks) (c:=c) 7 0 0 ⟨.idle,ret++[ctlBlock (B.ws.getD (ctlAt c 0).toNat 0)],id_⟩ oa oa)).trans (vQ [0,1,2,3,4,5,6]),rfl,rfl⟩
    ·skip
     have e:Kc.whoD (B.ws.getD (ctlAt c 0).toNat 0) ⟨.idle,ret,id_⟩ wh n_ = (-1,true,⟨.idle,ret,id_⟩):=by unfold Kc.whoD; simp only; rw [if_neg (fun h=>h.elim h4 (fun h=>h h15)),if_neg hbp]
     rw [e]
     refine cP [0,2,3,4,5] (w_whoN c x ba rb now ka ma kc mc ps many A B wh n_ hc hnB hzB hnA hzA hsA hsB hwB h4 h15 hbp) ?_
     rintro v post ⟨rfl,rfl⟩
     exact⟨_,((vK (kmI c ⟨.idle,ret,id_⟩) (kmL c (ps.getD 0 0) ⟨.idle,ret,id_⟩) ⟨pv,sv,rv,ra,rc,y,q,R⟩ [2,3] trivial).trans (kn_unfocus (ps:=ps) (ks:=ks) (c:=c) 7 1 0 ⟨.idle,ret,id_⟩ oa oa)).trans (vQ [1,0,2,3,4,5,6]),rfl,rfl⟩
   ·skip
    have e:Kc.whoD (B.ws.getD (ctlAt c 0).toNat 0) ⟨.idle,ret,id_⟩ wh n_ = (bAnd .i64 wh 3,false,⟨.idle,ret,id_⟩):=by unfold Kc.whoD; simp only; rw [if_pos (.inr h15)]
    rw [e]
    refine cP [0] (w_whob c x ba rb now (.slice ka ps.length kc) (.slice ma many.length mc) wh n_ h4 h15) ?_
    rintro v post ⟨rfl,rfl⟩
    exact⟨_,((vK (kmI c ⟨.idle,ret,id_⟩) (kmL c (ps.getD 0 0) ⟨.idle,ret,id_⟩) ⟨pv,sv,rv,ra,rc,y,q,R⟩ [6,7] trivial).trans (kn_unfocus (ps:=ps) (ks:=ks) (c:=c) 7 5 0 ⟨.idle,ret,id_⟩ oa oa)).trans (vQ [5,0,1,2,3,4,6]),rfl,rfl⟩
 | pub ep ws S=>
  by_cases h4:bAnd .i64 wh 4=0
  ·skip
   have e:Kc.whoD (B.ws.getD (ctlAt c 0).toNat 0) ⟨.pub ep ws S,ret,id_⟩ wh n_ = (bAnd .i64 wh 3,false,⟨.pub ep ws S,ret,id_⟩):=by unfold Kc.whoD; simp only; rw [if_pos (.inl h4)]
   rw [e]
   refine cP [0] (w_whoa c x ba rb now (.slice ka ps.length kc) (.slice ma many.length mc) wh n_ h4) ?_
   rintro v post ⟨rfl,rfl⟩
   exact⟨_,((vK (kmI c ⟨.pub ep ws S,ret,id_⟩) (kmL c (ps.getD 0 0) ⟨.pub ep ws S,ret,id_⟩) ⟨vP q,sv,rv,ra,rc,y,q,R⟩ [6,7,8,9] trivial).trans (kn_unfocus (ps:=ps) (ks:=ks) (c:=c) 7 5 0 ⟨.pub ep ws S,ret,id_⟩ oa oa)).trans (vQ [5,0,1,2,3,4,6]),rfl,rfl⟩
  ·by_cases h15:bAnd .i64 n_ 15=0
   ·by_cases hbp:ctlBlock (B.ws.getD (ctlAt c 0).toNat 0)>0
    ·skip
     have e:Kc.whoD (B.ws.getD (ctlAt c 0).toNat 0) ⟨.pub ep ws S,ret,id_⟩ wh n_ = (-1,true,⟨.pub ep ws S,ret++[ctlBlock (B.ws.getD (ctlAt c 0).toNat 0)],id_⟩):=by unfold Kc.whoD; simp only; rw [if_neg (fun h=>h.elim h4 (fun h=>h h15)),if_pos hbp]; rfl
     rw [e]
     refine cP [0,1,7,8,2,3,4,5] (w_whoR c x ba rb now ka ma kc mc ps many A B wh n_ (vP y) (.pointer none) (vP q) sv rv ra rc id_ ret hc hnB hzB hnA hzA hsA hsB hwB hps hl h4 h15 hbp) ?_
     rintro v post ⟨ra2_1,rc2_2,rfl,rfl⟩
     exact⟨_,((vK (kmI c ⟨.pub ep ws S,ret++[ctlBlock (B.ws.getD (ctlAt c 0).toNat 0)],id_⟩) (kmL c (ps.getD 0 0) ⟨.pub ep ws S,ret++[ctlBlock (B.ws.getD (ctlAt c 0).toNat 0)],id_⟩) ⟨vP q,sv,rv,ra2_1,rc2_2,y,q,R⟩ [5,6,1,2] trivial).trans (kn_unfocus (ps:=ps) (ks:=ks) (c:=c) 7 0 0 ⟨.pub ep ws S,ret++[ctlBlock (B.ws.getD (ctlAt c 0).toNat 0)],id_⟩ oa oa)).trans (vQ [0,1,2,3,4,5,6]),rfl,rfl⟩
    ·skip
     have e:Kc.whoD (B.ws.getD (ctlAt c 0).toNat 0) ⟨.pub ep ws S,ret,id_⟩ wh n_ = (-1,true,⟨.pub ep ws S,ret,id_⟩):=by unfold Kc.whoD; simp only; rw [if_neg (fun h=>h.elim h4 (fun h=>h h15)),if_neg hbp]
     rw [e]
     refine cP [0,2,3,4,5] (w_whoN c x ba rb now ka ma kc mc ps many A B wh n_ hc hnB hzB hnA hzA hsA hsB hwB h4 h15 hbp) ?_
     rintro v post ⟨rfl,rfl⟩
     exact⟨_,((vK (kmI c ⟨.pub ep ws S,ret,id_⟩) (kmL c (ps.getD 0 0) ⟨.pub ep ws S,ret,id_⟩) ⟨vP q,sv,rv,ra,rc,y,q,R⟩ [2,3,4,5] trivial).trans (kn_unfocus (ps:=ps) (ks:=ks) (c:=c) 7 1 0 ⟨.pub ep ws S,ret,id_⟩ oa oa)).trans (vQ [1,0,2,3,4,5,6]),rfl,rfl⟩
   ·skip
    have e:Kc.whoD (B.ws.getD (ctlAt c 0).toNat 0) ⟨.pub ep ws S,ret,id_⟩ wh n_ = (bAnd .i64 wh 3,false,⟨.pub ep ws S,ret,id_⟩):=by unfold Kc.whoD; simp only; rw [if_pos (.inr h15)]
    rw [e]
    refine cP [0] (w_whob c x ba rb now (.slice ka ps.length kc) (.slice ma many.length mc) wh n_ h4 h15) ?_
    rintro v post ⟨rfl,rfl⟩
    exact⟨_,((vK (kmI c ⟨.pub ep ws S,ret,id_⟩) (kmL c (ps.getD 0 0) ⟨.pub ep ws S,ret,id_⟩) ⟨vP q,sv,rv,ra,rc,y,q,R⟩ [6,7,8,9] trivial).trans (kn_unfocus (ps:=ps) (ks:=ks) (c:=c) 7 5 0 ⟨.pub ep ws S,ret,id_⟩ oa oa)).trans (vQ [5,0,1,2,3,4,6]),rfl,rfl⟩
 | scan S=>
  by_cases h4:bAnd .i64 wh 4=0
  ·skip
   have e:Kc.whoD (B.ws.getD (ctlAt c 0).toNat 0) ⟨.scan S,ret,id_⟩ wh n_ = (bAnd .i64 wh 3,false,⟨.scan S,ret,id_⟩):=by unfold Kc.whoD; simp only; rw [if_pos (.inl h4)]
   rw [e]
   refine cP [0] (w_whoa c x ba rb now (.slice ka ps.length kc) (.slice ma many.length mc) wh n_ h4) ?_
   rintro v post ⟨rfl,rfl⟩
   exact⟨_,((vK (kmI c ⟨.scan S,ret,id_⟩) (kmL c (ps.getD 0 0) ⟨.scan S,ret,id_⟩) ⟨pv,vP q,rv,ra,rc,y,q,R⟩ [6,7,8,9] hI9).trans (kn_unfocus (ps:=ps) (ks:=ks) (c:=c) 7 5 0 ⟨.scan S,ret,id_⟩ oa oa)).trans (vQ [5,0,1,2,3,4,6]),rfl,rfl⟩
  ·by_cases h15:bAnd .i64 n_ 15=0
   ·by_cases hbp:ctlBlock (B.ws.getD (ctlAt c 0).toNat 0)>0
    ·skip
     have e:Kc.whoD (B.ws.getD (ctlAt c 0).toNat 0) ⟨.scan S,ret,id_⟩ wh n_ = (bAnd .i64 wh 3,false,⟨.scan S,ret,id_⟩):=by unfold Kc.whoD; simp only; rw [if_neg (fun h=>h.elim h4 (fun h=>h h15)),if_pos hbp]; rfl
     rw [e]
     refine cP [0,1,7,4,5] (w_whoS c x ba rb now ka ma kc mc ps many wh n_ B y (.pointer none) (.pointer none) pv (vP q) rv ra rc id_ ret hc hnB hzB hps hwB h4 h15 hbp) ?_
     rintro v post ⟨rfl,rfl⟩
     exact⟨_,((vK (kmI c ⟨.scan S,ret,id_⟩) (kmL c (ps.getD 0 0) ⟨.scan S,ret,id_⟩) ⟨pv,vP q,rv,ra,rc,y,q,R⟩ [8,3,4,5] hI9).trans (kn_unfocus (ps:=ps) (ks:=ks) (c:=c) 7 2 0 ⟨.scan S,ret,id_⟩ oa oa)).trans (vQ [2,3,0,1,4,5,6]),rfl,rfl⟩
    ·skip
     have e:Kc.whoD (B.ws.getD (ctlAt c 0).toNat 0) ⟨.scan S,ret,id_⟩ wh n_ = (-1,true,⟨.scan S,ret,id_⟩):=by unfold Kc.whoD; simp only; rw [if_neg (fun h=>h.elim h4 (fun h=>h h15)),if_neg hbp]
     rw [e]
     refine cP [0,2,3,4,5] (w_whoN c x ba rb now ka ma kc mc ps many A B wh n_ hc hnB hzB hnA hzA hsA hsB hwB h4 h15 hbp) ?_
     rintro v post ⟨rfl,rfl⟩
     exact⟨_,((vK (kmI c ⟨.scan S,ret,id_⟩) (kmL c (ps.getD 0 0) ⟨.scan S,ret,id_⟩) ⟨pv,vP q,rv,ra,rc,y,q,R⟩ [2,3,4,5] hI9).trans (kn_unfocus (ps:=ps) (ks:=ks) (c:=c) 7 1 0 ⟨.scan S,ret,id_⟩ oa oa)).trans (vQ [1,0,2,3,4,5,6]),rfl,rfl⟩
   ·skip
    have e:Kc.whoD (B.ws.getD (ctlAt c 0).toNat 0) ⟨.scan S,ret,id_⟩ wh n_ = (bAnd .i64 wh 3,false,⟨.scan S,ret,id_⟩):=by unfold Kc.whoD; simp only; rw [if_pos (.inr h15)]
    rw [e]
    refine cP [0] (w_whob c x ba rb now (.slice ka ps.length kc) (.slice ma many.length mc) wh n_ h4 h15) ?_
    rintro v post ⟨rfl,rfl⟩
    exact⟨_,((vK (kmI c ⟨.scan S,ret,id_⟩) (kmL c (ps.getD 0 0) ⟨.scan S,ret,id_⟩) ⟨pv,vP q,rv,ra,rc,y,q,R⟩ [6,7,8,9] hI9).trans (kn_unfocus (ps:=ps) (ks:=ks) (c:=c) 7 5 0 ⟨.scan S,ret,id_⟩ oa oa)).trans (vQ [5,0,1,2,3,4,6]),rfl,rfl⟩
 | read cl ep S=>
  by_cases h4:bAnd .i64 wh 4=0
  ·skip
   have e:Kc.whoD (B.ws.getD (ctlAt c 0).toNat 0) ⟨.read cl ep S,ret,id_⟩ wh n_ = (bAnd .i64 wh 3,false,⟨.read cl ep S,ret,id_⟩):=by unfold Kc.whoD; simp only; rw [if_pos (.inl h4)]
   rw [e]
   refine cP [0] (w_whoa c x ba rb now (.slice ka ps.length kc) (.slice ma many.length mc) wh n_ h4) ?_
   rintro v post ⟨rfl,rfl⟩
   exact⟨_,((vK (kmI c ⟨.read cl ep S,ret,id_⟩) (kmL c (ps.getD 0 0) ⟨.read cl ep S,ret,id_⟩) ⟨pv,sv,vP q,ra,rc,y,q,R⟩ [6,7,8,9] trivial).trans (kn_unfocus (ps:=ps) (ks:=ks) (c:=c) 7 5 0 ⟨.read cl ep S,ret,id_⟩ oa oa)).trans (vQ [5,0,1,2,3,4,6]),rfl,rfl⟩
  ·by_cases h15:bAnd .i64 n_ 15=0
   ·by_cases hbp:ctlBlock (B.ws.getD (ctlAt c 0).toNat 0)>0
    ·skip
     have e:Kc.whoD (B.ws.getD (ctlAt c 0).toNat 0) ⟨.read cl ep S,ret,id_⟩ wh n_ = (-1,true,⟨.read cl ep S,ret++[ctlBlock (B.ws.getD (ctlAt c 0).toNat 0)],id_⟩):=by unfold Kc.whoD; simp only; rw [if_neg (fun h=>h.elim h4 (fun h=>h h15)),if_pos hbp]; rfl
     rw [e]
     refine cP [0,1,7,8,2,3,4,5] (w_whoR c x ba rb now ka ma kc mc ps many A B wh n_ (.pointer none) (vP y) pv sv (vP q) ra rc id_ ret hc hnB hzB hnA hzA hsA hsB hwB hps hl h4 h15 hbp) ?_
     rintro v post ⟨ra2_1,rc2_2,rfl,rfl⟩
     exact⟨_,((vK (kmI c ⟨.read cl ep S,ret++[ctlBlock (B.ws.getD (ctlAt c 0).toNat 0)],id_⟩) (kmL c (ps.getD 0 0) ⟨.read cl ep S,ret++[ctlBlock (B.ws.getD (ctlAt c 0).toNat 0)],id_⟩) ⟨pv,sv,vP q,ra2_1,rc2_2,y,q,R⟩ [5,6,1,2] trivial).trans (kn_unfocus (ps:=ps) (ks:=ks) (c:=c) 7 0 0 ⟨.read cl ep S,ret++[ctlBlock (B.ws.getD (ctlAt c 0).toNat 0)],id_⟩ oa oa)).trans (vQ [0,1,2,3,4,5,6]),rfl,rfl⟩
    ·skip
     have e:Kc.whoD (B.ws.getD (ctlAt c 0).toNat 0) ⟨.read cl ep S,ret,id_⟩ wh n_ = (-1,true,⟨.read cl ep S,ret,id_⟩):=by unfold Kc.whoD; simp only; rw [if_neg (fun h=>h.elim h4 (fun h=>h h15)),if_neg hbp]
     rw [e]
     refine cP [0,2,3,4,5] (w_whoN c x ba rb now ka ma kc mc ps many A B wh n_ hc hnB hzB hnA hzA hsA hsB hwB h4 h15 hbp) ?_
     rintro v post ⟨rfl,rfl⟩
     exact⟨_,((vK (kmI c ⟨.read cl ep S,ret,id_⟩) (kmL c (ps.getD 0 0) ⟨.read cl ep S,ret,id_⟩) ⟨pv,sv,vP q,ra,rc,y,q,R⟩ [2,3,4,5] trivial).trans (kn_unfocus (ps:=ps) (ks:=ks) (c:=c) 7 1 0 ⟨.read cl ep S,ret,id_⟩ oa oa)).trans (vQ [1,0,2,3,4,5,6]),rfl,rfl⟩
   ·skip
    have e:Kc.whoD (B.ws.getD (ctlAt c 0).toNat 0) ⟨.read cl ep S,ret,id_⟩ wh n_ = (bAnd .i64 wh 3,false,⟨.read cl ep S,ret,id_⟩):=by unfold Kc.whoD; simp only; rw [if_pos (.inr h15)]
    rw [e]
    refine cP [0] (w_whob c x ba rb now (.slice ka ps.length kc) (.slice ma many.length mc) wh n_ h4 h15) ?_
    rintro v post ⟨rfl,rfl⟩
    exact⟨_,((vK (kmI c ⟨.read cl ep S,ret,id_⟩) (kmL c (ps.getD 0 0) ⟨.read cl ep S,ret,id_⟩) ⟨pv,sv,vP q,ra,rc,y,q,R⟩ [6,7,8,9] trivial).trans (kn_unfocus (ps:=ps) (ks:=ks) (c:=c) 7 5 0 ⟨.read cl ep S,ret,id_⟩ oa oa)).trans (vQ [5,0,1,2,3,4,6]),rfl,rfl⟩
end Go.Proofs.YtpcaijopodhdgaaGreatDoor
namespace Go.Proofs.YtpcaijopodhdgaaGreatDoor
open Go.Proofs.Tryz
open Go.Sx
abbrev Ei(x0:Nat)(x1:Int): Ent:=.pts x0 [.pointer none,.pointer none,.pointer none,.pointer none,.pointer none,.pointer none,.slice none 0 0,.int .u64 x1] 74
abbrev Eaa(x0:Nat)(x1:Value)(x2:Value)(x3:Value)(x4:Value): Ent:=.pts x0 [x1,x2,x3,x4] 68
abbrev EK(x0:Nat)(c1:Cfg)(x2:Value)(x3:Value)(x4:Value)(x5:Int): Ent:=.pts x0 [.int .i64 c1.topics,.int .i64 c1.small,.int .i64 c1.slots,.int .i64 c1.clients,.int .i64 c1.s0,.int .i64 c1.n0,.int .i64 c1.s1,.int .i64 c1.n1,.int .i64 c1.retry,x2,x3,x4,.slice none 0 0,.int .u64 x5] 62
abbrev zK: Value:=.agg #[.pointer none,.pointer none,.pointer none,.pointer none,.pointer none,.pointer none,.slice none 0 0,vU 0]
theorem n_configC(c:Cfg)(q0 q1 q2:Int)(hq:c=cfgL q0 q1 q2):
  Ctr prog 9 #[.agg #[vI q0,vI q1,vI q2]] [] (Ret (cfgV c) []):=by
 subst hq
 exact law17_config q0 q1 q2
abbrev Yn_begun(c:Cfg): Value→List Ent→Prop:=(fun v L => ∃(x:Nat) (ba:Nat) (rb:Nat) (ka:Option Addr) (kc:Nat) (ps:List Nat) (aw:Option Addr) (cw:Nat) (aw2:Option Addr) (cw2:Nat),v=vP x∧L=[Eg x c (vP ba) (vP rb) ka ps.length kc none 0 0 0,.sl ka kc encP 0 1 ps 68,Ec none 0 ([]:List Int),Eb ba ((mkAr c aw cw).store (ctlAt c 0) (bornW 0)),Ea ((mkAr c aw cw).store (ctlAt c 0) (bornW 0)),Ed rb ((rmAr c (rpackW c) aw2 cw2).store (ctlAt c 0) (bornW 0)) false 0,Ea ((rmAr c (rpackW c) aw2 cw2).store (ctlAt c 0) (bornW 0)),.res (KnR ps four c)]∧(ps.length=4))
set_option maxHeartbeats 4000000 in
theorem n_begun(c:Cfg)(q0 q1 q2:Int)(hq:c=cfgL q0 q1 q2):
  Ctr prog 26 #[.agg #[vI q0,vI q1,vI q2]] [] (Yn_begun c):=by
 refine cb 35 func26 fun F => ?_
 have hc:c.Ok:=hq▸cfgL_ok q0 q1 q2
 refine gX [.e 0,.z [0,1] 1 [7]] (gN fun b_1=>gQ b_1 (gS [.o [0,1] 1,.c [1,1]] (gC (some 8) [] call9 (n_configC c q0 q1 q2 hq) (gX [.e 1,.e 1,.z [0,1,1] 1 [3,10]] (gN fun b_3=>gQ b_3 (gQ b_3 (gS [.o [0,1,1] 1,.c [1,1,1]] ?_)))))))
 refine go_call (some 11) [] call60 (plan_Make c hc) kR ?_
 rintro v post ⟨ba_4,aw_5,cw_6,rfl,rfl⟩
 refine gX [.z [0,1,1,1,1] 0 [3,4]] (gS [.c [0,1,1,1,1],.c [1,1,1,1,1]] (zG ?_))
 have aS_154:∀(ra_3_1:Nat) (aw_3_1:Option Addr) (cw_3_1:Nat) (b_5_1:Nat) (b_7_1:Nat) (b_9_1:Nat) (b_11_1:Nat) (b_12_1:Nat) (b_14_1:Nat),Lz prog f26 (bd f26) 35 F (RetR F (Yn_begun c)) (regOps (bd f26) [0,1,1,1,1]) [.c [1,1,1,1,1]] (mk 16 [0,1,2,3,4,5,6,7,8,9,10,11,12,13,14]) [] [(30,vP b_14_1)] [.pts b_1 [vI q0,vI q1,vI q2] 22,Ef b_3 c,Eb ba_4 (mkAr c aw_5 cw_6),Ea (mkAr c aw_5 cw_6),Ed ra_3_1 (rmAr c (rpackW c) aw_3_1 cw_3_1) false 0,Ea (rmAr c (rpackW c) aw_3_1 cw_3_1),Ei b_5_1 0,Ei b_7_1 0,Ei b_9_1 0,Ei b_11_1 0,Eaa b_12_1 (vP b_5_1) (vP b_7_1) (vP b_9_1) (vP b_11_1),EK b_14_1 c (vP ba_4) (vP ra_3_1) (.slice (some ⟨b_12_1,0,none⟩) 4 4) 0]:=by
  intro ra_3_1 aw_3_1 cw_3_1 b_5_1 b_7_1 b_9_1 b_11_1 b_12_1 b_14_1
  refine zE [15] (kV 15 [.w]) [6] .n (gX [.z [0,1,1,1,1,1] 0 [6]] (gW (ks:=[.o [0,1,1,1,1,1] 0,.c [1,1,1,1,1,1]]) [(6,vP b_14_1)] [.pts b_1 [vI q0,vI q1,vI q2] 22,Ef b_3 c,Eb ba_4 (mkAr c aw_5 cw_6),Ea (mkAr c aw_5 cw_6),Ed ra_3_1 (rmAr c (rpackW c) aw_3_1 cw_3_1) false 0,Ea (rmAr c (rpackW c) aw_3_1 cw_3_1),Ei b_5_1 0,Ei b_7_1 0,Ei b_9_1 0,Ei b_11_1 0,Eaa b_12_1 (vP b_5_1) (vP b_7_1) (vP b_9_1) (vP b_11_1),EK b_14_1 c (vP ba_4) (vP ra_3_1) (.slice (some ⟨b_12_1,0,none⟩) 4 4) 0] ?_))
  have hA0:=mkAr_ok hc aw_5 cw_6
  have hT0:Go.Sx.Twin (mkAr c aw_5 cw_6) (rmAr c (rpackW c) aw_3_1 cw_3_1) 0:=by rw [hq]; exact L_twinQ q0 q1 q2 aw_5 aw_3_1 cw_6 cw_3_1
  have hB0:=rm_arW hc hA0 hT0
  have hA1:=hA0.1
  have hA2:=hA0.2.1
  have hA3:=hA0.2.2.2
  have hB1:=hB0.1
  have hB2:=hB0.2.1
  have hB3:=hB0.2.2.2
  have hU0:U64 0:=by unfold U64; decide
  refine gX [.z [0,1,1,1,1,1] 1 [6,31]] (gS [.o [0,1,1,1,1,1] 1,.c [1,1,1,1,1,1]] (gC (some 32) [] call70 (r13_Born 0 hU0) (gC (some 33) [11,2,3,4,5] call69 (w_put c b_14_1 ba_4 ra_3_1 0 (.slice (some ⟨b_12_1,0,none⟩) 4 4) (.slice none 0 0) (mkAr c aw_5 cw_6) (rmAr c (rpackW c) aw_3_1 cw_3_1) (bornW 0) hc hB1 hB2 hA1 hA2 oa oa) (gX [] (gW0 (vP b_14_1) [.pts b_1 [vI q0,vI q1,vI q2] 22,Ef b_3 c,Ei b_5_1 0,Ei b_7_1 0,Ei b_9_1 0,Ei b_11_1 0,Eaa b_12_1 (vP b_5_1) (vP b_7_1) (vP b_9_1) (vP b_11_1),EK b_14_1 c (vP ba_4) (vP ra_3_1) (.slice (some ⟨b_12_1,0,none⟩) 4 4) 0,Eb ba_4 ((mkAr c aw_5 cw_6).store (ctlAt c 0) (bornW 0)),Ea ((mkAr c aw_5 cw_6).store (ctlAt c 0) (bornW 0)),Ed ra_3_1 ((rmAr c (rpackW c) aw_3_1 cw_3_1).store (ctlAt c 0) (bornW 0)) false 0,Ea ((rmAr c (rpackW c) aw_3_1 cw_3_1).store (ctlAt c 0) (bornW 0))] ?_)))))
  refine ret_view (L':=[.pts b_1 [vI q0,vI q1,vI q2] 22,Ef b_3 c,Ei b_5_1 0,Ei b_7_1 0,Ei b_9_1 0,Ei b_11_1 0,.sl (some ⟨b_12_1,0,none⟩) 4 encP 0 1 ([b_5_1,b_7_1,b_9_1,b_11_1]:List Nat) 68,EK b_14_1 c (vP ba_4) (vP ra_3_1) (.slice (some ⟨b_12_1,0,none⟩) 4 4) 0,Eb ba_4 ((mkAr c aw_5 cw_6).store (ctlAt c 0) (bornW 0)),Ea ((mkAr c aw_5 cw_6).store (ctlAt c 0) (bornW 0)),Ed ra_3_1 ((rmAr c (rpackW c) aw_3_1 cw_3_1).store (ctlAt c 0) (bornW 0)) false 0,Ea ((rmAr c (rpackW c) aw_3_1 cw_3_1).store (ctlAt c 0) (bornW 0))]) (view_row 6 (b:=b_12_1) encP 0 1 ([b_5_1,b_7_1,b_9_1,b_11_1]:List Nat) 68 sized_encP (by simp [maxLen]) kR) ?_
  refine ret_view (L':=[.pts b_1 [vI q0,vI q1,vI q2] 22,Ef b_3 c,Ei b_5_1 0,Ei b_7_1 0,Ei b_9_1 0,Ei b_11_1 0,.sl (some ⟨b_12_1,0,none⟩) 4 encP 0 1 ([b_5_1,b_7_1,b_9_1,b_11_1]:List Nat) 68,EK b_14_1 c (vP ba_4) (vP ra_3_1) (.slice (some ⟨b_12_1,0,none⟩) 4 4) 0,Eb ba_4 ((mkAr c aw_5 cw_6).store (ctlAt c 0) (bornW 0)),Ea ((mkAr c aw_5 cw_6).store (ctlAt c 0) (bornW 0)),Ed ra_3_1 ((rmAr c (rpackW c) aw_3_1 cw_3_1).store (ctlAt c 0) (bornW 0)) false 0,Ea ((rmAr c (rpackW c) aw_3_1 cw_3_1).store (ctlAt c 0) (bornW 0)),Ec none 0 ([]:List Int)]) (view_nil (encI .i64) 0 1 3 (sizedI _)) ?_
  refine ret_view (L':=[.pts b_1 [vI q0,vI q1,vI q2] 22,Ef b_3 c,Ei b_7_1 0,Ei b_9_1 0,Ei b_11_1 0,.sl (some ⟨b_12_1,0,none⟩) 4 encP 0 1 ([b_5_1,b_7_1,b_9_1,b_11_1]:List Nat) 68,EK b_14_1 c (vP ba_4) (vP ra_3_1) (.slice (some ⟨b_12_1,0,none⟩) 4 4) 0,Eb ba_4 ((mkAr c aw_5 cw_6).store (ctlAt c 0) (bornW 0)),Ea ((mkAr c aw_5 cw_6).store (ctlAt c 0) (bornW 0)),Ed ra_3_1 ((rmAr c (rpackW c) aw_3_1 cw_3_1).store (ctlAt c 0) (bornW 0)) false 0,Ea ((rmAr c (rpackW c) aw_3_1 cw_3_1).store (ctlAt c 0) (bornW 0)),.res (KmR c b_5_1 dK)]) (vK (kmI c dK) (kmL c b_5_1 dK) ⟨.pointer none,.pointer none,.pointer none,none,0,0,0,newRs []⟩ [2,12] trivial) ?_
  refine ret_view (L':=[.pts b_1 [vI q0,vI q1,vI q2] 22,Ef b_3 c,Ei b_7_1 0,Ei b_9_1 0,Ei b_11_1 0,.sl (some ⟨b_12_1,0,none⟩) 4 encP 0 1 ([b_5_1,b_7_1,b_9_1,b_11_1]:List Nat) 68,EK b_14_1 c (vP ba_4) (vP ra_3_1) (.slice (some ⟨b_12_1,0,none⟩) 4 4) 0,Eb ba_4 ((mkAr c aw_5 cw_6).store (ctlAt c 0) (bornW 0)),Ea ((mkAr c aw_5 cw_6).store (ctlAt c 0) (bornW 0)),Ed ra_3_1 ((rmAr c (rpackW c) aw_3_1 cw_3_1).store (ctlAt c 0) (bornW 0)) false 0,Ea ((rmAr c (rpackW c) aw_3_1 cw_3_1).store (ctlAt c 0) (bornW 0)),.res (KmR c b_5_1 dK),Ec none 0 ([]:List Int)]) (view_nil (encI .i64) 0 1 3 (sizedI _)) ?_
  refine ret_view (L':=[.pts b_1 [vI q0,vI q1,vI q2] 22,Ef b_3 c,Ei b_9_1 0,Ei b_11_1 0,.sl (some ⟨b_12_1,0,none⟩) 4 encP 0 1 ([b_5_1,b_7_1,b_9_1,b_11_1]:List Nat) 68,EK b_14_1 c (vP ba_4) (vP ra_3_1) (.slice (some ⟨b_12_1,0,none⟩) 4 4) 0,Eb ba_4 ((mkAr c aw_5 cw_6).store (ctlAt c 0) (bornW 0)),Ea ((mkAr c aw_5 cw_6).store (ctlAt c 0) (bornW 0)),Ed ra_3_1 ((rmAr c (rpackW c) aw_3_1 cw_3_1).store (ctlAt c 0) (bornW 0)) false 0,Ea ((rmAr c (rpackW c) aw_3_1 cw_3_1).store (ctlAt c 0) (bornW 0)),.res (KmR c b_5_1 dK),.res (KmR c b_7_1 dK)]) (vK (kmI c dK) (kmL c b_7_1 dK) ⟨.pointer none,.pointer none,.pointer none,none,0,0,0,newRs []⟩ [2,12] trivial) ?_
  refine ret_view (L':=[.pts b_1 [vI q0,vI q1,vI q2] 22,Ef b_3 c,Ei b_9_1 0,Ei b_11_1 0,.sl (some ⟨b_12_1,0,none⟩) 4 encP 0 1 ([b_5_1,b_7_1,b_9_1,b_11_1]:List Nat) 68,EK b_14_1 c (vP ba_4) (vP ra_3_1) (.slice (some ⟨b_12_1,0,none⟩) 4 4) 0,Eb ba_4 ((mkAr c aw_5 cw_6).store (ctlAt c 0) (bornW 0)),Ea ((mkAr c aw_5 cw_6).store (ctlAt c 0) (bornW 0)),Ed ra_3_1 ((rmAr c (rpackW c) aw_3_1 cw_3_1).store (ctlAt c 0) (bornW 0)) false 0,Ea ((rmAr c (rpackW c) aw_3_1 cw_3_1).store (ctlAt c 0) (bornW 0)),.res (KmR c b_5_1 dK),.res (KmR c b_7_1 dK),Ec none 0 ([]:List Int)]) (view_nil (encI .i64) 0 1 3 (sizedI _)) ?_
  refine ret_view (L':=[.pts b_1 [vI q0,vI q1,vI q2] 22,Ef b_3 c,Ei b_11_1 0,.sl (some ⟨b_12_1,0,none⟩) 4 encP 0 1 ([b_5_1,b_7_1,b_9_1,b_11_1]:List Nat) 68,EK b_14_1 c (vP ba_4) (vP ra_3_1) (.slice (some ⟨b_12_1,0,none⟩) 4 4) 0,Eb ba_4 ((mkAr c aw_5 cw_6).store (ctlAt c 0) (bornW 0)),Ea ((mkAr c aw_5 cw_6).store (ctlAt c 0) (bornW 0)),Ed ra_3_1 ((rmAr c (rpackW c) aw_3_1 cw_3_1).store (ctlAt c 0) (bornW 0)) false 0,Ea ((rmAr c (rpackW c) aw_3_1 cw_3_1).store (ctlAt c 0) (bornW 0)),.res (KmR c b_5_1 dK),.res (KmR c b_7_1 dK),.res (KmR c b_9_1 dK)]) (vK (kmI c dK) (kmL c b_9_1 dK) ⟨.pointer none,.pointer none,.pointer none,none,0,0,0,newRs []⟩ [2,12] trivial) ?_
  refine ret_view (L':=[.pts b_1 [vI q0,vI q1,vI q2] 22,Ef b_3 c,Ei b_11_1 0,.sl (some ⟨b_12_1,0,none⟩) 4 encP 0 1 ([b_5_1,b_7_1,b_9_1,b_11_1]:List Nat) 68,EK b_14_1 c (vP ba_4) (vP ra_3_1) (.slice (some ⟨b_12_1,0,none⟩) 4 4) 0,Eb ba_4 ((mkAr c aw_5 cw_6).store (ctlAt c 0) (bornW 0)),Ea ((mkAr c aw_5 cw_6).store (ctlAt c 0) (bornW 0)),Ed ra_3_1 ((rmAr c (rpackW c) aw_3_1 cw_3_1).store (ctlAt c 0) (bornW 0)) false 0,Ea ((rmAr c (rpackW c) aw_3_1 cw_3_1).store (ctlAt c 0) (bornW 0)),.res (KmR c b_5_1 dK),.res (KmR c b_7_1 dK),.res (KmR c b_9_1 dK),Ec none 0 ([]:List Int)]) (view_nil (encI .i64) 0 1 3 (sizedI _)) ?_
  refine ret_view (L':=[.pts b_1 [vI q0,vI q1,vI q2] 22,Ef b_3 c,.sl (some ⟨b_12_1,0,none⟩) 4 encP 0 1 ([b_5_1,b_7_1,b_9_1,b_11_1]:List Nat) 68,EK b_14_1 c (vP ba_4) (vP ra_3_1) (.slice (some ⟨b_12_1,0,none⟩) 4 4) 0,Eb ba_4 ((mkAr c aw_5 cw_6).store (ctlAt c 0) (bornW 0)),Ea ((mkAr c aw_5 cw_6).store (ctlAt c 0) (bornW 0)),Ed ra_3_1 ((rmAr c (rpackW c) aw_3_1 cw_3_1).store (ctlAt c 0) (bornW 0)) false 0,Ea ((rmAr c (rpackW c) aw_3_1 cw_3_1).store (ctlAt c 0) (bornW 0)),.res (KmR c b_5_1 dK),.res (KmR c b_7_1 dK),.res (KmR c b_9_1 dK),.res (KmR c b_11_1 dK)]) (vK (kmI c dK) (kmL c b_11_1 dK) ⟨.pointer none,.pointer none,.pointer none,none,0,0,0,newRs []⟩ [2,12] trivial) ?_
  refine ret_view (L':=[.pts b_1 [vI q0,vI q1,vI q2] 22,Ef b_3 c,.sl (some ⟨b_12_1,0,none⟩) 4 encP 0 1 ([b_5_1,b_7_1,b_9_1,b_11_1]:List Nat) 68,EK b_14_1 c (vP ba_4) (vP ra_3_1) (.slice (some ⟨b_12_1,0,none⟩) 4 4) 0,Eb ba_4 ((mkAr c aw_5 cw_6).store (ctlAt c 0) (bornW 0)),Ea ((mkAr c aw_5 cw_6).store (ctlAt c 0) (bornW 0)),Ed ra_3_1 ((rmAr c (rpackW c) aw_3_1 cw_3_1).store (ctlAt c 0) (bornW 0)) false 0,Ea ((rmAr c (rpackW c) aw_3_1 cw_3_1).store (ctlAt c 0) (bornW 0)),.res (KnR ([b_5_1,b_7_1,b_9_1,b_11_1]:List Nat) four c)]) (vC [8,9,10,11]) ?_
  refine ret_view (L':=[.pts b_1 [vI q0,vI q1,vI q2] 22,Ef b_3 c,.sl (some ⟨b_12_1,0,none⟩) 4 encP 0 1 ([b_5_1,b_7_1,b_9_1,b_11_1]:List Nat) 68,EK b_14_1 c (vP ba_4) (vP ra_3_1) (.slice (some ⟨b_12_1,0,none⟩) 4 4) 0,Eb ba_4 ((mkAr c aw_5 cw_6).store (ctlAt c 0) (bornW 0)),Ea ((mkAr c aw_5 cw_6).store (ctlAt c 0) (bornW 0)),Ed ra_3_1 ((rmAr c (rpackW c) aw_3_1 cw_3_1).store (ctlAt c 0) (bornW 0)) false 0,Ea ((rmAr c (rpackW c) aw_3_1 cw_3_1).store (ctlAt c 0) (bornW 0)),.res (KnR ([b_5_1,b_7_1,b_9_1,b_11_1]:List Nat) four c),Ec none 0 ([]:List Int)]) (view_nil (encI .i64) 0 1 3 (sizedI _)) ?_
  exact ret_ok (post:=[EK b_14_1 c (vP ba_4) (vP ra_3_1) (.slice (some ⟨b_12_1,0,none⟩) 4 4) 0,.sl (some ⟨b_12_1,0,none⟩) 4 encP 0 1 ([b_5_1,b_7_1,b_9_1,b_11_1]:List Nat) 68,Ec none 0 ([]:List Int),Eb ba_4 ((mkAr c aw_5 cw_6).store (ctlAt c 0) (bornW 0)),Ea ((mkAr c aw_5 cw_6).store (ctlAt c 0) (bornW 0)),Ed ra_3_1 ((rmAr c (rpackW c) aw_3_1 cw_3_1).store (ctlAt c 0) (bornW 0)) false 0,Ea ((rmAr c (rpackW c) aw_3_1 cw_3_1).store (ctlAt c 0) (bornW 0)),.res (KnR ([b_5_1,b_7_1,b_9_1,b_11_1]:List Nat) four c)]) [3,2,9,4,5,6,7,8] kR ⟨b_14_1,ba_4,ra_3_1,(some ⟨b_12_1,0,none⟩),4,[b_5_1,b_7_1,b_9_1,b_11_1],aw_5,cw_6,aw_3_1,cw_3_1,rfl,kR,rfl⟩
 have aS_155:∀(ra_3_1:Nat) (aw_3_1:Option Addr) (cw_3_1:Nat) (b_5_1:Nat) (b_7_1:Nat) (b_9_1:Nat) (b_11_1:Nat) (b_12_1:Nat),Lz prog f26 (bd f26) 35 F (RetR F (Yn_begun c)) (regOps (bd f26) [0,1,1,1,1]) [.c [1,1,1,1,1]] (mk 16 [0,1,2,3,4,5,6,7,8,9,10,11,12]) [0,1] [(28,.slice (some ⟨b_12_1,0,none⟩) 4 4),(19,vP ra_3_1),(3,vP b_3),(4,vP ba_4),(16,cfgV c),(17,vP ba_4)] [.pts b_1 [vI q0,vI q1,vI q2] 22,Ef b_3 c,Eb ba_4 (mkAr c aw_5 cw_6),Ea (mkAr c aw_5 cw_6),Ed ra_3_1 (rmAr c (rpackW c) aw_3_1 cw_3_1) false 0,Ea (rmAr c (rpackW c) aw_3_1 cw_3_1),Ei b_5_1 0,Ei b_7_1 0,Ei b_9_1 0,Ei b_11_1 0,Eaa b_12_1 (vP b_5_1) (vP b_7_1) (vP b_9_1) (vP b_11_1)]:=by
  intro ra_3_1 aw_3_1 cw_3_1 b_5_1 b_7_1 b_9_1 b_11_1 b_12_1
  refine zN [13] [(0,.e 1),(1,.w),(13,.w)] [28,19,3,4,16,17,29] [14] (.e b_3 .n) ⟨?_,trivial⟩
  refine zX .w (sN fun b_14_1=>(sV ?_))
  exact zW [30] [0,1,2,3,4,5,6,7,8,9,10,11] (aS_154 ra_3_1 aw_3_1 cw_3_1 b_5_1 b_7_1 b_9_1 b_11_1 b_12_1 b_14_1)
 have aS_156:∀(ra_3_1:Nat) (aw_3_1:Option Addr) (cw_3_1:Nat) (b_5_1:Nat) (b_7_1:Nat) (b_9_1:Nat) (b_11_1:Nat),Lz prog f26 (bd f26) 35 F (RetR F (Yn_begun c)) (regOps (bd f26) [0,1,1,1,1]) [.c [1,1,1,1,1]] (mk 16 [0,1,2,3,4,5,6,7,8,9,10,11]) [0,1] [(27,vP b_11_1),(25,vP b_9_1),(23,vP b_7_1),(21,vP b_5_1),(19,vP ra_3_1),(3,vP b_3),(4,vP ba_4),(16,cfgV c),(17,vP ba_4)] [.pts b_1 [vI q0,vI q1,vI q2] 22,Ef b_3 c,Eb ba_4 (mkAr c aw_5 cw_6),Ea (mkAr c aw_5 cw_6),Ed ra_3_1 (rmAr c (rpackW c) aw_3_1 cw_3_1) false 0,Ea (rmAr c (rpackW c) aw_3_1 cw_3_1),Ei b_5_1 0,Ei b_7_1 0,Ei b_9_1 0,Ei b_11_1 0]:=by
  intro ra_3_1 aw_3_1 cw_3_1 b_5_1 b_7_1 b_9_1 b_11_1
  refine zN [] (kV 0 [.e 1,.w]) [27,25,23,21,19,3,4,16,17] [12] (.e b_3 .n) ⟨?_,trivial⟩
  refine zX .w (sN fun b_12_1=>(sV ?_))
  exact zW [28,19,3,4,16,17] [0,1,2,3,4,5,6,7,8,9,10] (aS_155 ra_3_1 aw_3_1 cw_3_1 b_5_1 b_7_1 b_9_1 b_11_1 b_12_1)
 have aS_157:∀(b_5_1:Nat) (b_7_1:Nat) (b_9_1:Nat) (b_11_1:Nat) (b_12_1:Nat),Lz prog f26 (bd f26) 35 F (RetR F (Yn_begun c)) (regOps (bd f26) [0,1,1,1,1]) [.c [1,1,1,1,1]] (mk 16 [0,1,2,4,5,6,7,8,9,10,11,12]) [0,1,2] [(28,.slice (some ⟨b_12_1,0,none⟩) 4 4),(3,vP b_3),(4,vP ba_4),(16,cfgV c),(17,vP ba_4),(18,cfgV c)] [.pts b_1 [vI q0,vI q1,vI q2] 22,Ef b_3 c,Eb ba_4 (mkAr c aw_5 cw_6),Ea (mkAr c aw_5 cw_6),Ei b_5_1 0,Ei b_7_1 0,Ei b_9_1 0,Ei b_11_1 0,Eaa b_12_1 (vP b_5_1) (vP b_7_1) (vP b_9_1) (vP b_11_1)]:=by
  intro b_5_1 b_7_1 b_9_1 b_11_1 b_12_1
  refine zN [] (kV 0 [.e 1,.w,.e 1]) [28,3,4,16,17,18] [3] (.e b_3 (.e b_3 .n)) ⟨?_,trivial⟩
  refine zC (some 19) [] call68 (ref_MakeX c hc) ?_
  rintro v post ⟨ra_3_1,aw_3_1,cw_3_1,rfl,rfl⟩
  exact zW [28,19,3,4,16,17] [0,1,2,3,9,10,4,5,6,7,8] (aS_155 ra_3_1 aw_3_1 cw_3_1 b_5_1 b_7_1 b_9_1 b_11_1 b_12_1)
 have aS_158:∀(ra_3_1:Nat) (aw_3_1:Option Addr) (cw_3_1:Nat) (b_5_1:Nat) (b_7_1:Nat) (b_9_1:Nat),Lz prog f26 (bd f26) 35 F (RetR F (Yn_begun c)) (regOps (bd f26) [0,1,1,1,1]) [.c [1,1,1,1,1]] (mk 16 [0,1,2,3,4,5,6,7,8,9,10]) [0,1,10] [(25,vP b_9_1),(23,vP b_7_1),(21,vP b_5_1),(19,vP ra_3_1),(3,vP b_3),(4,vP ba_4),(16,cfgV c),(17,vP ba_4),(26,zK)] [.pts b_1 [vI q0,vI q1,vI q2] 22,Ef b_3 c,Eb ba_4 (mkAr c aw_5 cw_6),Ea (mkAr c aw_5 cw_6),Ed ra_3_1 (rmAr c (rpackW c) aw_3_1 cw_3_1) false 0,Ea (rmAr c (rpackW c) aw_3_1 cw_3_1),Ei b_5_1 0,Ei b_7_1 0,Ei b_9_1 0]:=by
  intro ra_3_1 aw_3_1 cw_3_1 b_5_1 b_7_1 b_9_1
  refine zN [] [(0,.e 1),(1,.w),(10,.w)] [25,23,21,19,3,4,16,17,26] [11] (.e b_3 .n) ⟨?_,trivial⟩
  refine zX .w (sN fun b_11_1=>(sV ?_))
  exact zW [27,25,23,21,19,3,4,16,17] [0,1,2,3,4,5,6,7,8,9] (aS_156 ra_3_1 aw_3_1 cw_3_1 b_5_1 b_7_1 b_9_1 b_11_1)
 have aS_159:∀(ra_3_1:Nat) (aw_3_1:Option Addr) (cw_3_1:Nat) (b_5_1:Nat) (b_7_1:Nat) (b_11_1:Nat),Lz prog f26 (bd f26) 35 F (RetR F (Yn_begun c)) (regOps (bd f26) [0,1,1,1,1]) [.c [1,1,1,1,1]] (mk 16 [0,1,2,3,4,5,6,7,8,10,11]) [0,1,8] [(27,vP b_11_1),(23,vP b_7_1),(21,vP b_5_1),(19,vP ra_3_1),(3,vP b_3),(4,vP ba_4),(16,cfgV c),(17,vP ba_4),(24,zK)] [.pts b_1 [vI q0,vI q1,vI q2] 22,Ef b_3 c,Eb ba_4 (mkAr c aw_5 cw_6),Ea (mkAr c aw_5 cw_6),Ed ra_3_1 (rmAr c (rpackW c) aw_3_1 cw_3_1) false 0,Ea (rmAr c (rpackW c) aw_3_1 cw_3_1),Ei b_5_1 0,Ei b_7_1 0,Ei b_11_1 0]:=by
  intro ra_3_1 aw_3_1 cw_3_1 b_5_1 b_7_1 b_11_1
  refine zN [] [(0,.e 1),(1,.w),(8,.w)] [27,23,21,19,3,4,16,17,24] [9] (.e b_3 .n) ⟨?_,trivial⟩
  refine zX .w (sN fun b_9_1=>(sV ?_))
  exact zW [27,25,23,21,19,3,4,16,17] [0,1,2,3,4,5,6,7,9,8] (aS_156 ra_3_1 aw_3_1 cw_3_1 b_5_1 b_7_1 b_9_1 b_11_1)
 have aS_160:∀(ra_3_1:Nat) (aw_3_1:Option Addr) (cw_3_1:Nat) (b_5_1:Nat) (b_9_1:Nat) (b_11_1:Nat),Lz prog f26 (bd f26) 35 F (RetR F (Yn_begun c)) (regOps (bd f26) [0,1,1,1,1]) [.c [1,1,1,1,1]] (mk 16 [0,1,2,3,4,5,6,8,9,10,11]) [0,1,6] [(27,vP b_11_1),(25,vP b_9_1),(21,vP b_5_1),(19,vP ra_3_1),(3,vP b_3),(4,vP ba_4),(16,cfgV c),(17,vP ba_4),(22,zK)] [.pts b_1 [vI q0,vI q1,vI q2] 22,Ef b_3 c,Eb ba_4 (mkAr c aw_5 cw_6),Ea (mkAr c aw_5 cw_6),Ed ra_3_1 (rmAr c (rpackW c) aw_3_1 cw_3_1) false 0,Ea (rmAr c (rpackW c) aw_3_1 cw_3_1),Ei b_5_1 0,Ei b_9_1 0,Ei b_11_1 0]:=by
  intro ra_3_1 aw_3_1 cw_3_1 b_5_1 b_9_1 b_11_1
  refine zN [] [(0,.e 1),(1,.w),(6,.w)] [27,25,21,19,3,4,16,17,22] [7] (.e b_3 .n) ⟨?_,trivial⟩
  refine zX .w (sN fun b_7_1=>(sV ?_))
  exact zW [27,25,23,21,19,3,4,16,17] [0,1,2,3,4,5,6,9,7,8] (aS_156 ra_3_1 aw_3_1 cw_3_1 b_5_1 b_7_1 b_9_1 b_11_1)
 have aS_161:∀(ra_3_1:Nat) (aw_3_1:Option Addr) (cw_3_1:Nat) (b_7_1:Nat) (b_9_1:Nat) (b_11_1:Nat),Lz prog f26 (bd f26) 35 F (RetR F (Yn_begun c)) (regOps (bd f26) [0,1,1,1,1]) [.c [1,1,1,1,1]] (mk 16 [0,1,2,3,4,6,7,8,9,10,11]) [0,1,4] [(27,vP b_11_1),(25,vP b_9_1),(23,vP b_7_1),(19,vP ra_3_1),(3,vP b_3),(4,vP ba_4),(16,cfgV c),(17,vP ba_4),(20,zK)] [.pts b_1 [vI q0,vI q1,vI q2] 22,Ef b_3 c,Eb ba_4 (mkAr c aw_5 cw_6),Ea (mkAr c aw_5 cw_6),Ed ra_3_1 (rmAr c (rpackW c) aw_3_1 cw_3_1) false 0,Ea (rmAr c (rpackW c) aw_3_1 cw_3_1),Ei b_7_1 0,Ei b_9_1 0,Ei b_11_1 0]:=by
  intro ra_3_1 aw_3_1 cw_3_1 b_7_1 b_9_1 b_11_1
  refine zN [] [(0,.e 1),(1,.w),(4,.w)] [27,25,23,19,3,4,16,17,20] [5] (.e b_3 .n) ⟨?_,trivial⟩
  refine zX .w (sN fun b_5_1=>(sV ?_))
  exact zW [27,25,23,21,19,3,4,16,17] [0,1,2,3,4,5,9,6,7,8] (aS_156 ra_3_1 aw_3_1 cw_3_1 b_5_1 b_7_1 b_9_1 b_11_1)
 have aS_162:∀(b_5_1:Nat) (b_7_1:Nat) (b_9_1:Nat) (b_11_1:Nat),Lz prog f26 (bd f26) 35 F (RetR F (Yn_begun c)) (regOps (bd f26) [0,1,1,1,1]) [.c [1,1,1,1,1]] (mk 16 [0,1,2,4,5,6,7,8,9,10,11]) [0,1,2] [(27,vP b_11_1),(25,vP b_9_1),(23,vP b_7_1),(21,vP b_5_1),(3,vP b_3),(4,vP ba_4),(16,cfgV c),(17,vP ba_4),(18,cfgV c)] [.pts b_1 [vI q0,vI q1,vI q2] 22,Ef b_3 c,Eb ba_4 (mkAr c aw_5 cw_6),Ea (mkAr c aw_5 cw_6),Ei b_5_1 0,Ei b_7_1 0,Ei b_9_1 0,Ei b_11_1 0]:=by
  intro b_5_1 b_7_1 b_9_1 b_11_1
  refine zN [] (kV 0 [.e 1,.w,.e 1]) [27,25,23,21,3,4,16,17,18] [3,12] (.e b_3 (.e b_3 .n)) ⟨?_, ?_,trivial⟩
  ·refine zC (some 19) [] call68 (ref_MakeX c hc) ?_
   rintro v post ⟨ra_3_1,aw_3_1,cw_3_1,rfl,rfl⟩
   exact zW [27,25,23,21,19,3,4,16,17] [0,1,2,3,8,9,4,5,6,7] (aS_156 ra_3_1 aw_3_1 cw_3_1 b_5_1 b_7_1 b_9_1 b_11_1)
  ·refine zX .w (sN fun b_12_1=>(sV ?_))
   exact zW [28,3,4,16,17,18] [0,1,2,3,4,5,6,7,8] (aS_157 b_5_1 b_7_1 b_9_1 b_11_1 b_12_1)
 have aS_163:∀(ra_3_1:Nat) (aw_3_1:Option Addr) (cw_3_1:Nat) (b_5_1:Nat) (b_7_1:Nat),Lz prog f26 (bd f26) 35 F (RetR F (Yn_begun c)) (regOps (bd f26) [0,1,1,1,1]) [.c [1,1,1,1,1]] (mk 16 [0,1,2,3,4,5,6,7,8,10]) [0,1,8,10] [(23,vP b_7_1),(21,vP b_5_1),(19,vP ra_3_1),(3,vP b_3),(4,vP ba_4),(16,cfgV c),(17,vP ba_4),(24,zK),(26,zK)] [.pts b_1 [vI q0,vI q1,vI q2] 22,Ef b_3 c,Eb ba_4 (mkAr c aw_5 cw_6),Ea (mkAr c aw_5 cw_6),Ed ra_3_1 (rmAr c (rpackW c) aw_3_1 cw_3_1) false 0,Ea (rmAr c (rpackW c) aw_3_1 cw_3_1),Ei b_5_1 0,Ei b_7_1 0]:=by
  intro ra_3_1 aw_3_1 cw_3_1 b_5_1 b_7_1
  refine zN [] [(0,.e 1),(1,.w),(8,.w),(10,.w)] [23,21,19,3,4,16,17,24,26] [9,11] (.e b_3 .n) ⟨?_, ?_,trivial⟩
  ·refine zX .w (sN fun b_9_1=>(sV ?_))
   exact zW [25,23,21,19,3,4,16,17,26] [0,1,2,3,4,5,6,7,8] (aS_158 ra_3_1 aw_3_1 cw_3_1 b_5_1 b_7_1 b_9_1)
  ·refine zX .w (sN fun b_11_1=>(sV ?_))
   exact zW [27,23,21,19,3,4,16,17,24] [0,1,2,3,4,5,6,7,8] (aS_159 ra_3_1 aw_3_1 cw_3_1 b_5_1 b_7_1 b_11_1)
 have aS_164:∀(ra_3_1:Nat) (aw_3_1:Option Addr) (cw_3_1:Nat) (b_5_1:Nat) (b_9_1:Nat),Lz prog f26 (bd f26) 35 F (RetR F (Yn_begun c)) (regOps (bd f26) [0,1,1,1,1]) [.c [1,1,1,1,1]] (mk 16 [0,1,2,3,4,5,6,8,9,10]) [0,1,6,10] [(25,vP b_9_1),(21,vP b_5_1),(19,vP ra_3_1),(3,vP b_3),(4,vP ba_4),(16,cfgV c),(17,vP ba_4),(22,zK),(26,zK)] [.pts b_1 [vI q0,vI q1,vI q2] 22,Ef b_3 c,Eb ba_4 (mkAr c aw_5 cw_6),Ea (mkAr c aw_5 cw_6),Ed ra_3_1 (rmAr c (rpackW c) aw_3_1 cw_3_1) false 0,Ea (rmAr c (rpackW c) aw_3_1 cw_3_1),Ei b_5_1 0,Ei b_9_1 0]:=by
  intro ra_3_1 aw_3_1 cw_3_1 b_5_1 b_9_1
  refine zN [] [(0,.e 1),(1,.w),(6,.w),(10,.w)] [25,21,19,3,4,16,17,22,26] [7,11] (.e b_3 .n) ⟨?_, ?_,trivial⟩
  ·refine zX .w (sN fun b_7_1=>(sV ?_))
   exact zW [25,23,21,19,3,4,16,17,26] [0,1,2,3,4,5,6,8,7] (aS_158 ra_3_1 aw_3_1 cw_3_1 b_5_1 b_7_1 b_9_1)
  ·refine zX .w (sN fun b_11_1=>(sV ?_))
   exact zW [27,25,21,19,3,4,16,17,22] [0,1,2,3,4,5,6,7,8] (aS_160 ra_3_1 aw_3_1 cw_3_1 b_5_1 b_9_1 b_11_1)
 have aS_165:∀(ra_3_1:Nat) (aw_3_1:Option Addr) (cw_3_1:Nat) (b_5_1:Nat) (b_11_1:Nat),Lz prog f26 (bd f26) 35 F (RetR F (Yn_begun c)) (regOps (bd f26) [0,1,1,1,1]) [.c [1,1,1,1,1]] (mk 16 [0,1,2,3,4,5,6,8,10,11]) [0,1,6,8] [(27,vP b_11_1),(21,vP b_5_1),(19,vP ra_3_1),(3,vP b_3),(4,vP ba_4),(16,cfgV c),(17,vP ba_4),(22,zK),(24,zK)] [.pts b_1 [vI q0,vI q1,vI q2] 22,Ef b_3 c,Eb ba_4 (mkAr c aw_5 cw_6),Ea (mkAr c aw_5 cw_6),Ed ra_3_1 (rmAr c (rpackW c) aw_3_1 cw_3_1) false 0,Ea (rmAr c (rpackW c) aw_3_1 cw_3_1),Ei b_5_1 0,Ei b_11_1 0]:=by
  intro ra_3_1 aw_3_1 cw_3_1 b_5_1 b_11_1
  refine zN [] [(0,.e 1),(1,.w),(6,.w),(8,.w)] [27,21,19,3,4,16,17,22,24] [7,9] (.e b_3 .n) ⟨?_, ?_,trivial⟩
  ·refine zX .w (sN fun b_7_1=>(sV ?_))
   exact zW [27,23,21,19,3,4,16,17,24] [0,1,2,3,4,5,6,8,7] (aS_159 ra_3_1 aw_3_1 cw_3_1 b_5_1 b_7_1 b_11_1)
  ·refine zX .w (sN fun b_9_1=>(sV ?_))
   exact zW [27,25,21,19,3,4,16,17,22] [0,1,2,3,4,5,6,8,7] (aS_160 ra_3_1 aw_3_1 cw_3_1 b_5_1 b_9_1 b_11_1)
 have aS_166:∀(ra_3_1:Nat) (aw_3_1:Option Addr) (cw_3_1:Nat) (b_7_1:Nat) (b_9_1:Nat),Lz prog f26 (bd f26) 35 F (RetR F (Yn_begun c)) (regOps (bd f26) [0,1,1,1,1]) [.c [1,1,1,1,1]] (mk 16 [0,1,2,3,4,6,7,8,9,10]) [0,1,4,10] [(25,vP b_9_1),(23,vP b_7_1),(19,vP ra_3_1),(3,vP b_3),(4,vP ba_4),(16,cfgV c),(17,vP ba_4),(20,zK),(26,zK)] [.pts b_1 [vI q0,vI q1,vI q2] 22,Ef b_3 c,Eb ba_4 (mkAr c aw_5 cw_6),Ea (mkAr c aw_5 cw_6),Ed ra_3_1 (rmAr c (rpackW c) aw_3_1 cw_3_1) false 0,Ea (rmAr c (rpackW c) aw_3_1 cw_3_1),Ei b_7_1 0,Ei b_9_1 0]:=by
  intro ra_3_1 aw_3_1 cw_3_1 b_7_1 b_9_1
  refine zN [] [(0,.e 1),(1,.w),(4,.w),(10,.w)] [25,23,19,3,4,16,17,20,26] [5,11] (.e b_3 .n) ⟨?_, ?_,trivial⟩
  ·refine zX .w (sN fun b_5_1=>(sV ?_))
   exact zW [25,23,21,19,3,4,16,17,26] [0,1,2,3,4,5,8,6,7] (aS_158 ra_3_1 aw_3_1 cw_3_1 b_5_1 b_7_1 b_9_1)
  ·refine zX .w (sN fun b_11_1=>(sV ?_))
   exact zW [27,25,23,19,3,4,16,17,20] [0,1,2,3,4,5,6,7,8] (aS_161 ra_3_1 aw_3_1 cw_3_1 b_7_1 b_9_1 b_11_1)
 have aS_167:∀(ra_3_1:Nat) (aw_3_1:Option Addr) (cw_3_1:Nat) (b_7_1:Nat) (b_11_1:Nat),Lz prog f26 (bd f26) 35 F (RetR F (Yn_begun c)) (regOps (bd f26) [0,1,1,1,1]) [.c [1,1,1,1,1]] (mk 16 [0,1,2,3,4,6,7,8,10,11]) [0,1,4,8] [(27,vP b_11_1),(23,vP b_7_1),(19,vP ra_3_1),(3,vP b_3),(4,vP ba_4),(16,cfgV c),(17,vP ba_4),(20,zK),(24,zK)] [.pts b_1 [vI q0,vI q1,vI q2] 22,Ef b_3 c,Eb ba_4 (mkAr c aw_5 cw_6),Ea (mkAr c aw_5 cw_6),Ed ra_3_1 (rmAr c (rpackW c) aw_3_1 cw_3_1) false 0,Ea (rmAr c (rpackW c) aw_3_1 cw_3_1),Ei b_7_1 0,Ei b_11_1 0]:=by
  intro ra_3_1 aw_3_1 cw_3_1 b_7_1 b_11_1
  refine zN [] [(0,.e 1),(1,.w),(4,.w),(8,.w)] [27,23,19,3,4,16,17,20,24] [5,9] (.e b_3 .n) ⟨?_, ?_,trivial⟩
  ·refine zX .w (sN fun b_5_1=>(sV ?_))
   exact zW [27,23,21,19,3,4,16,17,24] [0,1,2,3,4,5,8,6,7] (aS_159 ra_3_1 aw_3_1 cw_3_1 b_5_1 b_7_1 b_11_1)
  ·refine zX .w (sN fun b_9_1=>(sV ?_))
   exact zW [27,25,23,19,3,4,16,17,20] [0,1,2,3,4,5,6,8,7] (aS_161 ra_3_1 aw_3_1 cw_3_1 b_7_1 b_9_1 b_11_1)
 have aS_168:∀(ra_3_1:Nat) (aw_3_1:Option Addr) (cw_3_1:Nat) (b_9_1:Nat) (b_11_1:Nat),Lz prog f26 (bd f26) 35 F (RetR F (Yn_begun c)) (regOps (bd f26) [0,1,1,1,1]) [.c [1,1,1,1,1]] (mk 16 [0,1,2,3,4,6,8,9,10,11]) [0,1,4,6] [(27,vP b_11_1),(25,vP b_9_1),(19,vP ra_3_1),(3,vP b_3),(4,vP ba_4),(16,cfgV c),(17,vP ba_4),(20,zK),(22,zK)] [.pts b_1 [vI q0,vI q1,vI q2] 22,Ef b_3 c,Eb ba_4 (mkAr c aw_5 cw_6),Ea (mkAr c aw_5 cw_6),Ed ra_3_1 (rmAr c (rpackW c) aw_3_1 cw_3_1) false 0,Ea (rmAr c (rpackW c) aw_3_1 cw_3_1),Ei b_9_1 0,Ei b_11_1 0]:=by
  intro ra_3_1 aw_3_1 cw_3_1 b_9_1 b_11_1
  refine zN [] [(0,.e 1),(1,.w),(4,.w),(6,.w)] [27,25,19,3,4,16,17,20,22] [5,7] (.e b_3 .n) ⟨?_, ?_,trivial⟩
  ·refine zX .w (sN fun b_5_1=>(sV ?_))
   exact zW [27,25,21,19,3,4,16,17,22] [0,1,2,3,4,5,8,6,7] (aS_160 ra_3_1 aw_3_1 cw_3_1 b_5_1 b_9_1 b_11_1)
  ·refine zX .w (sN fun b_7_1=>(sV ?_))
   exact zW [27,25,23,19,3,4,16,17,20] [0,1,2,3,4,5,8,6,7] (aS_161 ra_3_1 aw_3_1 cw_3_1 b_7_1 b_9_1 b_11_1)
 have aS_169:∀(b_5_1:Nat) (b_7_1:Nat) (b_9_1:Nat),Lz prog f26 (bd f26) 35 F (RetR F (Yn_begun c)) (regOps (bd f26) [0,1,1,1,1]) [.c [1,1,1,1,1]] (mk 16 [0,1,2,4,5,6,7,8,9,10]) [0,1,2,10] [(25,vP b_9_1),(23,vP b_7_1),(21,vP b_5_1),(3,vP b_3),(4,vP ba_4),(16,cfgV c),(17,vP ba_4),(18,cfgV c),(26,zK)] [.pts b_1 [vI q0,vI q1,vI q2] 22,Ef b_3 c,Eb ba_4 (mkAr c aw_5 cw_6),Ea (mkAr c aw_5 cw_6),Ei b_5_1 0,Ei b_7_1 0,Ei b_9_1 0]:=by
  intro b_5_1 b_7_1 b_9_1
  refine zN [] [(0,.e 1),(1,.w),(2,.e 1),(10,.w)] [25,23,21,3,4,16,17,18,26] [3,11] (.e b_3 (.e b_3 .n)) ⟨?_, ?_,trivial⟩
  ·refine zC (some 19) [] call68 (ref_MakeX c hc) ?_
   rintro v post ⟨ra_3_1,aw_3_1,cw_3_1,rfl,rfl⟩
   exact zW [25,23,21,19,3,4,16,17,26] [0,1,2,3,7,8,4,5,6] (aS_158 ra_3_1 aw_3_1 cw_3_1 b_5_1 b_7_1 b_9_1)
  ·refine zX .w (sN fun b_11_1=>(sV ?_))
   exact zW [27,25,23,21,3,4,16,17,18] [0,1,2,3,4,5,6,7] (aS_162 b_5_1 b_7_1 b_9_1 b_11_1)
 have aS_170:∀(b_5_1:Nat) (b_7_1:Nat) (b_11_1:Nat),Lz prog f26 (bd f26) 35 F (RetR F (Yn_begun c)) (regOps (bd f26) [0,1,1,1,1]) [.c [1,1,1,1,1]] (mk 16 [0,1,2,4,5,6,7,8,10,11]) [0,1,2,8] [(27,vP b_11_1),(23,vP b_7_1),(21,vP b_5_1),(3,vP b_3),(4,vP ba_4),(16,cfgV c),(17,vP ba_4),(18,cfgV c),(24,zK)] [.pts b_1 [vI q0,vI q1,vI q2] 22,Ef b_3 c,Eb ba_4 (mkAr c aw_5 cw_6),Ea (mkAr c aw_5 cw_6),Ei b_5_1 0,Ei b_7_1 0,Ei b_11_1 0]:=by
  intro b_5_1 b_7_1 b_11_1
  refine zN [] [(0,.e 1),(1,.w),(2,.e 1),(8,.w)] [27,23,21,3,4,16,17,18,24] [3,9] (.e b_3 (.e b_3 .n)) ⟨?_, ?_,trivial⟩
  ·refine zC (some 19) [] call68 (ref_MakeX c hc) ?_
   rintro v post ⟨ra_3_1,aw_3_1,cw_3_1,rfl,rfl⟩
   exact zW [27,23,21,19,3,4,16,17,24] [0,1,2,3,7,8,4,5,6] (aS_159 ra_3_1 aw_3_1 cw_3_1 b_5_1 b_7_1 b_11_1)
  ·refine zX .w (sN fun b_9_1=>(sV ?_))
   exact zW [27,25,23,21,3,4,16,17,18] [0,1,2,3,4,5,7,6] (aS_162 b_5_1 b_7_1 b_9_1 b_11_1)
 have aS_171:∀(b_5_1:Nat) (b_9_1:Nat) (b_11_1:Nat),Lz prog f26 (bd f26) 35 F (RetR F (Yn_begun c)) (regOps (bd f26) [0,1,1,1,1]) [.c [1,1,1,1,1]] (mk 16 [0,1,2,4,5,6,8,9,10,11]) [0,1,2,6] [(27,vP b_11_1),(25,vP b_9_1),(21,vP b_5_1),(3,vP b_3),(4,vP ba_4),(16,cfgV c),(17,vP ba_4),(18,cfgV c),(22,zK)] [.pts b_1 [vI q0,vI q1,vI q2] 22,Ef b_3 c,Eb ba_4 (mkAr c aw_5 cw_6),Ea (mkAr c aw_5 cw_6),Ei b_5_1 0,Ei b_9_1 0,Ei b_11_1 0]:=by
  intro b_5_1 b_9_1 b_11_1
  refine zN [] [(0,.e 1),(1,.w),(2,.e 1),(6,.w)] [27,25,21,3,4,16,17,18,22] [3,7] (.e b_3 (.e b_3 .n)) ⟨?_, ?_,trivial⟩
  ·refine zC (some 19) [] call68 (ref_MakeX c hc) ?_
   rintro v post ⟨ra_3_1,aw_3_1,cw_3_1,rfl,rfl⟩
   exact zW [27,25,21,19,3,4,16,17,22] [0,1,2,3,7,8,4,5,6] (aS_160 ra_3_1 aw_3_1 cw_3_1 b_5_1 b_9_1 b_11_1)
  ·refine zX .w (sN fun b_7_1=>(sV ?_))
   exact zW [27,25,23,21,3,4,16,17,18] [0,1,2,3,4,7,5,6] (aS_162 b_5_1 b_7_1 b_9_1 b_11_1)
 have aS_172:∀(b_7_1:Nat) (b_9_1:Nat) (b_11_1:Nat),Lz prog f26 (bd f26) 35 F (RetR F (Yn_begun c)) (regOps (bd f26) [0,1,1,1,1]) [.c [1,1,1,1,1]] (mk 16 [0,1,2,4,6,7,8,9,10,11]) [0,1,2,4] [(27,vP b_11_1),(25,vP b_9_1),(23,vP b_7_1),(3,vP b_3),(4,vP ba_4),(16,cfgV c),(17,vP ba_4),(18,cfgV c),(20,zK)] [.pts b_1 [vI q0,vI q1,vI q2] 22,Ef b_3 c,Eb ba_4 (mkAr c aw_5 cw_6),Ea (mkAr c aw_5 cw_6),Ei b_7_1 0,Ei b_9_1 0,Ei b_11_1 0]:=by
  intro b_7_1 b_9_1 b_11_1
  refine zN [] [(0,.e 1),(1,.w),(2,.e 1),(4,.w)] [27,25,23,3,4,16,17,18,20] [3,5] (.e b_3 (.e b_3 .n)) ⟨?_, ?_,trivial⟩
  ·refine zC (some 19) [] call68 (ref_MakeX c hc) ?_
   rintro v post ⟨ra_3_1,aw_3_1,cw_3_1,rfl,rfl⟩
   exact zW [27,25,23,19,3,4,16,17,20] [0,1,2,3,7,8,4,5,6] (aS_161 ra_3_1 aw_3_1 cw_3_1 b_7_1 b_9_1 b_11_1)
  ·refine zX .w (sN fun b_5_1=>(sV ?_))
   exact zW [27,25,23,21,3,4,16,17,18] [0,1,2,3,7,4,5,6] (aS_162 b_5_1 b_7_1 b_9_1 b_11_1)
 have aS_173:∀(ra_3_1:Nat) (aw_3_1:Option Addr) (cw_3_1:Nat) (b_5_1:Nat),Lz prog f26 (bd f26) 35 F (RetR F (Yn_begun c)) (regOps (bd f26) [0,1,1,1,1]) [.c [1,1,1,1,1]] (mk 16 [0,1,2,3,4,5,6,8,10]) [0,1,6,8,10] [(21,vP b_5_1),(19,vP ra_3_1),(3,vP b_3),(4,vP ba_4),(16,cfgV c),(17,vP ba_4),(22,zK),(24,zK),(26,zK)] [.pts b_1 [vI q0,vI q1,vI q2] 22,Ef b_3 c,Eb ba_4 (mkAr c aw_5 cw_6),Ea (mkAr c aw_5 cw_6),Ed ra_3_1 (rmAr c (rpackW c) aw_3_1 cw_3_1) false 0,Ea (rmAr c (rpackW c) aw_3_1 cw_3_1),Ei b_5_1 0]:=by
  intro ra_3_1 aw_3_1 cw_3_1 b_5_1
  refine zN [] [(0,.e 1),(1,.w),(6,.w),(8,.w),(10,.w)] [21,19,3,4,16,17,22,24,26] [7,9,11] (.e b_3 .n) ⟨?_, ?_, ?_,trivial⟩
  ·refine zX .w (sN fun b_7_1=>(sV ?_))
   exact zW [23,21,19,3,4,16,17,24,26] [0,1,2,3,4,5,6,7] (aS_163 ra_3_1 aw_3_1 cw_3_1 b_5_1 b_7_1)
  ·refine zX .w (sN fun b_9_1=>(sV ?_))
   exact zW [25,21,19,3,4,16,17,22,26] [0,1,2,3,4,5,6,7] (aS_164 ra_3_1 aw_3_1 cw_3_1 b_5_1 b_9_1)
  ·refine zX .w (sN fun b_11_1=>(sV ?_))
   exact zW [27,21,19,3,4,16,17,22,24] [0,1,2,3,4,5,6,7] (aS_165 ra_3_1 aw_3_1 cw_3_1 b_5_1 b_11_1)
 have aS_174:∀(ra_3_1:Nat) (aw_3_1:Option Addr) (cw_3_1:Nat) (b_7_1:Nat),Lz prog f26 (bd f26) 35 F (RetR F (Yn_begun c)) (regOps (bd f26) [0,1,1,1,1]) [.c [1,1,1,1,1]] (mk 16 [0,1,2,3,4,6,7,8,10]) [0,1,4,8,10] [(23,vP b_7_1),(19,vP ra_3_1),(3,vP b_3),(4,vP ba_4),(16,cfgV c),(17,vP ba_4),(20,zK),(24,zK),(26,zK)] [.pts b_1 [vI q0,vI q1,vI q2] 22,Ef b_3 c,Eb ba_4 (mkAr c aw_5 cw_6),Ea (mkAr c aw_5 cw_6),Ed ra_3_1 (rmAr c (rpackW c) aw_3_1 cw_3_1) false 0,Ea (rmAr c (rpackW c) aw_3_1 cw_3_1),Ei b_7_1 0]:=by
  intro ra_3_1 aw_3_1 cw_3_1 b_7_1
  refine zN [] [(0,.e 1),(1,.w),(4,.w),(8,.w),(10,.w)] [23,19,3,4,16,17,20,24,26] [5,9,11] (.e b_3 .n) ⟨?_, ?_, ?_,trivial⟩
  ·refine zX .w (sN fun b_5_1=>(sV ?_))
   exact zW [23,21,19,3,4,16,17,24,26] [0,1,2,3,4,5,7,6] (aS_163 ra_3_1 aw_3_1 cw_3_1 b_5_1 b_7_1)
  ·refine zX .w (sN fun b_9_1=>(sV ?_))
   exact zW [25,23,19,3,4,16,17,20,26] [0,1,2,3,4,5,6,7] (aS_166 ra_3_1 aw_3_1 cw_3_1 b_7_1 b_9_1)
  ·refine zX .w (sN fun b_11_1=>(sV ?_))
   exact zW [27,23,19,3,4,16,17,20,24] [0,1,2,3,4,5,6,7] (aS_167 ra_3_1 aw_3_1 cw_3_1 b_7_1 b_11_1)
 have aS_175:∀(ra_3_1:Nat) (aw_3_1:Option Addr) (cw_3_1:Nat) (b_9_1:Nat),Lz prog f26 (bd f26) 35 F (RetR F (Yn_begun c)) (regOps (bd f26) [0,1,1,1,1]) [.c [1,1,1,1,1]] (mk 16 [0,1,2,3,4,6,8,9,10]) [0,1,4,6,10] [(25,vP b_9_1),(19,vP ra_3_1),(3,vP b_3),(4,vP ba_4),(16,cfgV c),(17,vP ba_4),(20,zK),(22,zK),(26,zK)] [.pts b_1 [vI q0,vI q1,vI q2] 22,Ef b_3 c,Eb ba_4 (mkAr c aw_5 cw_6),Ea (mkAr c aw_5 cw_6),Ed ra_3_1 (rmAr c (rpackW c) aw_3_1 cw_3_1) false 0,Ea (rmAr c (rpackW c) aw_3_1 cw_3_1),Ei b_9_1 0]:=by
  intro ra_3_1 aw_3_1 cw_3_1 b_9_1
  refine zN [] [(0,.e 1),(1,.w),(4,.w),(6,.w),(10,.w)] [25,19,3,4,16,17,20,22,26] [5,7,11] (.e b_3 .n) ⟨?_, ?_, ?_,trivial⟩
  ·refine zX .w (sN fun b_5_1=>(sV ?_))
   exact zW [25,21,19,3,4,16,17,22,26] [0,1,2,3,4,5,7,6] (aS_164 ra_3_1 aw_3_1 cw_3_1 b_5_1 b_9_1)
  ·refine zX .w (sN fun b_7_1=>(sV ?_))
   exact zW [25,23,19,3,4,16,17,20,26] [0,1,2,3,4,5,7,6] (aS_166 ra_3_1 aw_3_1 cw_3_1 b_7_1 b_9_1)
  ·refine zX .w (sN fun b_11_1=>(sV ?_))
   exact zW [27,25,19,3,4,16,17,20,22] [0,1,2,3,4,5,6,7] (aS_168 ra_3_1 aw_3_1 cw_3_1 b_9_1 b_11_1)
 have aS_176:∀(ra_3_1:Nat) (aw_3_1:Option Addr) (cw_3_1:Nat) (b_11_1:Nat),Lz prog f26 (bd f26) 35 F (RetR F (Yn_begun c)) (regOps (bd f26) [0,1,1,1,1]) [.c [1,1,1,1,1]] (mk 16 [0,1,2,3,4,6,8,10,11]) [0,1,4,6,8] [(27,vP b_11_1),(19,vP ra_3_1),(3,vP b_3),(4,vP ba_4),(16,cfgV c),(17,vP ba_4),(20,zK),(22,zK),(24,zK)] [.pts b_1 [vI q0,vI q1,vI q2] 22,Ef b_3 c,Eb ba_4 (mkAr c aw_5 cw_6),Ea (mkAr c aw_5 cw_6),Ed ra_3_1 (rmAr c (rpackW c) aw_3_1 cw_3_1) false 0,Ea (rmAr c (rpackW c) aw_3_1 cw_3_1),Ei b_11_1 0]:=by
  intro ra_3_1 aw_3_1 cw_3_1 b_11_1
  refine zN [] [(0,.e 1),(1,.w),(4,.w),(6,.w),(8,.w)] [27,19,3,4,16,17,20,22,24] [5,7,9] (.e b_3 .n) ⟨?_, ?_, ?_,trivial⟩
  ·refine zX .w (sN fun b_5_1=>(sV ?_))
   exact zW [27,21,19,3,4,16,17,22,24] [0,1,2,3,4,5,7,6] (aS_165 ra_3_1 aw_3_1 cw_3_1 b_5_1 b_11_1)
  ·refine zX .w (sN fun b_7_1=>(sV ?_))
   exact zW [27,23,19,3,4,16,17,20,24] [0,1,2,3,4,5,7,6] (aS_167 ra_3_1 aw_3_1 cw_3_1 b_7_1 b_11_1)
  ·refine zX .w (sN fun b_9_1=>(sV ?_))
   exact zW [27,25,19,3,4,16,17,20,22] [0,1,2,3,4,5,7,6] (aS_168 ra_3_1 aw_3_1 cw_3_1 b_9_1 b_11_1)
 have aS_177:∀(b_5_1:Nat) (b_7_1:Nat),Lz prog f26 (bd f26) 35 F (RetR F (Yn_begun c)) (regOps (bd f26) [0,1,1,1,1]) [.c [1,1,1,1,1]] (mk 16 [0,1,2,4,5,6,7,8,10]) [0,1,2,8,10] [(23,vP b_7_1),(21,vP b_5_1),(3,vP b_3),(4,vP ba_4),(16,cfgV c),(17,vP ba_4),(18,cfgV c),(24,zK),(26,zK)] [.pts b_1 [vI q0,vI q1,vI q2] 22,Ef b_3 c,Eb ba_4 (mkAr c aw_5 cw_6),Ea (mkAr c aw_5 cw_6),Ei b_5_1 0,Ei b_7_1 0]:=by
  intro b_5_1 b_7_1
  refine zN [] [(0,.e 1),(1,.w),(2,.e 1),(8,.w),(10,.w)] [23,21,3,4,16,17,18,24,26] [3,9,11] (.e b_3 (.e b_3 .n)) ⟨?_, ?_, ?_,trivial⟩
  ·refine zC (some 19) [] call68 (ref_MakeX c hc) ?_
   rintro v post ⟨ra_3_1,aw_3_1,cw_3_1,rfl,rfl⟩
   exact zW [23,21,19,3,4,16,17,24,26] [0,1,2,3,6,7,4,5] (aS_163 ra_3_1 aw_3_1 cw_3_1 b_5_1 b_7_1)
  ·refine zX .w (sN fun b_9_1=>(sV ?_))
   exact zW [25,23,21,3,4,16,17,18,26] [0,1,2,3,4,5,6] (aS_169 b_5_1 b_7_1 b_9_1)
  ·refine zX .w (sN fun b_11_1=>(sV ?_))
   exact zW [27,23,21,3,4,16,17,18,24] [0,1,2,3,4,5,6] (aS_170 b_5_1 b_7_1 b_11_1)
 have aS_178:∀(b_5_1:Nat) (b_9_1:Nat),Lz prog f26 (bd f26) 35 F (RetR F (Yn_begun c)) (regOps (bd f26) [0,1,1,1,1]) [.c [1,1,1,1,1]] (mk 16 [0,1,2,4,5,6,8,9,10]) [0,1,2,6,10] [(25,vP b_9_1),(21,vP b_5_1),(3,vP b_3),(4,vP ba_4),(16,cfgV c),(17,vP ba_4),(18,cfgV c),(22,zK),(26,zK)] [.pts b_1 [vI q0,vI q1,vI q2] 22,Ef b_3 c,Eb ba_4 (mkAr c aw_5 cw_6),Ea (mkAr c aw_5 cw_6),Ei b_5_1 0,Ei b_9_1 0]:=by
  intro b_5_1 b_9_1
  refine zN [] [(0,.e 1),(1,.w),(2,.e 1),(6,.w),(10,.w)] [25,21,3,4,16,17,18,22,26] [3,7,11] (.e b_3 (.e b_3 .n)) ⟨?_, ?_, ?_,trivial⟩
  ·refine zC (some 19) [] call68 (ref_MakeX c hc) ?_
   rintro v post ⟨ra_3_1,aw_3_1,cw_3_1,rfl,rfl⟩
   exact zW [25,21,19,3,4,16,17,22,26] [0,1,2,3,6,7,4,5] (aS_164 ra_3_1 aw_3_1 cw_3_1 b_5_1 b_9_1)
  ·refine zX .w (sN fun b_7_1=>(sV ?_))
   exact zW [25,23,21,3,4,16,17,18,26] [0,1,2,3,4,6,5] (aS_169 b_5_1 b_7_1 b_9_1)
  ·refine zX .w (sN fun b_11_1=>(sV ?_))
   exact zW [27,25,21,3,4,16,17,18,22] [0,1,2,3,4,5,6] (aS_171 b_5_1 b_9_1 b_11_1)
 have aS_179:∀(b_5_1:Nat) (b_11_1:Nat),Lz prog f26 (bd f26) 35 F (RetR F (Yn_begun c)) (regOps (bd f26) [0,1,1,1,1]) [.c [1,1,1,1,1]] (mk 16 [0,1,2,4,5,6,8,10,11]) [0,1,2,6,8] [(27,vP b_11_1),(21,vP b_5_1),(3,vP b_3),(4,vP ba_4),(16,cfgV c),(17,vP ba_4),(18,cfgV c),(22,zK),(24,zK)] [.pts b_1 [vI q0,vI q1,vI q2] 22,Ef b_3 c,Eb ba_4 (mkAr c aw_5 cw_6),Ea (mkAr c aw_5 cw_6),Ei b_5_1 0,Ei b_11_1 0]:=by
  intro b_5_1 b_11_1
  refine zN [] [(0,.e 1),(1,.w),(2,.e 1),(6,.w),(8,.w)] [27,21,3,4,16,17,18,22,24] [3,7,9] (.e b_3 (.e b_3 .n)) ⟨?_, ?_, ?_,trivial⟩
  ·refine zC (some 19) [] call68 (ref_MakeX c hc) ?_
   rintro v post ⟨ra_3_1,aw_3_1,cw_3_1,rfl,rfl⟩
   exact zW [27,21,19,3,4,16,17,22,24] [0,1,2,3,6,7,4,5] (aS_165 ra_3_1 aw_3_1 cw_3_1 b_5_1 b_11_1)
  ·refine zX .w (sN fun b_7_1=>(sV ?_))
   exact zW [27,23,21,3,4,16,17,18,24] [0,1,2,3,4,6,5] (aS_170 b_5_1 b_7_1 b_11_1)
  ·refine zX .w (sN fun b_9_1=>(sV ?_))
   exact zW [27,25,21,3,4,16,17,18,22] [0,1,2,3,4,6,5] (aS_171 b_5_1 b_9_1 b_11_1)
 have aS_180:∀(b_7_1:Nat) (b_9_1:Nat),Lz prog f26 (bd f26) 35 F (RetR F (Yn_begun c)) (regOps (bd f26) [0,1,1,1,1]) [.c [1,1,1,1,1]] (mk 16 [0,1,2,4,6,7,8,9,10]) [0,1,2,4,10] [(25,vP b_9_1),(23,vP b_7_1),(3,vP b_3),(4,vP ba_4),(16,cfgV c),(17,vP ba_4),(18,cfgV c),(20,zK),(26,zK)] [.pts b_1 [vI q0,vI q1,vI q2] 22,Ef b_3 c,Eb ba_4 (mkAr c aw_5 cw_6),Ea (mkAr c aw_5 cw_6),Ei b_7_1 0,Ei b_9_1 0]:=by
  intro b_7_1 b_9_1
  refine zN [] [(0,.e 1),(1,.w),(2,.e 1),(4,.w),(10,.w)] [25,23,3,4,16,17,18,20,26] [3,5,11] (.e b_3 (.e b_3 .n)) ⟨?_, ?_, ?_,trivial⟩
  ·refine zC (some 19) [] call68 (ref_MakeX c hc) ?_
   rintro v post ⟨ra_3_1,aw_3_1,cw_3_1,rfl,rfl⟩
   exact zW [25,23,19,3,4,16,17,20,26] [0,1,2,3,6,7,4,5] (aS_166 ra_3_1 aw_3_1 cw_3_1 b_7_1 b_9_1)
  ·refine zX .w (sN fun b_5_1=>(sV ?_))
   exact zW [25,23,21,3,4,16,17,18,26] [0,1,2,3,6,4,5] (aS_169 b_5_1 b_7_1 b_9_1)
  ·refine zX .w (sN fun b_11_1=>(sV ?_))
   exact zW [27,25,23,3,4,16,17,18,20] [0,1,2,3,4,5,6] (aS_172 b_7_1 b_9_1 b_11_1)
 have aS_181:∀(b_7_1:Nat) (b_11_1:Nat),Lz prog f26 (bd f26) 35 F (RetR F (Yn_begun c)) (regOps (bd f26) [0,1,1,1,1]) [.c [1,1,1,1,1]] (mk 16 [0,1,2,4,6,7,8,10,11]) [0,1,2,4,8] [(27,vP b_11_1),(23,vP b_7_1),(3,vP b_3),(4,vP ba_4),(16,cfgV c),(17,vP ba_4),(18,cfgV c),(20,zK),(24,zK)] [.pts b_1 [vI q0,vI q1,vI q2] 22,Ef b_3 c,Eb ba_4 (mkAr c aw_5 cw_6),Ea (mkAr c aw_5 cw_6),Ei b_7_1 0,Ei b_11_1 0]:=by
  intro b_7_1 b_11_1
  refine zN [] [(0,.e 1),(1,.w),(2,.e 1),(4,.w),(8,.w)] [27,23,3,4,16,17,18,20,24] [3,5,9] (.e b_3 (.e b_3 .n)) ⟨?_, ?_, ?_,trivial⟩
  ·refine zC (some 19) [] call68 (ref_MakeX c hc) ?_
   rintro v post ⟨ra_3_1,aw_3_1,cw_3_1,rfl,rfl⟩
   exact zW [27,23,19,3,4,16,17,20,24] [0,1,2,3,6,7,4,5] (aS_167 ra_3_1 aw_3_1 cw_3_1 b_7_1 b_11_1)
  ·refine zX .w (sN fun b_5_1=>(sV ?_))
   exact zW [27,23,21,3,4,16,17,18,24] [0,1,2,3,6,4,5] (aS_170 b_5_1 b_7_1 b_11_1)
  ·refine zX .w (sN fun b_9_1=>(sV ?_))
   exact zW [27,25,23,3,4,16,17,18,20] [0,1,2,3,4,6,5] (aS_172 b_7_1 b_9_1 b_11_1)
 have aS_182:∀(b_9_1:Nat) (b_11_1:Nat),Lz prog f26 (bd f26) 35 F (RetR F (Yn_begun c)) (regOps (bd f26) [0,1,1,1,1]) [.c [1,1,1,1,1]] (mk 16 [0,1,2,4,6,8,9,10,11]) [0,1,2,4,6] [(27,vP b_11_1),(25,vP b_9_1),(3,vP b_3),(4,vP ba_4),(16,cfgV c),(17,vP ba_4),(18,cfgV c),(20,zK),(22,zK)] [.pts b_1 [vI q0,vI q1,vI q2] 22,Ef b_3 c,Eb ba_4 (mkAr c aw_5 cw_6),Ea (mkAr c aw_5 cw_6),Ei b_9_1 0,Ei b_11_1 0]:=by
  intro b_9_1 b_11_1
  refine zN [] [(0,.e 1),(1,.w),(2,.e 1),(4,.w),(6,.w)] [27,25,3,4,16,17,18,20,22] [3,5,7] (.e b_3 (.e b_3 .n)) ⟨?_, ?_, ?_,trivial⟩
  ·refine zC (some 19) [] call68 (ref_MakeX c hc) ?_
   rintro v post ⟨ra_3_1,aw_3_1,cw_3_1,rfl,rfl⟩
   exact zW [27,25,19,3,4,16,17,20,22] [0,1,2,3,6,7,4,5] (aS_168 ra_3_1 aw_3_1 cw_3_1 b_9_1 b_11_1)
  ·refine zX .w (sN fun b_5_1=>(sV ?_))
   exact zW [27,25,21,3,4,16,17,18,22] [0,1,2,3,6,4,5] (aS_171 b_5_1 b_9_1 b_11_1)
  ·refine zX .w (sN fun b_7_1=>(sV ?_))
   exact zW [27,25,23,3,4,16,17,18,20] [0,1,2,3,6,4,5] (aS_172 b_7_1 b_9_1 b_11_1)
 have aS_183:∀(ra_3_1:Nat) (aw_3_1:Option Addr) (cw_3_1:Nat),Lz prog f26 (bd f26) 35 F (RetR F (Yn_begun c)) (regOps (bd f26) [0,1,1,1,1]) [.c [1,1,1,1,1]] (mk 16 [0,1,2,3,4,6,8,10]) [0,1,4,6,8,10] [(19,vP ra_3_1),(3,vP b_3),(4,vP ba_4),(16,cfgV c),(17,vP ba_4),(20,zK),(22,zK),(24,zK),(26,zK)] [.pts b_1 [vI q0,vI q1,vI q2] 22,Ef b_3 c,Eb ba_4 (mkAr c aw_5 cw_6),Ea (mkAr c aw_5 cw_6),Ed ra_3_1 (rmAr c (rpackW c) aw_3_1 cw_3_1) false 0,Ea (rmAr c (rpackW c) aw_3_1 cw_3_1)]:=by
  intro ra_3_1 aw_3_1 cw_3_1
  refine zN [] [(0,.e 1),(1,.w),(4,.w),(6,.w),(8,.w),(10,.w)] [19,3,4,16,17,20,22,24,26] [5,7,9,11] (.e b_3 .n) ⟨?_, ?_, ?_, ?_,trivial⟩
  ·refine zX .w (sN fun b_5_1=>(sV ?_))
   exact zW [21,19,3,4,16,17,22,24,26] [0,1,2,3,4,5,6] (aS_173 ra_3_1 aw_3_1 cw_3_1 b_5_1)
  ·refine zX .w (sN fun b_7_1=>(sV ?_))
   exact zW [23,19,3,4,16,17,20,24,26] [0,1,2,3,4,5,6] (aS_174 ra_3_1 aw_3_1 cw_3_1 b_7_1)
  ·refine zX .w (sN fun b_9_1=>(sV ?_))
   exact zW [25,19,3,4,16,17,20,22,26] [0,1,2,3,4,5,6] (aS_175 ra_3_1 aw_3_1 cw_3_1 b_9_1)
  ·refine zX .w (sN fun b_11_1=>(sV ?_))
   exact zW [27,19,3,4,16,17,20,22,24] [0,1,2,3,4,5,6] (aS_176 ra_3_1 aw_3_1 cw_3_1 b_11_1)
 have aS_184:∀(b_5_1:Nat),Lz prog f26 (bd f26) 35 F (RetR F (Yn_begun c)) (regOps (bd f26) [0,1,1,1,1]) [.c [1,1,1,1,1]] (mk 16 [0,1,2,4,5,6,8,10]) [0,1,2,6,8,10] [(21,vP b_5_1),(3,vP b_3),(4,vP ba_4),(16,cfgV c),(17,vP ba_4),(18,cfgV c),(22,zK),(24,zK),(26,zK)] [.pts b_1 [vI q0,vI q1,vI q2] 22,Ef b_3 c,Eb ba_4 (mkAr c aw_5 cw_6),Ea (mkAr c aw_5 cw_6),Ei b_5_1 0]:=by
  intro b_5_1
  refine zN [] [(0,.e 1),(1,.w),(2,.e 1),(6,.w),(8,.w),(10,.w)] [21,3,4,16,17,18,22,24,26] [3,7,9,11] (.e b_3 (.e b_3 .n)) ⟨?_, ?_, ?_, ?_,trivial⟩
  ·refine zC (some 19) [] call68 (ref_MakeX c hc) ?_
   rintro v post ⟨ra_3_1,aw_3_1,cw_3_1,rfl,rfl⟩
   exact zW [21,19,3,4,16,17,22,24,26] [0,1,2,3,5,6,4] (aS_173 ra_3_1 aw_3_1 cw_3_1 b_5_1)
  ·refine zX .w (sN fun b_7_1=>(sV ?_))
   exact zW [23,21,3,4,16,17,18,24,26] [0,1,2,3,4,5] (aS_177 b_5_1 b_7_1)
  ·refine zX .w (sN fun b_9_1=>(sV ?_))
   exact zW [25,21,3,4,16,17,18,22,26] [0,1,2,3,4,5] (aS_178 b_5_1 b_9_1)
  ·refine zX .w (sN fun b_11_1=>(sV ?_))
   exact zW [27,21,3,4,16,17,18,22,24] [0,1,2,3,4,5] (aS_179 b_5_1 b_11_1)
 have aS_185:∀(b_7_1:Nat),Lz prog f26 (bd f26) 35 F (RetR F (Yn_begun c)) (regOps (bd f26) [0,1,1,1,1]) [.c [1,1,1,1,1]] (mk 16 [0,1,2,4,6,7,8,10]) [0,1,2,4,8,10] [(23,vP b_7_1),(3,vP b_3),(4,vP ba_4),(16,cfgV c),(17,vP ba_4),(18,cfgV c),(20,zK),(24,zK),(26,zK)] [.pts b_1 [vI q0,vI q1,vI q2] 22,Ef b_3 c,Eb ba_4 (mkAr c aw_5 cw_6),Ea (mkAr c aw_5 cw_6),Ei b_7_1 0]:=by
  intro b_7_1
  refine zN [] [(0,.e 1),(1,.w),(2,.e 1),(4,.w),(8,.w),(10,.w)] [23,3,4,16,17,18,20,24,26] [3,5,9,11] (.e b_3 (.e b_3 .n)) ⟨?_, ?_, ?_, ?_,trivial⟩
  ·refine zC (some 19) [] call68 (ref_MakeX c hc) ?_
   rintro v post ⟨ra_3_1,aw_3_1,cw_3_1,rfl,rfl⟩
   exact zW [23,19,3,4,16,17,20,24,26] [0,1,2,3,5,6,4] (aS_174 ra_3_1 aw_3_1 cw_3_1 b_7_1)
  ·refine zX .w (sN fun b_5_1=>(sV ?_))
   exact zW [23,21,3,4,16,17,18,24,26] [0,1,2,3,5,4] (aS_177 b_5_1 b_7_1)
  ·refine zX .w (sN fun b_9_1=>(sV ?_))
   exact zW [25,23,3,4,16,17,18,20,26] [0,1,2,3,4,5] (aS_180 b_7_1 b_9_1)
  ·refine zX .w (sN fun b_11_1=>(sV ?_))
   exact zW [27,23,3,4,16,17,18,20,24] [0,1,2,3,4,5] (aS_181 b_7_1 b_11_1)
 have aS_186:∀(b_9_1:Nat),Lz prog f26 (bd f26) 35 F (RetR F (Yn_begun c)) (regOps (bd f26) [0,1,1,1,1]) [.c [1,1,1,1,1]] (mk 16 [0,1,2,4,6,8,9,10]) [0,1,2,4,6,10] [(25,vP b_9_1),(3,vP b_3),(4,vP ba_4),(16,cfgV c),(17,vP ba_4),(18,cfgV c),(20,zK),(22,zK),(26,zK)] [.pts b_1 [vI q0,vI q1,vI q2] 22,Ef b_3 c,Eb ba_4 (mkAr c aw_5 cw_6),Ea (mkAr c aw_5 cw_6),Ei b_9_1 0]:=by
  intro b_9_1
  refine zN [] [(0,.e 1),(1,.w),(2,.e 1),(4,.w),(6,.w),(10,.w)] [25,3,4,16,17,18,20,22,26] [3,5,7,11] (.e b_3 (.e b_3 .n)) ⟨?_, ?_, ?_, ?_,trivial⟩
  ·refine zC (some 19) [] call68 (ref_MakeX c hc) ?_
   rintro v post ⟨ra_3_1,aw_3_1,cw_3_1,rfl,rfl⟩
   exact zW [25,19,3,4,16,17,20,22,26] [0,1,2,3,5,6,4] (aS_175 ra_3_1 aw_3_1 cw_3_1 b_9_1)
  ·refine zX .w (sN fun b_5_1=>(sV ?_))
   exact zW [25,21,3,4,16,17,18,22,26] [0,1,2,3,5,4] (aS_178 b_5_1 b_9_1)
  ·refine zX .w (sN fun b_7_1=>(sV ?_))
   exact zW [25,23,3,4,16,17,18,20,26] [0,1,2,3,5,4] (aS_180 b_7_1 b_9_1)
  ·refine zX .w (sN fun b_11_1=>(sV ?_))
   exact zW [27,25,3,4,16,17,18,20,22] [0,1,2,3,4,5] (aS_182 b_9_1 b_11_1)
 have aS_187:∀(b_11_1:Nat),Lz prog f26 (bd f26) 35 F (RetR F (Yn_begun c)) (regOps (bd f26) [0,1,1,1,1]) [.c [1,1,1,1,1]] (mk 16 [0,1,2,4,6,8,10,11]) [0,1,2,4,6,8] [(27,vP b_11_1),(3,vP b_3),(4,vP ba_4),(16,cfgV c),(17,vP ba_4),(18,cfgV c),(20,zK),(22,zK),(24,zK)] [.pts b_1 [vI q0,vI q1,vI q2] 22,Ef b_3 c,Eb ba_4 (mkAr c aw_5 cw_6),Ea (mkAr c aw_5 cw_6),Ei b_11_1 0]:=by
  intro b_11_1
  refine zN [] [(0,.e 1),(1,.w),(2,.e 1),(4,.w),(6,.w),(8,.w)] [27,3,4,16,17,18,20,22,24] [3,5,7,9] (.e b_3 (.e b_3 .n)) ⟨?_, ?_, ?_, ?_,trivial⟩
  ·refine zC (some 19) [] call68 (ref_MakeX c hc) ?_
   rintro v post ⟨ra_3_1,aw_3_1,cw_3_1,rfl,rfl⟩
   exact zW [27,19,3,4,16,17,20,22,24] [0,1,2,3,5,6,4] (aS_176 ra_3_1 aw_3_1 cw_3_1 b_11_1)
  ·refine zX .w (sN fun b_5_1=>(sV ?_))
   exact zW [27,21,3,4,16,17,18,22,24] [0,1,2,3,5,4] (aS_179 b_5_1 b_11_1)
  ·refine zX .w (sN fun b_7_1=>(sV ?_))
   exact zW [27,23,3,4,16,17,18,20,24] [0,1,2,3,5,4] (aS_181 b_7_1 b_11_1)
  ·refine zX .w (sN fun b_9_1=>(sV ?_))
   exact zW [27,25,3,4,16,17,18,20,22] [0,1,2,3,5,4] (aS_182 b_9_1 b_11_1)
 refine zN [0,1,2,4,6,8,10] [(0,.e 1),(1,.w),(2,.e 1),(4,.w),(6,.w),(8,.w),(10,.w)] [3,4,16,17,18,20,22,24,26] [3,5,7,9,11] (.e b_3 (.e b_3 .n)) ⟨?_, ?_, ?_, ?_, ?_,trivial⟩
 ·refine zC (some 19) [] call68 (ref_MakeX c hc) ?_
  rintro v post ⟨ra_3_1,aw_3_1,cw_3_1,rfl,rfl⟩
  exact zW [19,3,4,16,17,20,22,24,26] [0,1,2,3,4,5] (aS_183 ra_3_1 aw_3_1 cw_3_1)
 ·refine zX .w (sN fun b_5_1=>(sV ?_))
  exact zW [21,3,4,16,17,18,22,24,26] [0,1,2,3,4] (aS_184 b_5_1)
 ·refine zX .w (sN fun b_7_1=>(sV ?_))
  exact zW [23,3,4,16,17,18,20,24,26] [0,1,2,3,4] (aS_185 b_7_1)
 ·refine zX .w (sN fun b_9_1=>(sV ?_))
  exact zW [25,3,4,16,17,18,20,22,26] [0,1,2,3,4] (aS_186 b_9_1)
 ·refine zX .w (sN fun b_11_1=>(sV ?_))
  exact zW [27,3,4,16,17,18,20,22,24] [0,1,2,3,4] (aS_187 b_11_1)
theorem N_who(c:Cfg)(x ba rb:Nat)(ka ma:Option Addr)(kc mc:Nat)(ps:List Nat)(W:Wd)(B:Ar)(wh n_:Int)(hc:c.Ok)(hZ:∃k,Sy c W B k∧k≤90000)(hps:ps.length=4):
  Ctr prog 27 #[vP x,.agg #[vI wh,vI n_]] [Eg x c (vP ba) (vP rb) ka ps.length kc ma W.many.length mc W.now,.sl ka kc encP 0 1 ps 68,Eb ba W.A,Ea W.A,Ed rb B false 0,Ea B,.res (KnR ps W.ks c)] (Ret (vI (W.at_ c wh n_)) [Eg x c (vP ba) (vP rb) ka ps.length kc ma ((W.who c wh n_).many.length) mc ((W.who c wh n_).now),.sl ka kc encP 0 1 ps 68,Eb ba ((W.who c wh n_).A),Ea ((W.who c wh n_).A),Ed rb (W.whoB c B wh n_) false 0,Ea (W.whoB c B wh n_),.res (KnR ps ((W.who c wh n_).ks) c)]):=by
 obtain⟨k,hZ,hk⟩:=hZ
 have h0:=hZ.k0
 have h1:=hZ.bs
 have h2:=hZ.arw.2.2.2
 have hg:(W.ks.getD 0 dK).ret.length≤24:=(hZ.good hc (i:=0) oa).2
 have h:=n_who c x ba rb W.now ka ma kc mc ps W.many W.A B wh n_ W.ks hc hZ.bl hZ.bz hZ.arw.1 hZ.arw.2.1 oa oa (by rw [hZ.word]; exact hZ.arw.2.2.1 _) hps hZ.len oa
 rw [hZ.word] at h
 exact h
theorem N_begin(c:Cfg)(x ba rb:Nat)(ka ma:Option Addr)(kc mc:Nat)(ps:List Nat)(W:Wd)(B:Ar)(i n_:Int)(hc:C17 c)(hZ:∃k,Sy c W B k∧k≤1900)(hi:0≤i∧i<4)(hps:ps.length=4):
  Ctr prog 28 #[vP x,vI i,vI n_] [Eg x c (vP ba) (vP rb) ka ps.length kc ma W.many.length mc W.now,.sl ka kc encP 0 1 ps 68,Ec ma mc W.many,Ed rb B false 0,Ea B,.res (KnR ps W.ks c)] (fun v L => ∃(ma2:Option Addr) (mc2:Nat),v=undef∧L=[Eg x c (vP ba) (vP rb) ka ps.length kc ma2 ((W.begin c i n_).many.length) mc2 ((W.begin c i n_).now),.sl ka kc encP 0 1 ps 68,Ec ma2 mc2 ((W.begin c i n_).many),Ed rb B false 0,Ea B,.res (KnR ps ((W.begin c i n_).ks) c)]):=by
 obtain⟨k,hZ,hk⟩:=hZ
 have h0:=hZ.k0
 have hm:=hZ.many
 have hg:=hZ.good hc.ok hi
 have h:=n_begin c x ba rb W.now ka ma kc mc ps W.many B i n_ W.ks hi hps hc.ok hZ.bl hZ.bz (by rw [hZ.word]; exact hZ.arw.2.2.1 _) oa ⟨hc.cl,hc.s0,hc.s1⟩ hZ.len ⟨hg.1,by have:(W.ks.getD i.toNat dK).ret.length≤24:=hg.2; omega⟩
 rw [hZ.word] at h
 exact h
end Go.Proofs.YtpcaijopodhdgaaGreatDoor

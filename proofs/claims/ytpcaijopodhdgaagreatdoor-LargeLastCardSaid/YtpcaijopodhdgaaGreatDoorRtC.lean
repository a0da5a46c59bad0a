/- Walks: what functions of the program and of the document compute, part 3 of those on which LargeLast rests. -/
import Derived.Test.YtpcaijopodhdgaaGreatDoorRtB

set_option linter.unusedVariables false
set_option linter.unusedSimpArgs false
namespace Go.Proofs.YtpcaijopodhdgaaGreatDoor
open Go.Sx
noncomputable def B186: Code:=(Tryz.f186.body).getD .skip
theorem pub_then4T(c:Cfg)(p bp b5 b2:Nat)(wd ep bk od sn fl tm cd:Int)(ov:Bool)(wsl:Value)(r_ th_:Value)(w_:Int):
  Ctr Tryz.prog 186 #[vP bp,vP b5,vP b2] [.pts bp [vP p] 23,.pts b5 [.bool true] 4,E15a58 b2 (ctlEpoch w_) (ctlGen w_) (ctlBlock w_) (ctlLive w_) (ctlBusy w_),E30dd4 p r_ th_ cd ov c wd ep wsl bk od sn fl tm] (Ret (undef) [.pts bp [vP p] 23,.pts b5 [.bool true] 4,E15a58 b2 (ctlEpoch w_) (ctlGen w_) (ctlBlock w_) (ctlLive w_) (ctlBusy w_),E30dd4 p r_ th_ 0 true c wd ep wsl 0 (ctlBlock w_) sn fl tm]):=by
 refine cB B186 8 Tryz.func186 ?_
 intro F
 refine gX [.e 0,.e 1,.e 2,.z [] 4 [3,4,6]] (gQ bp (gQ b5 (gQ b2 (gS [.o [] 4] ?_))))
 refine gC (some 7) [3] Tryz.call187 (pub_swappedT c p wd ep bk od sn fl tm cd ov wsl r_ th_ (ctlBlock w_)) ?_
 exact gX [] (gJ [0,1,2,3] ⟨rfl,rfl⟩)
theorem pub_then4R(c:Cfg)(p bp b5 b2:Nat)(wd ep bk od sn fl tm cd:Int)(ov:Bool)(wsl:Value)(r_ th_:Value)(w_:Int)(hf:0≤fl∧fl≤1000)(hc:c.Ok)(hb:0≤clsOf c bk)(hr:fl+1=c.retry):
  Ctr Tryz.prog 186 #[vP bp,vP b5,vP b2] [.pts bp [vP p] 23,.pts b5 [.bool false] 4,E15a58 b2 (ctlEpoch w_) (ctlGen w_) (ctlBlock w_) (ctlLive w_) (ctlBusy w_),E30dd4 p r_ th_ cd ov c wd ep wsl bk od sn fl tm] (fun v L => ∃(gv:Nat) (bq:Nat) (bc:Nat),v=undef∧L=[.pts bp [vP p] 23,.pts b5 [.bool false] 4,E15a58 b2 (ctlEpoch w_) (ctlGen w_) (ctlBlock w_) (ctlLive w_) (ctlBusy w_),E30dd4 p (.iface 147 (vP gv)) (.func (.func 197) #[] #[vP bq,vP bc]) cd ov c wd ep wsl bk od sn (fl+1) tm,E31d76 gv c (3+clsOf c bk) 0 (.func (.func 192) #[vP gv] #[]) bk,.pts bq [vP p] 23,.pts bc [vI 17] 42]):=by
 refine cB B186 8 Tryz.func186 ?_
 intro F
 refine gX [.e 0,.e 1,.e 2,.z [] 4 [3,4,6]] (gQ bp (gQ b5 (gQ b2 (gS [.o [] 4] ?_))))
 refine go_call (some 7) [3] Tryz.call187 (pub_swappedR c p wd ep bk od sn fl tm cd ov wsl r_ th_ (ctlBlock w_) hf hc hb hr) kR ?_
 rintro v post ⟨gv_1,bq_2,bc_3,rfl,rfl⟩
 exact gX [] (gJ [0,1,2,3,4,5,6] ⟨gv_1,bq_2,bc_3,rfl,rfl⟩)
theorem pub_then4N(c:Cfg)(p bp b5 b2:Nat)(wd ep bk od sn fl tm cd:Int)(ov:Bool)(wsl:Value)(r_ th_:Value)(w_:Int)(hf:0≤fl∧fl≤1000)(hr:fl+1≠c.retry):
  Ctr Tryz.prog 186 #[vP bp,vP b5,vP b2] [.pts bp [vP p] 23,.pts b5 [.bool false] 4,E15a58 b2 (ctlEpoch w_) (ctlGen w_) (ctlBlock w_) (ctlLive w_) (ctlBusy w_),E30dd4 p r_ th_ cd ov c wd ep wsl bk od sn fl tm] (fun v L => ∃(eb:Nat) (bq:Nat),v=undef∧L=[.pts bp [vP p] 23,.pts b5 [.bool false] 4,E15a58 b2 (ctlEpoch w_) (ctlGen w_) (ctlBlock w_) (ctlLive w_) (ctlBusy w_),E30dd4 p (.iface 173 (vP eb)) (.func (.func 157) #[vP p] #[]) cd ov c wd ep wsl bk od sn (fl+1) tm,.pts eb [vI 0,vI 1,.func (.func 156) #[] #[vP bq]] 176,.pts bq [vP p] 23]):=by
 refine cB B186 8 Tryz.func186 ?_
 intro F
 refine gX [.e 0,.e 1,.e 2,.z [] 4 [3,4,6]] (gQ bp (gQ b5 (gQ b2 (gS [.o [] 4] ?_))))
 refine go_call (some 7) [3] Tryz.call187 (pub_swappedN c p wd ep bk od sn fl tm cd ov wsl r_ th_ (ctlBlock w_) hf hr) kR ?_
 rintro v post ⟨eb_1,bp_2,rfl,rfl⟩
 exact gX [] (gJ [0,1,2,3,4,5] ⟨eb_1,bp_2,rfl,rfl⟩)
theorem pstep2N(c:Cfg)(p ba bf bp eb:Nat)(wd ep bk od sn fl tm cd:Int)(wa:Option Addr)(wc:Nat)(ws:List Int)(i fr:Int)(A:Ar)(hi0:0≤i∧i<((ws.length:Nat):Int))(hx:0≤fr+i∧fr+i<A.n)(hfr:0≤fr∧fr≤1000000)(hn:A.ws.length=A.n)(hs:0≤A.steps∧A.steps≤1000000000)(hl:ws.length≤1000000)(hd:i+1≠((ws.length:Nat):Int)):
  Ctr Tryz.prog 61 #[vP p,vP ba] [Ef60d6 p (.iface 173 (vP eb)) (.func (.func 108) #[vP p] #[]) cd false c wd ep wa ws.length wc bk od sn fl tm,E54ea0 wa wc ws,.pts eb [vI i,vI ((ws.length:Nat):Int),.func (.func 106) #[] #[vP bf,vP bp]] 176,.pts bf [vI fr] 3,.pts bp [vP p] 23,E3504b ba A,E35fb1 A] (Ret (.bool false) [Ef60d6 p (.iface 173 (vP eb)) (.func (.func 108) #[vP p] #[]) cd false c wd ep wa ws.length wc bk od sn fl tm,E54ea0 wa wc ws,.pts eb [vI (i+1),vI ((ws.length:Nat):Int),.func (.func 106) #[] #[vP bf,vP bp]] 176,.pts bf [vI fr] 3,.pts bp [vP p] 23,E3504b ba (A.store (fr+i) (ws.getD i.toNat 0)),E35fb1 (A.store (fr+i) (ws.getD i.toNat 0))]):=by
 refine cB B61 29 Tryz.func61 ?_
 intro F
 refine gX [.e 0,.e 0,.z [0,0,1] 12 [0,10,15,16]] (gQ p (gQ p (gS [.o [0,0,1] 12,.c [1,0,1],.c [1,1]] ?_)))
 refine go_invoke (some 17) [2,3,4,0,1,5,6] (T:=173) (rv:=vP eb) (name:= "Step") (fun w=>by kernel_rfl) Tryz.call231 (each_fill c p ba bf bp eb wd ep bk od sn fl tm cd wa wc ws (.iface 173 (vP eb)) (.func (.func 108) #[vP p] #[]) i fr A hi0 hx hfr oM oM oM) kR ?_
 rintro v post ⟨rfl,rfl⟩
 exact gX [.sp [18,17] [.dead] [.e 3]] (gQ ((i+1)==((ws.length:Nat):Int)) (gF ((i+1)==((ws.length:Nat):Int)) (beq_eq_false_iff_ne.2 hd) (gQ p (gJ [3,4,0,1,2,5,6] ⟨rfl,rfl⟩))))
theorem pub_Step2N(c:Cfg)(p ba bf bp eb:Nat)(wd ep bk od sn fl tm cd:Int)(wa:Option Addr)(wc:Nat)(ws:List Int)(i fr:Int)(A:Ar)(hi0:0≤i∧i<((ws.length:Nat):Int))(hx:0≤fr+i∧fr+i<A.n)(hfr:0≤fr∧fr≤1000000)(hn:A.ws.length=A.n)(hs:0≤A.steps∧A.steps≤1000000000)(hl:ws.length≤1000000)(hd:i+1≠((ws.length:Nat):Int)):
  Ctr Tryz.prog 15 #[vP p,vP ba] [Ef60d6 p (.iface 173 (vP eb)) (.func (.func 108) #[vP p] #[]) cd false c wd ep wa ws.length wc bk od sn fl tm,E54ea0 wa wc ws,.pts eb [vI i,vI ((ws.length:Nat):Int),.func (.func 106) #[] #[vP bf,vP bp]] 176,.pts bf [vI fr] 3,.pts bp [vP p] 23,E3504b ba A,E35fb1 A] (Ret (.bool false) [Ef60d6 p (.iface 173 (vP eb)) (.func (.func 108) #[vP p] #[]) cd false c wd ep wa ws.length wc bk od sn fl tm,E54ea0 wa wc ws,.pts eb [vI (i+1),vI ((ws.length:Nat):Int),.func (.func 106) #[] #[vP bf,vP bp]] 176,.pts bf [vI fr] 3,.pts bp [vP p] 23,E3504b ba (A.store (fr+i) (ws.getD i.toNat 0)),E35fb1 (A.store (fr+i) (ws.getD i.toNat 0))]):=by
 refine cB B15 14 Tryz.func15 ?_
 intro F
 refine gX [.z [0,1] 7 [7,10,11]] (gS [.o [0,1] 7,.c [1,1]] ?_)
 refine gC (some 12) [0,1,2,3,4,5,6] Tryz.call61 (pstep2N c p ba bf bp eb wd ep bk od sn fl tm cd wa wc ws i fr A hi0 hx hfr oM oM oM oM) ?_
 exact gX [] (gJ [0,1,2,3,4,5,6] ⟨rfl,rfl⟩)
theorem pstep2Y(c:Cfg)(p ba bf bp eb:Nat)(wd ep bk od sn fl tm cd:Int)(wa:Option Addr)(wc:Nat)(ws:List Int)(i fr:Int)(A:Ar)(hi0:0≤i∧i<((ws.length:Nat):Int))(hx:0≤fr+i∧fr+i<A.n)(hfr:0≤fr∧fr≤1000000)(hn:A.ws.length=A.n)(hs:0≤A.steps∧A.steps≤1000000000)(hl:ws.length≤1000000)(hd:i+1=((ws.length:Nat):Int)):
  Ctr Tryz.prog 61 #[vP p,vP ba] [Ef60d6 p (.iface 173 (vP eb)) (.func (.func 108) #[vP p] #[]) cd false c wd ep wa ws.length wc bk od sn fl tm,E54ea0 wa wc ws,.pts eb [vI i,vI ((ws.length:Nat):Int),.func (.func 106) #[] #[vP bf,vP bp]] 176,.pts bf [vI fr] 3,.pts bp [vP p] 23,E3504b ba A,E35fb1 A] (fun v L => ∃(e2:Nat) (bq:Nat),v = .bool false∧L=[Ef60d6 p (.iface 173 (vP e2)) (.func (.func 157) #[vP p] #[]) cd false c wd ep wa ws.length wc bk od sn fl tm,E54ea0 wa wc ws,.pts eb [vI (i+1),vI ((ws.length:Nat):Int),.func (.func 106) #[] #[vP bf,vP bp]] 176,.pts bf [vI fr] 3,.pts bp [vP p] 23,E3504b ba (A.store (fr+i) (ws.getD i.toNat 0)),E35fb1 (A.store (fr+i) (ws.getD i.toNat 0)),.pts e2 [vI 0,vI 1,.func (.func 156) #[] #[vP bq]] 176,.pts bq [vP p] 23]):=by
 refine cB B61 29 Tryz.func61 ?_
 intro F
 refine gX [.e 0,.e 0,.z [0,0,1] 12 [0,10,15,16]] (gQ p (gQ p (gS [.o [0,0,1] 12,.c [1,0,1],.c [1,1]] ?_)))
 refine go_invoke (some 17) [2,3,4,0,1,5,6] (T:=173) (rv:=vP eb) (name:= "Step") (fun w=>by kernel_rfl) Tryz.call231 (each_fill c p ba bf bp eb wd ep bk od sn fl tm cd wa wc ws (.iface 173 (vP eb)) (.func (.func 108) #[vP p] #[]) i fr A hi0 hx hfr oM oM oM) kR ?_
 rintro v post ⟨rfl,rfl⟩
 refine gX [.sp [18,17] [.e 3,.z [0,1,0,1] 5 [0,23]] [.dead]] (gQ ((i+1)==((ws.length:Nat):Int)) (gT ((i+1)==((ws.length:Nat):Int)) (beq_iff_eq.2 hd) (gQ p (gS [.o [0,1,0,1] 5,.c [1,1]] ?_))))
 refine go_call (some 24) [3] Tryz.call108 (pub_filled c p wd ep bk od sn fl tm cd false (.slice wa ws.length wc) (.iface 173 (vP eb)) (.func (.func 108) #[vP p] #[])) kR ?_
 rintro v post ⟨eb_1,bp_2,rfl,rfl⟩
 exact gX [.e 6] (gQ p (gJ [6,3,0,1,2,4,5,7,8] ⟨eb_1,bp_2,rfl,rfl⟩))
theorem pub_Step2Y(c:Cfg)(p ba bf bp eb:Nat)(wd ep bk od sn fl tm cd:Int)(wa:Option Addr)(wc:Nat)(ws:List Int)(i fr:Int)(A:Ar)(hi0:0≤i∧i<((ws.length:Nat):Int))(hx:0≤fr+i∧fr+i<A.n)(hfr:0≤fr∧fr≤1000000)(hn:A.ws.length=A.n)(hs:0≤A.steps∧A.steps≤1000000000)(hl:ws.length≤1000000)(hd:i+1=((ws.length:Nat):Int)):
  Ctr Tryz.prog 15 #[vP p,vP ba] [Ef60d6 p (.iface 173 (vP eb)) (.func (.func 108) #[vP p] #[]) cd false c wd ep wa ws.length wc bk od sn fl tm,E54ea0 wa wc ws,.pts eb [vI i,vI ((ws.length:Nat):Int),.func (.func 106) #[] #[vP bf,vP bp]] 176,.pts bf [vI fr] 3,.pts bp [vP p] 23,E3504b ba A,E35fb1 A] (fun v L => ∃(e2:Nat) (bq:Nat),v = .bool false∧L=[Ef60d6 p (.iface 173 (vP e2)) (.func (.func 157) #[vP p] #[]) cd false c wd ep wa ws.length wc bk od sn fl tm,E54ea0 wa wc ws,.pts eb [vI (i+1),vI ((ws.length:Nat):Int),.func (.func 106) #[] #[vP bf,vP bp]] 176,.pts bf [vI fr] 3,.pts bp [vP p] 23,E3504b ba (A.store (fr+i) (ws.getD i.toNat 0)),E35fb1 (A.store (fr+i) (ws.getD i.toNat 0)),.pts e2 [vI 0,vI 1,.func (.func 156) #[] #[vP bq]] 176,.pts bq [vP p] 23]):=by
 refine cB B15 14 Tryz.func15 ?_
 intro F
 refine gX [.z [0,1] 7 [7,10,11]] (gS [.o [0,1] 7,.c [1,1]] ?_)
 refine go_call (some 12) [0,1,2,3,4,5,6] Tryz.call61 (pstep2Y c p ba bf bp eb wd ep bk od sn fl tm cd wa wc ws i fr A hi0 hx hfr oM oM oM oM) kR ?_
 rintro v post ⟨e2_1,bq_2,rfl,rfl⟩
 exact gX [] (gJ [0,1,2,3,4,5,6,7,8] ⟨e2_1,bq_2,rfl,rfl⟩)
theorem pstep3D(c:Cfg)(p ba bp eb:Nat)(wd ep bk od sn fl tm cd:Int)(wsl:Value)(A:Ar)(hn:A.ws.length=A.n)(hs:0≤A.steps∧A.steps≤1000000000)(hi:0≤wd∧wd<A.n)(hR:U64 (A.ws.getD wd.toNat 0))(hk:1≤bk∧bk≤65535)(hc:c.Ok)(hcl:0≤clsOf c bk)(hl:ctlLive (A.ws.getD wd.toNat 0)=false):
  Ctr Tryz.prog 61 #[vP p,vP ba] [E30dd4 p (.iface 173 (vP eb)) (.func (.func 157) #[vP p] #[]) cd false c wd ep wsl bk od sn fl tm,.pts eb [vI 0,vI 1,.func (.func 156) #[] #[vP bp]] 176,.pts bp [vP p] 23,E3504b ba A,E35fb1 A] (fun v L => ∃(gv:Nat) (bq:Nat) (bc:Nat),v = .bool false∧L=[E30dd4 p (.iface 147 (vP gv)) (.func (.func 197) #[] #[vP bq,vP bc]) cd false c wd ep wsl bk od (A.ws.getD wd.toNat 0) fl tm,.pts eb [vI 1,vI 1,.func (.func 156) #[] #[vP bp]] 176,.pts bp [vP p] 23,E3504b ba (A.load wd),E35fb1 (A.load wd),E31d76 gv c (3+clsOf c bk) 0 (.func (.func 192) #[vP gv] #[]) bk,.pts bq [vP p] 23,.pts bc [vI 22] 42]):=by
 refine cB B61 29 Tryz.func61 ?_
 intro F
 refine gX [.e 0,.e 0,.z [0,0,1] 12 [0,10,15,16]] (gQ p (gQ p (gS [.o [0,0,1] 12,.c [1,0,1],.c [1,1]] ?_)))
 refine go_invoke (some 17) [1,2,0,3,4] (T:=173) (rv:=vP eb) (name:= "Step") (fun w=>by kernel_rfl) Tryz.call231 (each_look c p ba bp eb wd ep bk od sn fl tm cd false wsl (.iface 173 (vP eb)) (.func (.func 157) #[vP p] #[]) A oM oM hi) kR ?_
 rintro v post ⟨rfl,rfl⟩
 refine gX [.e 2,.z [0,1,0,1] 5 [0,23]] (gQ p (gS [.o [0,1,0,1] 5,.c [1,1]] ?_))
 refine go_call (some 24) [2] Tryz.call157 (pub_lookedD c p wd ep bk od (A.ws.getD wd.toNat 0) fl tm cd false wsl (.iface 173 (vP eb)) (.func (.func 157) #[vP p] #[]) hR hk hc hcl hl) kR ?_
 rintro v post ⟨gv_1,bq_2,bc_3,rfl,rfl⟩
 exact gX [.e 4] (gQ p (gJ [4,0,1,2,3,5,6,7] ⟨gv_1,bq_2,bc_3,rfl,rfl⟩))
theorem pub_Step3D(c:Cfg)(p ba bp eb:Nat)(wd ep bk od sn fl tm cd:Int)(wsl:Value)(A:Ar)(hn:A.ws.length=A.n)(hs:0≤A.steps∧A.steps≤1000000000)(hi:0≤wd∧wd<A.n)(hR:U64 (A.ws.getD wd.toNat 0))(hk:1≤bk∧bk≤65535)(hc:c.Ok)(hcl:0≤clsOf c bk)(hl:ctlLive (A.ws.getD wd.toNat 0)=false):
  Ctr Tryz.prog 15 #[vP p,vP ba] [E30dd4 p (.iface 173 (vP eb)) (.func (.func 157) #[vP p] #[]) cd false c wd ep wsl bk od sn fl tm,.pts eb [vI 0,vI 1,.func (.func 156) #[] #[vP bp]] 176,.pts bp [vP p] 23,E3504b ba A,E35fb1 A] (fun v L => ∃(gv:Nat) (bq:Nat) (bc:Nat),v = .bool false∧L=[E30dd4 p (.iface 147 (vP gv)) (.func (.func 197) #[] #[vP bq,vP bc]) cd false c wd ep wsl bk od (A.ws.getD wd.toNat 0) fl tm,.pts eb [vI 1,vI 1,.func (.func 156) #[] #[vP bp]] 176,.pts bp [vP p] 23,E3504b ba (A.load wd),E35fb1 (A.load wd),E31d76 gv c (3+clsOf c bk) 0 (.func (.func 192) #[vP gv] #[]) bk,.pts bq [vP p] 23,.pts bc [vI 22] 42]):=by
 refine cB B15 14 Tryz.func15 ?_
 intro F
 refine gX [.z [0,1] 7 [7,10,11]] (gS [.o [0,1] 7,.c [1,1]] ?_)
 refine go_call (some 12) [0,1,2,3,4] Tryz.call61 (pstep3D c p ba bp eb wd ep bk od sn fl tm cd wsl A oM oM hi oM hk hc hcl hl) kR ?_
 rintro v post ⟨gv_1,bq_2,bc_3,rfl,rfl⟩
 exact gX [] (gJ [0,1,2,3,4,5,6,7] ⟨gv_1,bq_2,bc_3,rfl,rfl⟩)
theorem pstep3E(c:Cfg)(p ba bp eb:Nat)(wd ep bk od sn fl tm cd:Int)(wsl:Value)(A:Ar)(hn:A.ws.length=A.n)(hs:0≤A.steps∧A.steps≤1000000000)(hi:0≤wd∧wd<A.n)(hR:U64 (A.ws.getD wd.toNat 0))(hk:1≤bk∧bk≤65535)(hc:c.Ok)(hcl:0≤clsOf c bk)(hl:ctlLive (A.ws.getD wd.toNat 0)=true)(he:ctlEpoch (A.ws.getD wd.toNat 0)≠ep):
  Ctr Tryz.prog 61 #[vP p,vP ba] [E30dd4 p (.iface 173 (vP eb)) (.func (.func 157) #[vP p] #[]) cd false c wd ep wsl bk od sn fl tm,.pts eb [vI 0,vI 1,.func (.func 156) #[] #[vP bp]] 176,.pts bp [vP p] 23,E3504b ba A,E35fb1 A] (fun v L => ∃(gv:Nat) (bq:Nat) (bc:Nat),v = .bool false∧L=[E30dd4 p (.iface 147 (vP gv)) (.func (.func 197) #[] #[vP bq,vP bc]) cd false c wd ep wsl bk od (A.ws.getD wd.toNat 0) fl tm,.pts eb [vI 1,vI 1,.func (.func 156) #[] #[vP bp]] 176,.pts bp [vP p] 23,E3504b ba (A.load wd),E35fb1 (A.load wd),E31d76 gv c (3+clsOf c bk) 0 (.func (.func 192) #[vP gv] #[]) bk,.pts bq [vP p] 23,.pts bc [vI 22] 42]):=by
 refine cB B61 29 Tryz.func61 ?_
 intro F
 refine gX [.e 0,.e 0,.z [0,0,1] 12 [0,10,15,16]] (gQ p (gQ p (gS [.o [0,0,1] 12,.c [1,0,1],.c [1,1]] ?_)))
 refine go_invoke (some 17) [1,2,0,3,4] (T:=173) (rv:=vP eb) (name:= "Step") (fun w=>by kernel_rfl) Tryz.call231 (each_look c p ba bp eb wd ep bk od sn fl tm cd false wsl (.iface 173 (vP eb)) (.func (.func 157) #[vP p] #[]) A oM oM hi) kR ?_
 rintro v post ⟨rfl,rfl⟩
 refine gX [.e 2,.z [0,1,0,1] 5 [0,23]] (gQ p (gS [.o [0,1,0,1] 5,.c [1,1]] ?_))
 refine go_call (some 24) [2] Tryz.call157 (pub_lookedE c p wd ep bk od (A.ws.getD wd.toNat 0) fl tm cd false wsl (.iface 173 (vP eb)) (.func (.func 157) #[vP p] #[]) hR hk hc hcl hl he) kR ?_
 rintro v post ⟨gv_1,bq_2,bc_3,rfl,rfl⟩
 exact gX [.e 4] (gQ p (gJ [4,0,1,2,3,5,6,7] ⟨gv_1,bq_2,bc_3,rfl,rfl⟩))
theorem pub_Step3E(c:Cfg)(p ba bp eb:Nat)(wd ep bk od sn fl tm cd:Int)(wsl:Value)(A:Ar)(hn:A.ws.length=A.n)(hs:0≤A.steps∧A.steps≤1000000000)(hi:0≤wd∧wd<A.n)(hR:U64 (A.ws.getD wd.toNat 0))(hk:1≤bk∧bk≤65535)(hc:c.Ok)(hcl:0≤clsOf c bk)(hl:ctlLive (A.ws.getD wd.toNat 0)=true)(he:ctlEpoch (A.ws.getD wd.toNat 0)≠ep):
  Ctr Tryz.prog 15 #[vP p,vP ba] [E30dd4 p (.iface 173 (vP eb)) (.func (.func 157) #[vP p] #[]) cd false c wd ep wsl bk od sn fl tm,.pts eb [vI 0,vI 1,.func (.func 156) #[] #[vP bp]] 176,.pts bp [vP p] 23,E3504b ba A,E35fb1 A] (fun v L => ∃(gv:Nat) (bq:Nat) (bc:Nat),v = .bool false∧L=[E30dd4 p (.iface 147 (vP gv)) (.func (.func 197) #[] #[vP bq,vP bc]) cd false c wd ep wsl bk od (A.ws.getD wd.toNat 0) fl tm,.pts eb [vI 1,vI 1,.func (.func 156) #[] #[vP bp]] 176,.pts bp [vP p] 23,E3504b ba (A.load wd),E35fb1 (A.load wd),E31d76 gv c (3+clsOf c bk) 0 (.func (.func 192) #[vP gv] #[]) bk,.pts bq [vP p] 23,.pts bc [vI 22] 42]):=by
 refine cB B15 14 Tryz.func15 ?_
 intro F
 refine gX [.z [0,1] 7 [7,10,11]] (gS [.o [0,1] 7,.c [1,1]] ?_)
 refine go_call (some 12) [0,1,2,3,4] Tryz.call61 (pstep3E c p ba bp eb wd ep bk od sn fl tm cd wsl A oM oM hi oM hk hc hcl hl he) kR ?_
 rintro v post ⟨gv_1,bq_2,bc_3,rfl,rfl⟩
 exact gX [] (gJ [0,1,2,3,4,5,6,7] ⟨gv_1,bq_2,bc_3,rfl,rfl⟩)
theorem pstep3B(c:Cfg)(p ba bp eb:Nat)(wd ep bk od sn fl tm cd:Int)(wsl:Value)(A:Ar)(hn:A.ws.length=A.n)(hs:0≤A.steps∧A.steps≤1000000000)(hi:0≤wd∧wd<A.n)(hR:U64 (A.ws.getD wd.toNat 0))(hk:1≤bk∧bk≤65535)(hc:c.Ok)(hcl:0≤clsOf c bk)(hl:ctlLive (A.ws.getD wd.toNat 0)=true)(he:ctlEpoch (A.ws.getD wd.toNat 0)=ep)(hb:ctlBusy (A.ws.getD wd.toNat 0)=true):
  Ctr Tryz.prog 61 #[vP p,vP ba] [E30dd4 p (.iface 173 (vP eb)) (.func (.func 157) #[vP p] #[]) cd false c wd ep wsl bk od sn fl tm,.pts eb [vI 0,vI 1,.func (.func 156) #[] #[vP bp]] 176,.pts bp [vP p] 23,E3504b ba A,E35fb1 A] (fun v L => ∃(gv:Nat) (bq:Nat) (bc:Nat),v = .bool false∧L=[E30dd4 p (.iface 147 (vP gv)) (.func (.func 197) #[] #[vP bq,vP bc]) cd false c wd ep wsl bk od (A.ws.getD wd.toNat 0) fl tm,.pts eb [vI 1,vI 1,.func (.func 156) #[] #[vP bp]] 176,.pts bp [vP p] 23,E3504b ba (A.load wd),E35fb1 (A.load wd),E31d76 gv c (3+clsOf c bk) 0 (.func (.func 192) #[vP gv] #[]) bk,.pts bq [vP p] 23,.pts bc [vI 22] 42]):=by
 refine cB B61 29 Tryz.func61 ?_
 intro F
 refine gX [.e 0,.e 0,.z [0,0,1] 12 [0,10,15,16]] (gQ p (gQ p (gS [.o [0,0,1] 12,.c [1,0,1],.c [1,1]] ?_)))
 refine go_invoke (some 17) [1,2,0,3,4] (T:=173) (rv:=vP eb) (name:= "Step") (fun w=>by kernel_rfl) Tryz.call231 (each_look c p ba bp eb wd ep bk od sn fl tm cd false wsl (.iface 173 (vP eb)) (.func (.func 157) #[vP p] #[]) A oM oM hi) kR ?_
 rintro v post ⟨rfl,rfl⟩
 refine gX [.e 2,.z [0,1,0,1] 5 [0,23]] (gQ p (gS [.o [0,1,0,1] 5,.c [1,1]] ?_))
 refine go_call (some 24) [2] Tryz.call157 (pub_lookedB c p wd ep bk od (A.ws.getD wd.toNat 0) fl tm cd false wsl (.iface 173 (vP eb)) (.func (.func 157) #[vP p] #[]) hR hk hc hcl hl he hb) kR ?_
 rintro v post ⟨gv_1,bq_2,bc_3,rfl,rfl⟩
 exact gX [.e 4] (gQ p (gJ [4,0,1,2,3,5,6,7] ⟨gv_1,bq_2,bc_3,rfl,rfl⟩))
theorem pub_Step3B(c:Cfg)(p ba bp eb:Nat)(wd ep bk od sn fl tm cd:Int)(wsl:Value)(A:Ar)(hn:A.ws.length=A.n)(hs:0≤A.steps∧A.steps≤1000000000)(hi:0≤wd∧wd<A.n)(hR:U64 (A.ws.getD wd.toNat 0))(hk:1≤bk∧bk≤65535)(hc:c.Ok)(hcl:0≤clsOf c bk)(hl:ctlLive (A.ws.getD wd.toNat 0)=true)(he:ctlEpoch (A.ws.getD wd.toNat 0)=ep)(hb:ctlBusy (A.ws.getD wd.toNat 0)=true):
  Ctr Tryz.prog 15 #[vP p,vP ba] [E30dd4 p (.iface 173 (vP eb)) (.func (.func 157) #[vP p] #[]) cd false c wd ep wsl bk od sn fl tm,.pts eb [vI 0,vI 1,.func (.func 156) #[] #[vP bp]] 176,.pts bp [vP p] 23,E3504b ba A,E35fb1 A] (fun v L => ∃(gv:Nat) (bq:Nat) (bc:Nat),v = .bool false∧L=[E30dd4 p (.iface 147 (vP gv)) (.func (.func 197) #[] #[vP bq,vP bc]) cd false c wd ep wsl bk od (A.ws.getD wd.toNat 0) fl tm,.pts eb [vI 1,vI 1,.func (.func 156) #[] #[vP bp]] 176,.pts bp [vP p] 23,E3504b ba (A.load wd),E35fb1 (A.load wd),E31d76 gv c (3+clsOf c bk) 0 (.func (.func 192) #[vP gv] #[]) bk,.pts bq [vP p] 23,.pts bc [vI 22] 42]):=by
 refine cB B15 14 Tryz.func15 ?_
 intro F
 refine gX [.z [0,1] 7 [7,10,11]] (gS [.o [0,1] 7,.c [1,1]] ?_)
 refine go_call (some 12) [0,1,2,3,4] Tryz.call61 (pstep3B c p ba bp eb wd ep bk od sn fl tm cd wsl A oM oM hi oM hk hc hcl hl he hb) kR ?_
 rintro v post ⟨gv_1,bq_2,bc_3,rfl,rfl⟩
 exact gX [] (gJ [0,1,2,3,4,5,6,7] ⟨gv_1,bq_2,bc_3,rfl,rfl⟩)
theorem pstep3O(c:Cfg)(p ba bp eb:Nat)(wd ep bk od sn fl tm cd:Int)(wsl:Value)(A:Ar)(hn:A.ws.length=A.n)(hs:0≤A.steps∧A.steps≤1000000000)(hi:0≤wd∧wd<A.n)(hR:U64 (A.ws.getD wd.toNat 0))(hk:1≤bk∧bk≤65535)(hc:c.Ok)(hcl:0≤clsOf c bk)(hl:ctlLive (A.ws.getD wd.toNat 0)=true)(he:ctlEpoch (A.ws.getD wd.toNat 0)=ep)(hb:ctlBusy (A.ws.getD wd.toNat 0)=false)(hg:ctlGen (A.ws.getD wd.toNat 0)=2147483647):
  Ctr Tryz.prog 61 #[vP p,vP ba] [E30dd4 p (.iface 173 (vP eb)) (.func (.func 157) #[vP p] #[]) cd false c wd ep wsl bk od sn fl tm,.pts eb [vI 0,vI 1,.func (.func 156) #[] #[vP bp]] 176,.pts bp [vP p] 23,E3504b ba A,E35fb1 A] (fun v L => ∃(gv:Nat) (bq:Nat) (bc:Nat),v = .bool false∧L=[E30dd4 p (.iface 147 (vP gv)) (.func (.func 197) #[] #[vP bq,vP bc]) cd false c wd ep wsl bk od (A.ws.getD wd.toNat 0) fl tm,.pts eb [vI 1,vI 1,.func (.func 156) #[] #[vP bp]] 176,.pts bp [vP p] 23,E3504b ba (A.load wd),E35fb1 (A.load wd),E31d76 gv c (3+clsOf c bk) 0 (.func (.func 192) #[vP gv] #[]) bk,.pts bq [vP p] 23,.pts bc [vI 16] 42]):=by
 refine cB B61 29 Tryz.func61 ?_
 intro F
 refine gX [.e 0,.e 0,.z [0,0,1] 12 [0,10,15,16]] (gQ p (gQ p (gS [.o [0,0,1] 12,.c [1,0,1],.c [1,1]] ?_)))
 refine go_invoke (some 17) [1,2,0,3,4] (T:=173) (rv:=vP eb) (name:= "Step") (fun w=>by kernel_rfl) Tryz.call231 (each_look c p ba bp eb wd ep bk od sn fl tm cd false wsl (.iface 173 (vP eb)) (.func (.func 157) #[vP p] #[]) A oM oM hi) kR ?_
 rintro v post ⟨rfl,rfl⟩
 refine gX [.e 2,.z [0,1,0,1] 5 [0,23]] (gQ p (gS [.o [0,1,0,1] 5,.c [1,1]] ?_))
 refine go_call (some 24) [2] Tryz.call157 (pub_lookedO c p wd ep bk od (A.ws.getD wd.toNat 0) fl tm cd false wsl (.iface 173 (vP eb)) (.func (.func 157) #[vP p] #[]) hR hk hc hcl hl he hb hg) kR ?_
 rintro v post ⟨gv_1,bq_2,bc_3,rfl,rfl⟩
 exact gX [.e 4] (gQ p (gJ [4,0,1,2,3,5,6,7] ⟨gv_1,bq_2,bc_3,rfl,rfl⟩))
theorem pub_Step3O(c:Cfg)(p ba bp eb:Nat)(wd ep bk od sn fl tm cd:Int)(wsl:Value)(A:Ar)(hn:A.ws.length=A.n)(hs:0≤A.steps∧A.steps≤1000000000)(hi:0≤wd∧wd<A.n)(hR:U64 (A.ws.getD wd.toNat 0))(hk:1≤bk∧bk≤65535)(hc:c.Ok)(hcl:0≤clsOf c bk)(hl:ctlLive (A.ws.getD wd.toNat 0)=true)(he:ctlEpoch (A.ws.getD wd.toNat 0)=ep)(hb:ctlBusy (A.ws.getD wd.toNat 0)=false)(hg:ctlGen (A.ws.getD wd.toNat 0)=2147483647):
  Ctr Tryz.prog 15 #[vP p,vP ba] [E30dd4 p (.iface 173 (vP eb)) (.func (.func 157) #[vP p] #[]) cd false c wd ep wsl bk od sn fl tm,.pts eb [vI 0,vI 1,.func (.func 156) #[] #[vP bp]] 176,.pts bp [vP p] 23,E3504b ba A,E35fb1 A] (fun v L => ∃(gv:Nat) (bq:Nat) (bc:Nat),v = .bool false∧L=[E30dd4 p (.iface 147 (vP gv)) (.func (.func 197) #[] #[vP bq,vP bc]) cd false c wd ep wsl bk od (A.ws.getD wd.toNat 0) fl tm,.pts eb [vI 1,vI 1,.func (.func 156) #[] #[vP bp]] 176,.pts bp [vP p] 23,E3504b ba (A.load wd),E35fb1 (A.load wd),E31d76 gv c (3+clsOf c bk) 0 (.func (.func 192) #[vP gv] #[]) bk,.pts bq [vP p] 23,.pts bc [vI 16] 42]):=by
 refine cB B15 14 Tryz.func15 ?_
 intro F
 refine gX [.z [0,1] 7 [7,10,11]] (gS [.o [0,1] 7,.c [1,1]] ?_)
 refine go_call (some 12) [0,1,2,3,4] Tryz.call61 (pstep3O c p ba bp eb wd ep bk od sn fl tm cd wsl A oM oM hi oM hk hc hcl hl he hb hg) kR ?_
 rintro v post ⟨gv_1,bq_2,bc_3,rfl,rfl⟩
 exact gX [] (gJ [0,1,2,3,4,5,6,7] ⟨gv_1,bq_2,bc_3,rfl,rfl⟩)
theorem pstep3K(c:Cfg)(p ba bp eb:Nat)(wd ep bk od sn fl tm cd:Int)(wsl:Value)(A:Ar)(hn:A.ws.length=A.n)(hs:0≤A.steps∧A.steps≤1000000000)(hi:0≤wd∧wd<A.n)(hR:U64 (A.ws.getD wd.toNat 0))(hk:1≤bk∧bk≤65535)(hc:c.Ok)(hcl:0≤clsOf c bk)(hl:ctlLive (A.ws.getD wd.toNat 0)=true)(he:ctlEpoch (A.ws.getD wd.toNat 0)=ep)(hb:ctlBusy (A.ws.getD wd.toNat 0)=false)(hg:ctlGen (A.ws.getD wd.toNat 0)≠2147483647):
  Ctr Tryz.prog 61 #[vP p,vP ba] [E30dd4 p (.iface 173 (vP eb)) (.func (.func 157) #[vP p] #[]) cd false c wd ep wsl bk od sn fl tm,.pts eb [vI 0,vI 1,.func (.func 156) #[] #[vP bp]] 176,.pts bp [vP p] 23,E3504b ba A,E35fb1 A] (fun v L => ∃(e2:Nat) (bq:Nat) (b3:Nat) (b5:Nat) (b2:Nat),v = .bool false∧L=[E30dd4 p (.iface 173 (vP e2)) (.func (.func 186) #[] #[vP bq,vP b5,vP b2]) cd false c wd ep wsl bk od (A.ws.getD wd.toNat 0) fl tm,.pts eb [vI 1,vI 1,.func (.func 156) #[] #[vP bp]] 176,.pts bp [vP p] 23,E3504b ba (A.load wd),E35fb1 (A.load wd),.pts e2 [vI 0,vI 1,.func (.func 184) #[] #[vP bq,vP b3,vP b5]] 176,.pts bq [vP p] 23,.pts b3 [vU (pubW (A.ws.getD wd.toNat 0) bk)] 60,.pts b5 [.bool false] 4,E15a58 b2 (ctlEpoch (A.ws.getD wd.toNat 0)) (ctlGen (A.ws.getD wd.toNat 0)) (ctlBlock (A.ws.getD wd.toNat 0)) (ctlLive (A.ws.getD wd.toNat 0)) (ctlBusy (A.ws.getD wd.toNat 0))]):=by
 refine cB B61 29 Tryz.func61 ?_
 intro F
 refine gX [.e 0,.e 0,.z [0,0,1] 12 [0,10,15,16]] (gQ p (gQ p (gS [.o [0,0,1] 12,.c [1,0,1],.c [1,1]] ?_)))
 refine go_invoke (some 17) [1,2,0,3,4] (T:=173) (rv:=vP eb) (name:= "Step") (fun w=>by kernel_rfl) Tryz.call231 (each_look c p ba bp eb wd ep bk od sn fl tm cd false wsl (.iface 173 (vP eb)) (.func (.func 157) #[vP p] #[]) A oM oM hi) kR ?_
 rintro v post ⟨rfl,rfl⟩
 refine gX [.e 2,.z [0,1,0,1] 5 [0,23]] (gQ p (gS [.o [0,1,0,1] 5,.c [1,1]] ?_))
 refine go_call (some 24) [2] Tryz.call157 (pub_lookedK c p wd ep bk od (A.ws.getD wd.toNat 0) fl tm cd false wsl (.iface 173 (vP eb)) (.func (.func 157) #[vP p] #[]) hR hk hc hcl hl he hb hg) kR ?_
 rintro v post ⟨eb_1,bp_2,b3_3,b5_4,b2_5,rfl,rfl⟩
 exact gX [.e 4] (gQ p (gJ [4,0,1,2,3,5,6,7,8,9] ⟨eb_1,bp_2,b3_3,b5_4,b2_5,rfl,rfl⟩))
theorem pub_Step3K(c:Cfg)(p ba bp eb:Nat)(wd ep bk od sn fl tm cd:Int)(wsl:Value)(A:Ar)(hn:A.ws.length=A.n)(hs:0≤A.steps∧A.steps≤1000000000)(hi:0≤wd∧wd<A.n)(hR:U64 (A.ws.getD wd.toNat 0))(hk:1≤bk∧bk≤65535)(hc:c.Ok)(hcl:0≤clsOf c bk)(hl:ctlLive (A.ws.getD wd.toNat 0)=true)(he:ctlEpoch (A.ws.getD wd.toNat 0)=ep)(hb:ctlBusy (A.ws.getD wd.toNat 0)=false)(hg:ctlGen (A.ws.getD wd.toNat 0)≠2147483647):
  Ctr Tryz.prog 15 #[vP p,vP ba] [E30dd4 p (.iface 173 (vP eb)) (.func (.func 157) #[vP p] #[]) cd false c wd ep wsl bk od sn fl tm,.pts eb [vI 0,vI 1,.func (.func 156) #[] #[vP bp]] 176,.pts bp [vP p] 23,E3504b ba A,E35fb1 A] (fun v L => ∃(e2:Nat) (bq:Nat) (b3:Nat) (b5:Nat) (b2:Nat),v = .bool false∧L=[E30dd4 p (.iface 173 (vP e2)) (.func (.func 186) #[] #[vP bq,vP b5,vP b2]) cd false c wd ep wsl bk od (A.ws.getD wd.toNat 0) fl tm,.pts eb [vI 1,vI 1,.func (.func 156) #[] #[vP bp]] 176,.pts bp [vP p] 23,E3504b ba (A.load wd),E35fb1 (A.load wd),.pts e2 [vI 0,vI 1,.func (.func 184) #[] #[vP bq,vP b3,vP b5]] 176,.pts bq [vP p] 23,.pts b3 [vU (pubW (A.ws.getD wd.toNat 0) bk)] 60,.pts b5 [.bool false] 4,E15a58 b2 (ctlEpoch (A.ws.getD wd.toNat 0)) (ctlGen (A.ws.getD wd.toNat 0)) (ctlBlock (A.ws.getD wd.toNat 0)) (ctlLive (A.ws.getD wd.toNat 0)) (ctlBusy (A.ws.getD wd.toNat 0))]):=by
 refine cB B15 14 Tryz.func15 ?_
 intro F
 refine gX [.z [0,1] 7 [7,10,11]] (gS [.o [0,1] 7,.c [1,1]] ?_)
 refine go_call (some 12) [0,1,2,3,4] Tryz.call61 (pstep3K c p ba bp eb wd ep bk od sn fl tm cd wsl A oM oM hi oM hk hc hcl hl he hb hg) kR ?_
 rintro v post ⟨e2_1,bq_2,b3_3,b5_4,b2_5,rfl,rfl⟩
 exact gX [] (gJ [0,1,2,3,4,5,6,7,8,9] ⟨e2_1,bq_2,b3_3,b5_4,b2_5,rfl,rfl⟩)
theorem pstep4T(c:Cfg)(p ba bp b3 b5 b2 eb:Nat)(wd ep bk od sn fl tm cd:Int)(wsl:Value)(nw w_:Int)(A:Ar)(hn:A.ws.length=A.n)(hs:0≤A.steps∧A.steps≤1000000000)(hi:0≤wd∧wd<A.n)(hw:U64 sn)(hv:U64 nw)(hq:(A.ws.getD wd.toNat 0)=sn):
  Ctr Tryz.prog 61 #[vP p,vP ba] [E30dd4 p (.iface 173 (vP eb)) (.func (.func 186) #[] #[vP bp,vP b5,vP b2]) cd false c wd ep wsl bk od sn fl tm,.pts eb [vI 0,vI 1,.func (.func 184) #[] #[vP bp,vP b3,vP b5]] 176,.pts bp [vP p] 23,.pts b3 [vU nw] 60,.pts b5 [.bool false] 4,E15a58 b2 (ctlEpoch w_) (ctlGen w_) (ctlBlock w_) (ctlLive w_) (ctlBusy w_),E3504b ba A,E35fb1 A] (Ret (.bool true) [E30dd4 p (.iface 173 (vP eb)) (.func (.func 186) #[] #[vP bp,vP b5,vP b2]) 0 true c wd ep wsl 0 (ctlBlock w_) sn fl (A.steps+1),.pts eb [vI 1,vI 1,.func (.func 184) #[] #[vP bp,vP b3,vP b5]] 176,.pts bp [vP p] 23,.pts b3 [vU nw] 60,.pts b5 [.bool true] 4,E15a58 b2 (ctlEpoch w_) (ctlGen w_) (ctlBlock w_) (ctlLive w_) (ctlBusy w_),E3504b ba (A.swapT wd nw),E35fb1 (A.swapT wd nw)]):=by
 refine cB B61 29 Tryz.func61 ?_
 intro F
 refine gX [.e 0,.e 0,.z [0,0,1] 12 [0,10,15,16]] (gQ p (gQ p (gS [.o [0,0,1] 12,.c [1,0,1],.c [1,1]] ?_)))
 refine go_invoke (some 17) [1,2,3,4,0,6,7] (T:=173) (rv:=vP eb) (name:= "Step") (fun w=>by kernel_rfl) Tryz.call231 (each_swapT c p ba bp b3 b5 eb wd ep bk od sn fl tm cd false wsl (.iface 173 (vP eb)) (.func (.func 186) #[] #[vP bp,vP b5,vP b2]) nw A oM oM hi hw hv hq) kR ?_
 rintro v post ⟨rfl,rfl⟩
 refine gX [.e 5,.z [0,1,0,1] 5 [0,23]] (gQ p (gS [.o [0,1,0,1] 5,.c [1,1]] ?_))
 refine gC (some 24) [2,4,0,5] Tryz.call186 (pub_then4T c p bp b5 b2 wd ep bk od sn fl (A.steps+1) cd false wsl (.iface 173 (vP eb)) (.func (.func 186) #[] #[vP bp,vP b5,vP b2]) w_) ?_
 exact gX [.e 7] (gQ p (gJ [7,0,4,1,5,6,2,3] ⟨rfl,rfl⟩))
theorem pub_Step4T(c:Cfg)(p ba bp b3 b5 b2 eb:Nat)(wd ep bk od sn fl tm cd:Int)(wsl:Value)(nw w_:Int)(A:Ar)(hn:A.ws.length=A.n)(hs:0≤A.steps∧A.steps≤1000000000)(hi:0≤wd∧wd<A.n)(hw:U64 sn)(hv:U64 nw)(hq:(A.ws.getD wd.toNat 0)=sn):
  Ctr Tryz.prog 15 #[vP p,vP ba] [E30dd4 p (.iface 173 (vP eb)) (.func (.func 186) #[] #[vP bp,vP b5,vP b2]) cd false c wd ep wsl bk od sn fl tm,.pts eb [vI 0,vI 1,.func (.func 184) #[] #[vP bp,vP b3,vP b5]] 176,.pts bp [vP p] 23,.pts b3 [vU nw] 60,.pts b5 [.bool false] 4,E15a58 b2 (ctlEpoch w_) (ctlGen w_) (ctlBlock w_) (ctlLive w_) (ctlBusy w_),E3504b ba A,E35fb1 A] (Ret (.bool true) [E30dd4 p (.iface 173 (vP eb)) (.func (.func 186) #[] #[vP bp,vP b5,vP b2]) 0 true c wd ep wsl 0 (ctlBlock w_) sn fl (A.steps+1),.pts eb [vI 1,vI 1,.func (.func 184) #[] #[vP bp,vP b3,vP b5]] 176,.pts bp [vP p] 23,.pts b3 [vU nw] 60,.pts b5 [.bool true] 4,E15a58 b2 (ctlEpoch w_) (ctlGen w_) (ctlBlock w_) (ctlLive w_) (ctlBusy w_),E3504b ba (A.swapT wd nw),E35fb1 (A.swapT wd nw)]):=by
 refine cB B15 14 Tryz.func15 ?_
 intro F
 refine gX [.z [0,1] 7 [7,10,11]] (gS [.o [0,1] 7,.c [1,1]] ?_)
 refine gC (some 12) [0,1,2,3,4,5,6,7] Tryz.call61 (pstep4T c p ba bp b3 b5 b2 eb wd ep bk od sn fl tm cd wsl nw w_ A oM oM hi hw hv hq) ?_
 exact gX [] (gJ [0,1,2,3,4,5,6,7] ⟨rfl,rfl⟩)
theorem pstep4R(c:Cfg)(p ba bp b3 b5 b2 eb:Nat)(wd ep bk od sn fl tm cd:Int)(wsl:Value)(nw w_:Int)(A:Ar)(hn:A.ws.length=A.n)(hs:0≤A.steps∧A.steps≤1000000000)(hi:0≤wd∧wd<A.n)(hw:U64 sn)(hv:U64 nw)(hq:(A.ws.getD wd.toNat 0)≠sn)(hf:0≤fl∧fl≤1000)(hr:fl+1=c.retry)(hc:c.Ok)(hb:0≤clsOf c bk):
  Ctr Tryz.prog 61 #[vP p,vP ba] [E30dd4 p (.iface 173 (vP eb)) (.func (.func 186) #[] #[vP bp,vP b5,vP b2]) cd false c wd ep wsl bk od sn fl tm,.pts eb [vI 0,vI 1,.func (.func 184) #[] #[vP bp,vP b3,vP b5]] 176,.pts bp [vP p] 23,.pts b3 [vU nw] 60,.pts b5 [.bool false] 4,E15a58 b2 (ctlEpoch w_) (ctlGen w_) (ctlBlock w_) (ctlLive w_) (ctlBusy w_),E3504b ba A,E35fb1 A] (fun v L => ∃(gv:Nat) (bq:Nat) (bc:Nat),v = .bool false∧L=[E30dd4 p (.iface 147 (vP gv)) (.func (.func 197) #[] #[vP bq,vP bc]) cd false c wd ep wsl bk od sn (fl+1) tm,.pts eb [vI 1,vI 1,.func (.func 184) #[] #[vP bp,vP b3,vP b5]] 176,.pts bp [vP p] 23,.pts b3 [vU nw] 60,.pts b5 [.bool false] 4,E15a58 b2 (ctlEpoch w_) (ctlGen w_) (ctlBlock w_) (ctlLive w_) (ctlBusy w_),E3504b ba (A.swapF wd),E35fb1 (A.swapF wd),E31d76 gv c (3+clsOf c bk) 0 (.func (.func 192) #[vP gv] #[]) bk,.pts bq [vP p] 23,.pts bc [vI 17] 42]):=by
 refine cB B61 29 Tryz.func61 ?_
 intro F
 refine gX [.e 0,.e 0,.z [0,0,1] 12 [0,10,15,16]] (gQ p (gQ p (gS [.o [0,0,1] 12,.c [1,0,1],.c [1,1]] ?_)))
 refine go_invoke (some 17) [1,2,3,4,0,6,7] (T:=173) (rv:=vP eb) (name:= "Step") (fun w=>by kernel_rfl) Tryz.call231 (each_swapF c p ba bp b3 b5 eb wd ep bk od sn fl tm cd false wsl (.iface 173 (vP eb)) (.func (.func 186) #[] #[vP bp,vP b5,vP b2]) nw A oM oM hi hw hv hq) kR ?_
 rintro v post ⟨rfl,rfl⟩
 refine gX [.e 5,.z [0,1,0,1] 5 [0,23]] (gQ p (gS [.o [0,1,0,1] 5,.c [1,1]] ?_))
 refine go_call (some 24) [2,4,0,5] Tryz.call186 (pub_then4R c p bp b5 b2 wd ep bk od sn fl tm cd false wsl (.iface 173 (vP eb)) (.func (.func 186) #[] #[vP bp,vP b5,vP b2]) w_ hf hc hb hr) kR ?_
 rintro v post ⟨gv_1,bq_2,bc_3,rfl,rfl⟩
 exact gX [.e 7] (gQ p (gJ [7,0,4,1,5,6,2,3,8,9,10] ⟨gv_1,bq_2,bc_3,rfl,rfl⟩))
theorem pub_Step4R(c:Cfg)(p ba bp b3 b5 b2 eb:Nat)(wd ep bk od sn fl tm cd:Int)(wsl:Value)(nw w_:Int)(A:Ar)(hn:A.ws.length=A.n)(hs:0≤A.steps∧A.steps≤1000000000)(hi:0≤wd∧wd<A.n)(hw:U64 sn)(hv:U64 nw)(hq:(A.ws.getD wd.toNat 0)≠sn)(hf:0≤fl∧fl≤1000)(hr:fl+1=c.retry)(hc:c.Ok)(hb:0≤clsOf c bk):
  Ctr Tryz.prog 15 #[vP p,vP ba] [E30dd4 p (.iface 173 (vP eb)) (.func (.func 186) #[] #[vP bp,vP b5,vP b2]) cd false c wd ep wsl bk od sn fl tm,.pts eb [vI 0,vI 1,.func (.func 184) #[] #[vP bp,vP b3,vP b5]] 176,.pts bp [vP p] 23,.pts b3 [vU nw] 60,.pts b5 [.bool false] 4,E15a58 b2 (ctlEpoch w_) (ctlGen w_) (ctlBlock w_) (ctlLive w_) (ctlBusy w_),E3504b ba A,E35fb1 A] (fun v L => ∃(gv:Nat) (bq:Nat) (bc:Nat),v = .bool false∧L=[E30dd4 p (.iface 147 (vP gv)) (.func (.func 197) #[] #[vP bq,vP bc]) cd false c wd ep wsl bk od sn (fl+1) tm,.pts eb [vI 1,vI 1,.func (.func 184) #[] #[vP bp,vP b3,vP b5]] 176,.pts bp [vP p] 23,.pts b3 [vU nw] 60,.pts b5 [.bool false] 4,E15a58 b2 (ctlEpoch w_) (ctlGen w_) (ctlBlock w_) (ctlLive w_) (ctlBusy w_),E3504b ba (A.swapF wd),E35fb1 (A.swapF wd),E31d76 gv c (3+clsOf c bk) 0 (.func (.func 192) #[vP gv] #[]) bk,.pts bq [vP p] 23,.pts bc [vI 17] 42]):=by
 refine cB B15 14 Tryz.func15 ?_
 intro F
 refine gX [.z [0,1] 7 [7,10,11]] (gS [.o [0,1] 7,.c [1,1]] ?_)
 refine go_call (some 12) [0,1,2,3,4,5,6,7] Tryz.call61 (pstep4R c p ba bp b3 b5 b2 eb wd ep bk od sn fl tm cd wsl nw w_ A oM oM hi hw hv hq hf hr hc hb) kR ?_
 rintro v post ⟨gv_1,bq_2,bc_3,rfl,rfl⟩
 exact gX [] (gJ [0,1,2,3,4,5,6,7,8,9,10] ⟨gv_1,bq_2,bc_3,rfl,rfl⟩)
theorem pstep4N(c:Cfg)(p ba bp b3 b5 b2 eb:Nat)(wd ep bk od sn fl tm cd:Int)(wsl:Value)(nw w_:Int)(A:Ar)(hn:A.ws.length=A.n)(hs:0≤A.steps∧A.steps≤1000000000)(hi:0≤wd∧wd<A.n)(hw:U64 sn)(hv:U64 nw)(hq:(A.ws.getD wd.toNat 0)≠sn)(hf:0≤fl∧fl≤1000)(hr:fl+1≠c.retry):
  Ctr Tryz.prog 61 #[vP p,vP ba] [E30dd4 p (.iface 173 (vP eb)) (.func (.func 186) #[] #[vP bp,vP b5,vP b2]) cd false c wd ep wsl bk od sn fl tm,.pts eb [vI 0,vI 1,.func (.func 184) #[] #[vP bp,vP b3,vP b5]] 176,.pts bp [vP p] 23,.pts b3 [vU nw] 60,.pts b5 [.bool false] 4,E15a58 b2 (ctlEpoch w_) (ctlGen w_) (ctlBlock w_) (ctlLive w_) (ctlBusy w_),E3504b ba A,E35fb1 A] (fun v L => ∃(e2:Nat) (bq:Nat),v = .bool false∧L=[E30dd4 p (.iface 173 (vP e2)) (.func (.func 157) #[vP p] #[]) cd false c wd ep wsl bk od sn (fl+1) tm,.pts eb [vI 1,vI 1,.func (.func 184) #[] #[vP bp,vP b3,vP b5]] 176,.pts bp [vP p] 23,.pts b3 [vU nw] 60,.pts b5 [.bool false] 4,E15a58 b2 (ctlEpoch w_) (ctlGen w_) (ctlBlock w_) (ctlLive w_) (ctlBusy w_),E3504b ba (A.swapF wd),E35fb1 (A.swapF wd),.pts e2 [vI 0,vI 1,.func (.func 156) #[] #[vP bq]] 176,.pts bq [vP p] 23]):=by
 refine cB B61 29 Tryz.func61 ?_
 intro F
 refine gX [.e 0,.e 0,.z [0,0,1] 12 [0,10,15,16]] (gQ p (gQ p (gS [.o [0,0,1] 12,.c [1,0,1],.c [1,1]] ?_)))
 refine go_invoke (some 17) [1,2,3,4,0,6,7] (T:=173) (rv:=vP eb) (name:= "Step") (fun w=>by kernel_rfl) Tryz.call231 (each_swapF c p ba bp b3 b5 eb wd ep bk od sn fl tm cd false wsl (.iface 173 (vP eb)) (.func (.func 186) #[] #[vP bp,vP b5,vP b2]) nw A oM oM hi hw hv hq) kR ?_
 rintro v post ⟨rfl,rfl⟩
 refine gX [.e 5,.z [0,1,0,1] 5 [0,23]] (gQ p (gS [.o [0,1,0,1] 5,.c [1,1]] ?_))
 refine go_call (some 24) [2,4,0,5] Tryz.call186 (pub_then4N c p bp b5 b2 wd ep bk od sn fl tm cd false wsl (.iface 173 (vP eb)) (.func (.func 186) #[] #[vP bp,vP b5,vP b2]) w_ hf hr) kR ?_
 rintro v post ⟨eb_1,bq_2,rfl,rfl⟩
 exact gX [.e 7] (gQ p (gJ [7,0,4,1,5,6,2,3,8,9] ⟨eb_1,bq_2,rfl,rfl⟩))
theorem pub_Step4N(c:Cfg)(p ba bp b3 b5 b2 eb:Nat)(wd ep bk od sn fl tm cd:Int)(wsl:Value)(nw w_:Int)(A:Ar)(hn:A.ws.length=A.n)(hs:0≤A.steps∧A.steps≤1000000000)(hi:0≤wd∧wd<A.n)(hw:U64 sn)(hv:U64 nw)(hq:(A.ws.getD wd.toNat 0)≠sn)(hf:0≤fl∧fl≤1000)(hr:fl+1≠c.retry):
  Ctr Tryz.prog 15 #[vP p,vP ba] [E30dd4 p (.iface 173 (vP eb)) (.func (.func 186) #[] #[vP bp,vP b5,vP b2]) cd false c wd ep wsl bk od sn fl tm,.pts eb [vI 0,vI 1,.func (.func 184) #[] #[vP bp,vP b3,vP b5]] 176,.pts bp [vP p] 23,.pts b3 [vU nw] 60,.pts b5 [.bool false] 4,E15a58 b2 (ctlEpoch w_) (ctlGen w_) (ctlBlock w_) (ctlLive w_) (ctlBusy w_),E3504b ba A,E35fb1 A] (fun v L => ∃(e2:Nat) (bq:Nat),v = .bool false∧L=[E30dd4 p (.iface 173 (vP e2)) (.func (.func 157) #[vP p] #[]) cd false c wd ep wsl bk od sn (fl+1) tm,.pts eb [vI 1,vI 1,.func (.func 184) #[] #[vP bp,vP b3,vP b5]] 176,.pts bp [vP p] 23,.pts b3 [vU nw] 60,.pts b5 [.bool false] 4,E15a58 b2 (ctlEpoch w_) (ctlGen w_) (ctlBlock w_) (ctlLive w_) (ctlBusy w_),E3504b ba (A.swapF wd),E35fb1 (A.swapF wd),.pts e2 [vI 0,vI 1,.func (.func 156) #[] #[vP bq]] 176,.pts bq [vP p] 23]):=by
 refine cB B15 14 Tryz.func15 ?_
 intro F
 refine gX [.z [0,1] 7 [7,10,11]] (gS [.o [0,1] 7,.c [1,1]] ?_)
 refine go_call (some 12) [0,1,2,3,4,5,6,7] Tryz.call61 (pstep4N c p ba bp b3 b5 b2 eb wd ep bk od sn fl tm cd wsl nw w_ A oM oM hi hw hv hq hf hr) kR ?_
 rintro v post ⟨e2_1,bq_2,rfl,rfl⟩
 exact gX [] (gJ [0,1,2,3,4,5,6,7,8,9] ⟨e2_1,bq_2,rfl,rfl⟩)
theorem pstep5W(c:Cfg)(p ba gv bq bc:Nat)(wd ep bk od sn fl tm cd:Int)(wsl:Value)(k_:Int)(G:Gv)(A:Ar)(hn:A.ws.length=A.n)(hs:0≤A.steps∧A.steps≤1000000000)(hc:c.Ok)(hg:Gv.Ok c A.n G)(hd:(G.step c A).1.ph≠0):
  Ctr Tryz.prog 61 #[vP p,vP ba] [E30dd4 p (.iface 147 (vP gv)) (.func (.func 197) #[] #[vP bq,vP bc]) cd false c wd ep wsl bk od sn fl tm,E00526 gv c G (nxV gv G.ph),.pts bq [vP p] 23,.pts bc [vI k_] 42,E3504b ba A,E35fb1 A] (Ret (.bool false) [E30dd4 p (.iface 147 (vP gv)) (.func (.func 197) #[] #[vP bq,vP bc]) cd false c wd ep wsl bk od sn fl tm,E00526 gv c ((G.step c A).1) (nxV gv ((G.step c A).1).ph),.pts bq [vP p] 23,.pts bc [vI k_] 42,E3504b ba ((G.step c A).2),E35fb1 ((G.step c A).2)]):=by
 refine cB B61 29 Tryz.func61 ?_
 intro F
 refine gX [.e 0,.e 0,.z [0,0,1] 12 [0,10,15,16]] (gQ p (gQ p (gS [.o [0,0,1] 12,.c [1,0,1],.c [1,1]] ?_)))
 refine go_invoke (some 17) [1,4,5] (T:=147) (rv:=vP gv) (name:= "Step") (fun w=>by kernel_rfl) Tryz.call139 (give_Step c gv ba G A oM oM hc hg) kR ?_
 rintro v post ⟨rfl,rfl⟩
 exact gX [.sp [18,17] [.dead] [.e 0]] (gQ ((G.step c A).1.ph==0) (gF ((G.step c A).1.ph==0) (beq_eq_false_iff_ne.2 hd) (gQ p (gJ [0,3,1,2,4,5] ⟨rfl,rfl⟩))))
theorem pub_Step5W(c:Cfg)(p ba gv bq bc:Nat)(wd ep bk od sn fl tm cd:Int)(wsl:Value)(k_:Int)(G:Gv)(A:Ar)(hn:A.ws.length=A.n)(hs:0≤A.steps∧A.steps≤1000000000)(hc:c.Ok)(hg:Gv.Ok c A.n G)(hd:(G.step c A).1.ph≠0):
  Ctr Tryz.prog 15 #[vP p,vP ba] [E30dd4 p (.iface 147 (vP gv)) (.func (.func 197) #[] #[vP bq,vP bc]) cd false c wd ep wsl bk od sn fl tm,E00526 gv c G (nxV gv G.ph),.pts bq [vP p] 23,.pts bc [vI k_] 42,E3504b ba A,E35fb1 A] (Ret (.bool false) [E30dd4 p (.iface 147 (vP gv)) (.func (.func 197) #[] #[vP bq,vP bc]) cd false c wd ep wsl bk od sn fl tm,E00526 gv c ((G.step c A).1) (nxV gv ((G.step c A).1).ph),.pts bq [vP p] 23,.pts bc [vI k_] 42,E3504b ba ((G.step c A).2),E35fb1 ((G.step c A).2)]):=by
 refine cB B15 14 Tryz.func15 ?_
 intro F
 refine gX [.z [0,1] 7 [7,10,11]] (gS [.o [0,1] 7,.c [1,1]] ?_)
 refine gC (some 12) [0,1,2,3,4,5] Tryz.call61 (pstep5W c p ba gv bq bc wd ep bk od sn fl tm cd wsl k_ G A oM oM hc hg oM) ?_
 exact gX [] (gJ [0,1,2,3,4,5] ⟨rfl,rfl⟩)
theorem pstep5Y(c:Cfg)(p ba gv bq bc:Nat)(wd ep bk od sn fl tm cd:Int)(wsl:Value)(k_:Int)(G:Gv)(A:Ar)(hn:A.ws.length=A.n)(hs:0≤A.steps∧A.steps≤1000000000)(hc:c.Ok)(hg:Gv.Ok c A.n G)(hd:(G.step c A).1.ph=0):
  Ctr Tryz.prog 61 #[vP p,vP ba] [E30dd4 p (.iface 147 (vP gv)) (.func (.func 197) #[] #[vP bq,vP bc]) cd false c wd ep wsl bk od sn fl tm,E00526 gv c G (nxV gv G.ph),.pts bq [vP p] 23,.pts bc [vI k_] 42,E3504b ba A,E35fb1 A] (Ret (.bool true) [E30dd4 p (.iface 147 (vP gv)) (.func (.func 197) #[] #[vP bq,vP bc]) k_ true c wd ep wsl 0 od sn fl tm,E00526 gv c ((G.step c A).1) (nxV gv ((G.step c A).1).ph),.pts bq [vP p] 23,.pts bc [vI k_] 42,E3504b ba ((G.step c A).2),E35fb1 ((G.step c A).2)]):=by
 refine cB B61 29 Tryz.func61 ?_
 intro F
 refine gX [.e 0,.e 0,.z [0,0,1] 12 [0,10,15,16]] (gQ p (gQ p (gS [.o [0,0,1] 12,.c [1,0,1],.c [1,1]] ?_)))
 refine go_invoke (some 17) [1,4,5] (T:=147) (rv:=vP gv) (name:= "Step") (fun w=>by kernel_rfl) Tryz.call139 (give_Step c gv ba G A oM oM hc hg) kR ?_
 rintro v post ⟨rfl,rfl⟩
 refine gX [.sp [18,17] [.e 0,.z [0,1,0,1] 5 [0,23]] [.dead]] (gQ ((G.step c A).1.ph==0) (gT ((G.step c A).1.ph==0) (beq_iff_eq.2 hd) (gQ p (gS [.o [0,1,0,1] 5,.c [1,1]] ?_))))
 refine gC (some 24) [1,2,0] Tryz.call197 (pub_then5 c p bq bc wd ep bk od sn fl tm cd false wsl (.iface 147 (vP gv)) (.func (.func 197) #[] #[vP bq,vP bc]) k_) ?_
 exact gX [.e 5] (gQ p (gJ [5,0,3,4,1,2] ⟨rfl,rfl⟩))
theorem pub_Step5Y(c:Cfg)(p ba gv bq bc:Nat)(wd ep bk od sn fl tm cd:Int)(wsl:Value)(k_:Int)(G:Gv)(A:Ar)(hn:A.ws.length=A.n)(hs:0≤A.steps∧A.steps≤1000000000)(hc:c.Ok)(hg:Gv.Ok c A.n G)(hd:(G.step c A).1.ph=0):
  Ctr Tryz.prog 15 #[vP p,vP ba] [E30dd4 p (.iface 147 (vP gv)) (.func (.func 197) #[] #[vP bq,vP bc]) cd false c wd ep wsl bk od sn fl tm,E00526 gv c G (nxV gv G.ph),.pts bq [vP p] 23,.pts bc [vI k_] 42,E3504b ba A,E35fb1 A] (Ret (.bool true) [E30dd4 p (.iface 147 (vP gv)) (.func (.func 197) #[] #[vP bq,vP bc]) k_ true c wd ep wsl 0 od sn fl tm,E00526 gv c ((G.step c A).1) (nxV gv ((G.step c A).1).ph),.pts bq [vP p] 23,.pts bc [vI k_] 42,E3504b ba ((G.step c A).2),E35fb1 ((G.step c A).2)]):=by
 refine cB B15 14 Tryz.func15 ?_
 intro F
 refine gX [.z [0,1] 7 [7,10,11]] (gS [.o [0,1] 7,.c [1,1]] ?_)
 refine gC (some 12) [0,1,2,3,4,5] Tryz.call61 (pstep5Y c p ba gv bq bc wd ep bk od sn fl tm cd wsl k_ G A oM oM hc hg oM) ?_
 exact gX [] (gJ [0,1,2,3,4,5] ⟨rfl,rfl⟩)
theorem pstep0(c:Cfg)(p ba:Nat)(wd ep bk od sn fl tm cd:Int)(wsl:Value)(r_ th_:Value):
  Ctr Tryz.prog 61 #[vP p,vP ba] [E30dd4 p r_ th_ cd true c wd ep wsl bk od sn fl tm] (Ret (.bool true) [E30dd4 p r_ th_ cd true c wd ep wsl bk od sn fl tm]):=by
 refine cB B61 29 Tryz.func61 ?_
 intro F
 exact gX [.e 0,.e 0] (gQ p (gQ p (gJ [0] ⟨rfl,rfl⟩)))
theorem pub_Step0(c:Cfg)(p ba:Nat)(wd ep bk od sn fl tm cd:Int)(wsl:Value)(r_ th_:Value):
  Ctr Tryz.prog 15 #[vP p,vP ba] [E30dd4 p r_ th_ cd true c wd ep wsl bk od sn fl tm] (Ret (.bool true) [E30dd4 p r_ th_ cd true c wd ep wsl bk od sn fl tm]):=by
 refine cB B15 14 Tryz.func15 ?_
 intro F
 refine gX [.z [0,1] 7 [7,10,11]] (gS [.o [0,1] 7,.c [1,1]] ?_)
 refine gC (some 12) [0] Tryz.call61 (pstep0 c p ba wd ep bk od sn fl tm cd wsl r_ th_) ?_
 exact gX [] (gJ [0] ⟨rfl,rfl⟩)
end Go.Proofs.YtpcaijopodhdgaaGreatDoor
namespace Go.Proofs.YtpcaijopodhdgaaGreatDoor
open Go.Sx
structure PbH where
 run:Value
 th:Value
 wa:Option Addr
 wc:Nat
 k:Nat
 bp:Nat
 bt:Nat
 eb:Nat
 bf:Nat
 b3:Nat
 b5:Nat
 b2:Nat
 gx:Nat
 bc:Nat
noncomputable def runV(h:PbH): Nat→Value
 | 1=>.iface 114 (vP h.k)
 | 2=>.iface 173 (vP h.eb)
 | 3=>.iface 173 (vP h.eb)
 | 4=>.iface 173 (vP h.eb)
 | 5=>.iface 147 (vP h.gx)
 | _=>h.run
noncomputable def thV(p:Nat)(h:PbH): Nat→Value
 | 1=>.func (.func 51) #[] #[vP h.bp,vP h.bt]
 | 2=>.func (.func 108) #[vP p] #[]
 | 3=>.func (.func 157) #[vP p] #[]
 | 4=>.func (.func 186) #[] #[vP h.bp,vP h.b5,vP h.b2]
 | 5=>.func (.func 197) #[] #[vP h.bp,vP h.bc]
 | _=>h.th
def cdV(ph:Nat)(cd:Int): Int:=match ph with
 | 0=>cd
 | _=>0
def ovV(ph:Nat): Bool:=match ph with
 | 0=>true
 | _=>false
noncomputable def phL(c:Cfg)(p:Nat)(ws:List Int)(S:Pb)(h:PbH): List Ent:=match S.ph with
 | 1=>[.pts h.bp [vP p] 23,.pts h.bt [vP h.k] 114,E65ea3 h.k c S.tk h.k]
 | 2=>[.pts h.eb [vI S.i,vI ((ws.length:Nat):Int),.func (.func 106) #[] #[vP h.bf,vP h.bp]] 176,.pts h.bf [vI (blockAt c S.block+1)] 3,.pts h.bp [vP p] 23]
 | 3=>[.pts h.eb [vI 0,vI 1,.func (.func 156) #[] #[vP h.bp]] 176,.pts h.bp [vP p] 23]
 | 4=>[.pts h.eb [vI 0,vI 1,.func (.func 184) #[] #[vP h.bp,vP h.b3,vP h.b5]] 176,.pts h.bp [vP p] 23,.pts h.b3 [vU (pubW S.seen S.block)] 60,.pts h.b5 [.bool false] 4,E15a58 h.b2 (ctlEpoch S.seen) (ctlGen S.seen) (ctlBlock S.seen) (ctlLive S.seen) (ctlBusy S.seen)]
 | 5=>[E00526 h.gx c S.gv (nxV h.gx S.gv.ph),.pts h.bp [vP p] 23,.pts h.bc [vI S.code] 42]
 | _=>[]
noncomputable def pbL(p:Nat)(c:Cfg)(wd ep:Int)(ws:List Int)(S:Pb)(h:PbH): List Ent:=[.pts p [(runV h S.ph),(thV p h S.ph),vI (cdV S.ph S.code),.bool (ovV S.ph),vI c.topics,vI c.small,vI c.slots,vI c.clients,vI c.s0,vI c.n0,vI c.s1,vI c.n1,vI c.retry,vI wd,vI ep,.slice h.wa ws.length h.wc,vI S.block,vI S.old,vU S.seen,vI S.failed,vI S.time] 109,E54ea0 h.wa h.wc ws,.res (dens (phL c p ws S h))]
noncomputable def PbR(p:Nat)(c:Cfg)(wd ep:Int)(ws:List Int)(S:Pb): Res:=Box (fun _:PbH=>True) (pbL p c wd ep ws S)
theorem pub_Step(p ba:Nat)(c:Cfg)(wd ep:Int)(ws:List Int)(S:Pb)(A:Ar)(hc:c.Ok)(hn:A.ws.length=A.n)(hs:0≤A.steps∧A.steps≤1000000000)(hz:(A.n:Int)=sizeOfC c)(hR:RngW A.ws)(hwd:0≤wd∧wd<A.n)(hS:S.Ok c ws):
  Ctr Tryz.prog 15 #[vP p,vP ba] [.res (PbR p c wd ep ws S),E3504b ba A,E35fb1 A] (Ret (.bool ((S.step c wd ep ws A).1.ph==0)) [.res (PbR p c wd ep ws ((S.step c wd ep ws A).1)),E3504b ba ((S.step c wd ep ws A).2),E35fb1 ((S.step c wd ep ws A).2)]):=by
 refine oC (I:=fun _:PbH=>True) (LL:=pbL p c wd ep ws S) 0 ?_
 rintro⟨run,th,wa,wc,k,bp,bt,eb,bf,b3,b5,b2,gx,bc⟩ -
 obtain⟨tk,i,sn,fl,bk,od,tm,cd,gv,ph⟩:=S
 obtain⟨h1,h2,h3,hne,h4,h5,h6,h7,h8,h9,h10,h11,h12,h13,h14,h15,h16,h17,hc0,h18⟩:=hS
 simp only at h1 h2 h3 h4 h5 h6 h7 h8 h9 h10 h11 h12 h13 h14 h15 h16 h17 h18 hc0
 have hc':=hc
 simp only [Cfg.Ok] at hc'
 have hk0:=h2.cls
 have hfl:0≤fl∧fl≤1000:=by omega
 have hsz:=sizeOfC_ok hc
 match ph,h1 with
 | 0,_=>
  have e:Pb.step c wd ep ws (⟨tk,i,sn,fl,bk,od,tm,cd,gv,0⟩:Pb) A=((⟨tk,i,sn,fl,bk,od,tm,cd,gv,0⟩:Pb),A):=by unfold Pb.step; simp only; skip
  rw [e]
  refine cP [2] (pub_Step0 c p ba wd ep bk od sn fl tm cd (.slice wa ws.length wc) run th) ?_
  rintro v post ⟨rfl,rfl⟩
  exact⟨_,(((vC [])).trans (vK (fun _:PbH=>True) (pbL p c wd ep ws (⟨tk,i,sn,fl,bk,od,tm,cd,gv,0⟩:Pb)) ⟨run,th,wa,wc,k,bp,bt,eb,bf,b3,b5,b2,gx,bc⟩ [4,2,5] trivial)).trans (vQ [3,0,1]),rfl,rfl⟩
 | 1,_=>
  obtain rfl:=h7 rfl
  have hto:=(tk_step (k:=A.steps) h2 ⟨hn,hz,hR,hs.1,Int.le_refl _⟩).1
  by_cases hd:(Tk.step c tk A).1.ph=0
  ·by_cases h0:(Tk.step c tk A).1.block=0
   ·skip
    have e:Pb.step c wd ep ws (⟨tk,0,sn,fl,bk,od,tm,cd,gv,1⟩:Pb) A=((⟨(Tk.step c tk A).1,0,sn,fl,bk,od,tm,18,gv,0⟩:Pb),(Tk.step c tk A).2):=by unfold Pb.step; simp only; rw [if_pos hd,if_pos h0]
    rw [e]
    refine ctr_view (view_open 4 (N:=[.pts bp [vP p] 23,.pts bt [vP k] 114,E65ea3 k c tk k]) (M:=[E3504b ba A,E35fb1 A,Ef60d6 p (.iface 114 (vP k)) (.func (.func 51) #[] #[vP bp,vP bt]) 0 false c wd ep wa ws.length wc bk od sn fl tm,E54ea0 wa wc ws]) kR) ?_
    refine cP [2,4,5,6,0,1] (pub_Step1N c p ba k bp bt wd ep bk od sn fl tm 0 wa ws.length wc tk A hn hs hc hz hR h2 hd h0) ?_
    rintro v post ⟨rfl,rfl⟩
    exact⟨_,(((vC [])).trans (vK (fun _:PbH=>True) (pbL p c wd ep ws (⟨(Tk.step c tk A).1,0,sn,fl,bk,od,tm,18,gv,0⟩:Pb)) ⟨(.iface 114 (vP k)),(.func (.func 51) #[] #[vP bp,vP bt]),wa,wc,k,bp,bt,eb,bf,b3,b5,b2,gx,bc⟩ [1,0,7] trivial)).trans (vQ [5,3,4]),rfl,rfl⟩
   ·have hb:0≤clsOf c (Tk.step c tk A).1.block:=by have:=(hto.b0 hd).resolve_left h0; rw [this]; have:=hto.cls; omega
    have e:Pb.step c wd ep ws (⟨tk,0,sn,fl,bk,od,tm,cd,gv,1⟩:Pb) A=((⟨(Tk.step c tk A).1,0,sn,fl,(Tk.step c tk A).1.block,od,tm,cd,gv,2⟩:Pb),(Tk.step c tk A).2):=by unfold Pb.step; simp only; rw [if_pos hd,if_neg h0]
    rw [e]
    refine ctr_view (view_open 4 (N:=[.pts bp [vP p] 23,.pts bt [vP k] 114,E65ea3 k c tk k]) (M:=[E3504b ba A,E35fb1 A,Ef60d6 p (.iface 114 (vP k)) (.func (.func 51) #[] #[vP bp,vP bt]) 0 false c wd ep wa ws.length wc bk od sn fl tm,E54ea0 wa wc ws]) kR) ?_
    refine cP [2,4,5,6,0,1] (pub_Step1Y c p ba k bp bt wd ep bk od sn fl tm 0 wa ws.length wc tk A hn hs hc hz hR h2 hd h0 hb) ?_
    rintro v post ⟨eb_1,bf_2,bq_3,rfl,rfl⟩
    exact⟨_,(((vC [7,8,9])).trans (vK (fun _:PbH=>True) (pbL p c wd ep ws (⟨(Tk.step c tk A).1,0,sn,fl,(Tk.step c tk A).1.block,od,tm,cd,gv,2⟩:Pb)) ⟨run,th,wa,wc,k,bq_3,bt,eb_1,bf_2,b3,b5,b2,gx,bc⟩ [1,0,7] trivial)).trans (vQ [5,3,4]),rfl,rfl⟩
  ·skip
   have e:Pb.step c wd ep ws (⟨tk,0,sn,fl,bk,od,tm,cd,gv,1⟩:Pb) A=((⟨(Tk.step c tk A).1,0,sn,fl,bk,od,tm,cd,gv,1⟩:Pb),(Tk.step c tk A).2):=by unfold Pb.step; simp only; rw [if_neg hd]
   rw [e]
   refine ctr_view (view_open 4 (N:=[.pts bp [vP p] 23,.pts bt [vP k] 114,E65ea3 k c tk k]) (M:=[E3504b ba A,E35fb1 A,Ef60d6 p (.iface 114 (vP k)) (.func (.func 51) #[] #[vP bp,vP bt]) 0 false c wd ep wa ws.length wc bk od sn fl tm,E54ea0 wa wc ws]) kR) ?_
   refine cP [2,4,5,6,0,1] (pub_Step1W c p ba k bp bt wd ep bk od sn fl tm 0 wa ws.length wc tk A hn hs hc hz hR h2 hd) ?_
   rintro v post ⟨rfl,rfl⟩
   exact⟨_,(((vC [2,3,4])).trans (vK (fun _:PbH=>True) (pbL p c wd ep ws (⟨(Tk.step c tk A).1,0,sn,fl,bk,od,tm,cd,gv,1⟩:Pb)) ⟨run,th,wa,wc,k,bp,bt,eb,bf,b3,b5,b2,gx,bc⟩ [1,0,4] trivial)).trans (vQ [2,0,1]),rfl,rfl⟩
 | 2,_=>
  have hcb:=h11 (by decide) (by decide)
  have hcl:0≤clsOf c bk:=by omega
  have hbf:=blockAt_fit hc hcl
  have hbl:=blockAt_ok hc hcl
  have hi2:=h6 rfl
  rw [←hcb] at h4
  have hzk:=szK_ok hc (clsOf c bk)
  have hi0:0≤i∧i<((ws.length:Nat):Int):=⟨h5.1,hi2⟩
  have hx:0≤blockAt c bk+1+i∧blockAt c bk+1+i<A.n:=by omega
  have hfr:0≤blockAt c bk+1∧blockAt c bk+1≤1000000:=by omega
  have hl:ws.length≤1000000:=by omega
  by_cases hd:i+1=((ws.length:Nat):Int)
  ·skip
   have e:Pb.step c wd ep ws (⟨tk,i,sn,fl,bk,od,tm,cd,gv,2⟩:Pb) A=((⟨tk,i+1,sn,fl,bk,od,tm,cd,gv,3⟩:Pb),(A.store (blockAt c bk+1+i) (ws.getD i.toNat 0))):=by unfold Pb.step; simp only; rw [if_pos hd]
   rw [e]
   refine ctr_view (view_open 4 (N:=[.pts eb [vI i,vI ((ws.length:Nat):Int),.func (.func 106) #[] #[vP bf,vP bp]] 176,.pts bf [vI (blockAt c bk+1)] 3,.pts bp [vP p] 23]) (M:=[E3504b ba A,E35fb1 A,Ef60d6 p (.iface 173 (vP eb)) (.func (.func 108) #[vP p] #[]) 0 false c wd ep wa ws.length wc bk od sn fl tm,E54ea0 wa wc ws]) kR) ?_
   refine cP [2,3,4,5,6,0,1] (pub_Step2Y c p ba bf bp eb wd ep bk od sn fl tm 0 wa wc ws i (blockAt c bk+1) A hi0 hx hfr hn hs hl hd) ?_
   rintro v post ⟨e2_1,bq_2,rfl,rfl⟩
   exact⟨_,(((vC [7,8])).trans (vK (fun _:PbH=>True) (pbL p c wd ep ws (⟨tk,i+1,sn,fl,bk,od,tm,cd,gv,3⟩:Pb)) ⟨run,th,wa,wc,k,bq_2,bt,e2_1,bf,b3,b5,b2,gx,bc⟩ [0,1,7] trivial)).trans (vQ [5,3,4]),rfl,rfl⟩
  ·skip
   have e:Pb.step c wd ep ws (⟨tk,i,sn,fl,bk,od,tm,cd,gv,2⟩:Pb) A=((⟨tk,i+1,sn,fl,bk,od,tm,cd,gv,2⟩:Pb),(A.store (blockAt c bk+1+i) (ws.getD i.toNat 0))):=by unfold Pb.step; simp only; rw [if_neg hd]
   rw [e]
   refine ctr_view (view_open 4 (N:=[.pts eb [vI i,vI ((ws.length:Nat):Int),.func (.func 106) #[] #[vP bf,vP bp]] 176,.pts bf [vI (blockAt c bk+1)] 3,.pts bp [vP p] 23]) (M:=[E3504b ba A,E35fb1 A,Ef60d6 p (.iface 173 (vP eb)) (.func (.func 108) #[vP p] #[]) 0 false c wd ep wa ws.length wc bk od sn fl tm,E54ea0 wa wc ws]) kR) ?_
   refine cP [2,3,4,5,6,0,1] (pub_Step2N c p ba bf bp eb wd ep bk od sn fl tm 0 wa wc ws i (blockAt c bk+1) A hi0 hx hfr hn hs hl hd) ?_
   rintro v post ⟨rfl,rfl⟩
   exact⟨_,(((vC [2,3,4])).trans (vK (fun _:PbH=>True) (pbL p c wd ep ws (⟨tk,i+1,sn,fl,bk,od,tm,cd,gv,2⟩:Pb)) ⟨run,th,wa,wc,k,bp,bt,eb,bf,b3,b5,b2,gx,bc⟩ [0,1,4] trivial)).trans (vQ [2,0,1]),rfl,rfl⟩
 | 3,_=>
  have hcb:=h11 (by decide) (by decide)
  have hcl:0≤clsOf c bk:=by omega
  have hbk:1≤bk∧bk≤65535:=by have:=clsOf_ok hcl; omega
  cases hl:ctlLive (A.ws.getD wd.toNat 0) with
  | false=>
   have e:Pb.step c wd ep ws (⟨tk,i,sn,fl,bk,od,tm,cd,gv,3⟩:Pb) A=((⟨tk,i,(A.ws.getD wd.toNat 0),fl,bk,od,tm,22,newGv c bk,5⟩:Pb),(A.load wd)):=by unfold Pb.step; simp only; rw [if_neg (by rw [hl]; simp)]; rfl
   rw [e]
   refine ctr_view (view_open 4 (N:=[.pts eb [vI 0,vI 1,.func (.func 156) #[] #[vP bp]] 176,.pts bp [vP p] 23]) (M:=[E3504b ba A,E35fb1 A,Ef60d6 p (.iface 173 (vP eb)) (.func (.func 157) #[vP p] #[]) 0 false c wd ep wa ws.length wc bk od sn fl tm,E54ea0 wa wc ws]) kR) ?_
   refine cP [2,4,5,0,1] (pub_Step3D c p ba bp eb wd ep bk od sn fl tm 0 (.slice wa ws.length wc) A hn hs hwd (hR _) hbk hc hcl hl) ?_
   rintro v post ⟨gv_1,bq_2,bc_3,rfl,rfl⟩
   exact⟨_,(((vC [6,7,8])).trans (vK (fun _:PbH=>True) (pbL p c wd ep ws (⟨tk,i,(A.ws.getD wd.toNat 0),fl,bk,od,tm,22,newGv c bk,5⟩:Pb)) ⟨run,th,wa,wc,k,bq_2,bt,eb,bf,b3,b5,b2,gv_1,bc_3⟩ [1,0,6] trivial)).trans (vQ [4,2,3]),rfl,rfl⟩
  | true=>
   by_cases he:ctlEpoch (A.ws.getD wd.toNat 0)=ep
   ·cases hb:ctlBusy (A.ws.getD wd.toNat 0) with
    | true=>
     have e:Pb.step c wd ep ws (⟨tk,i,sn,fl,bk,od,tm,cd,gv,3⟩:Pb) A=((⟨tk,i,(A.ws.getD wd.toNat 0),fl,bk,od,tm,22,newGv c bk,5⟩:Pb),(A.load wd)):=by unfold Pb.step; simp only; rw [if_neg (fun h=>by rw [hb] at h; simp at h)]; rfl
     rw [e]
     refine ctr_view (view_open 4 (N:=[.pts eb [vI 0,vI 1,.func (.func 156) #[] #[vP bp]] 176,.pts bp [vP p] 23]) (M:=[E3504b ba A,E35fb1 A,Ef60d6 p (.iface 173 (vP eb)) (.func (.func 157) #[vP p] #[]) 0 false c wd ep wa ws.length wc bk od sn fl tm,E54ea0 wa wc ws]) kR) ?_
     refine cP [2,4,5,0,1] (pub_Step3B c p ba bp eb wd ep bk od sn fl tm 0 (.slice wa ws.length wc) A hn hs hwd (hR _) hbk hc hcl hl he hb) ?_
     rintro v post ⟨gv_1,bq_2,bc_3,rfl,rfl⟩
     exact⟨_,(((vC [6,7,8])).trans (vK (fun _:PbH=>True) (pbL p c wd ep ws (⟨tk,i,(A.ws.getD wd.toNat 0),fl,bk,od,tm,22,newGv c bk,5⟩:Pb)) ⟨run,th,wa,wc,k,bq_2,bt,eb,bf,b3,b5,b2,gv_1,bc_3⟩ [1,0,6] trivial)).trans (vQ [4,2,3]),rfl,rfl⟩
    | false=>
     by_cases hg:ctlGen (A.ws.getD wd.toNat 0)=2147483647
     ·skip
      have e:Pb.step c wd ep ws (⟨tk,i,sn,fl,bk,od,tm,cd,gv,3⟩:Pb) A=((⟨tk,i,(A.ws.getD wd.toNat 0),fl,bk,od,tm,16,newGv c bk,5⟩:Pb),(A.load wd)):=by unfold Pb.step; simp only; rw [if_pos ⟨hl,he,hb⟩,if_pos hg]; rfl
      rw [e]
      refine ctr_view (view_open 4 (N:=[.pts eb [vI 0,vI 1,.func (.func 156) #[] #[vP bp]] 176,.pts bp [vP p] 23]) (M:=[E3504b ba A,E35fb1 A,Ef60d6 p (.iface 173 (vP eb)) (.func (.func 157) #[vP p] #[]) 0 false c wd ep wa ws.length wc bk od sn fl tm,E54ea0 wa wc ws]) kR) ?_
      refine cP [2,4,5,0,1] (pub_Step3O c p ba bp eb wd ep bk od sn fl tm 0 (.slice wa ws.length wc) A hn hs hwd (hR _) hbk hc hcl hl he hb hg) ?_
      rintro v post ⟨gv_1,bq_2,bc_3,rfl,rfl⟩
      exact⟨_,(((vC [6,7,8])).trans (vK (fun _:PbH=>True) (pbL p c wd ep ws (⟨tk,i,(A.ws.getD wd.toNat 0),fl,bk,od,tm,16,newGv c bk,5⟩:Pb)) ⟨run,th,wa,wc,k,bq_2,bt,eb,bf,b3,b5,b2,gv_1,bc_3⟩ [1,0,6] trivial)).trans (vQ [4,2,3]),rfl,rfl⟩
     ·skip
      have e:Pb.step c wd ep ws (⟨tk,i,sn,fl,bk,od,tm,cd,gv,3⟩:Pb) A=((⟨tk,i,(A.ws.getD wd.toNat 0),fl,bk,od,tm,cd,gv,4⟩:Pb),(A.load wd)):=by unfold Pb.step; simp only; rw [if_pos ⟨hl,he,hb⟩,if_neg hg]
      rw [e]
      refine ctr_view (view_open 4 (N:=[.pts eb [vI 0,vI 1,.func (.func 156) #[] #[vP bp]] 176,.pts bp [vP p] 23]) (M:=[E3504b ba A,E35fb1 A,Ef60d6 p (.iface 173 (vP eb)) (.func (.func 157) #[vP p] #[]) 0 false c wd ep wa ws.length wc bk od sn fl tm,E54ea0 wa wc ws]) kR) ?_
      refine cP [2,4,5,0,1] (pub_Step3K c p ba bp eb wd ep bk od sn fl tm 0 (.slice wa ws.length wc) A hn hs hwd (hR _) hbk hc hcl hl he hb hg) ?_
      rintro v post ⟨e2_1,bq_2,b3_3,b5_4,b2_5,rfl,rfl⟩
      exact⟨_,(((vC [6,7,8,9,10])).trans (vK (fun _:PbH=>True) (pbL p c wd ep ws (⟨tk,i,(A.ws.getD wd.toNat 0),fl,bk,od,tm,cd,gv,4⟩:Pb)) ⟨run,th,wa,wc,k,bq_2,bt,e2_1,bf,b3_3,b5_4,b2_5,gx,bc⟩ [1,0,6] trivial)).trans (vQ [4,2,3]),rfl,rfl⟩
   ·skip
    have e:Pb.step c wd ep ws (⟨tk,i,sn,fl,bk,od,tm,cd,gv,3⟩:Pb) A=((⟨tk,i,(A.ws.getD wd.toNat 0),fl,bk,od,tm,22,newGv c bk,5⟩:Pb),(A.load wd)):=by unfold Pb.step; simp only; rw [if_neg (fun h=>he h.2.1)]; rfl
    rw [e]
    refine ctr_view (view_open 4 (N:=[.pts eb [vI 0,vI 1,.func (.func 156) #[] #[vP bp]] 176,.pts bp [vP p] 23]) (M:=[E3504b ba A,E35fb1 A,Ef60d6 p (.iface 173 (vP eb)) (.func (.func 157) #[vP p] #[]) 0 false c wd ep wa ws.length wc bk od sn fl tm,E54ea0 wa wc ws]) kR) ?_
    refine cP [2,4,5,0,1] (pub_Step3E c p ba bp eb wd ep bk od sn fl tm 0 (.slice wa ws.length wc) A hn hs hwd (hR _) hbk hc hcl hl he) ?_
    rintro v post ⟨gv_1,bq_2,bc_3,rfl,rfl⟩
    exact⟨_,(((vC [6,7,8])).trans (vK (fun _:PbH=>True) (pbL p c wd ep ws (⟨tk,i,(A.ws.getD wd.toNat 0),fl,bk,od,tm,22,newGv c bk,5⟩:Pb)) ⟨run,th,wa,wc,k,bq_2,bt,eb,bf,b3,b5,b2,gv_1,bc_3⟩ [1,0,6] trivial)).trans (vQ [4,2,3]),rfl,rfl⟩
 | 4,_=>
  have hcb:=h11 (by decide) (by decide)
  have hcl:0≤clsOf c bk:=by omega
  have hbk:=clsOf_ok hcl
  obtain⟨q1,q2,q3⟩:=h15 rfl
  have hv:U64 (pubW sn bk):=pubW_rng h8 q3 (by omega)
  by_cases hq:(A.ws.getD wd.toNat 0)=sn
  ·skip
   have e:Pb.step c wd ep ws (⟨tk,i,sn,fl,bk,od,tm,cd,gv,4⟩:Pb) A=((⟨tk,i,sn,fl,0,ctlBlock sn,A.steps+1,0,gv,0⟩:Pb),(A.swapT wd (pubW sn bk))):=by unfold Pb.step; simp only; rw [if_pos hq]
   rw [e]
   refine ctr_view (view_open 4 (N:=[.pts eb [vI 0,vI 1,.func (.func 184) #[] #[vP bp,vP b3,vP b5]] 176,.pts bp [vP p] 23,.pts b3 [vU (pubW sn bk)] 60,.pts b5 [.bool false] 4,E15a58 b2 (ctlEpoch sn) (ctlGen sn) (ctlBlock sn) (ctlLive sn) (ctlBusy sn)]) (M:=[E3504b ba A,E35fb1 A,Ef60d6 p (.iface 173 (vP eb)) (.func (.func 186) #[] #[vP bp,vP b5,vP b2]) 0 false c wd ep wa ws.length wc bk od sn fl tm,E54ea0 wa wc ws]) kR) ?_
   refine cP [2,4,5,6,7,8,0,1] (pub_Step4T c p ba bp b3 b5 b2 eb wd ep bk od sn fl tm 0 (.slice wa ws.length wc) (pubW sn bk) sn A hn hs hwd h8 hv hq) ?_
   rintro v post ⟨rfl,rfl⟩
   exact⟨_,(((vC [])).trans (vK (fun _:PbH=>True) (pbL p c wd ep ws (⟨tk,i,sn,fl,0,ctlBlock sn,A.steps+1,0,gv,0⟩:Pb)) ⟨(.iface 173 (vP eb)),(.func (.func 186) #[] #[vP bp,vP b5,vP b2]),wa,wc,k,bp,bt,eb,bf,b3,b5,b2,gx,bc⟩ [1,0,9] trivial)).trans (vQ [7,5,6]),rfl,rfl⟩
  ·by_cases hr:fl+1=c.retry
   ·skip
    have e:Pb.step c wd ep ws (⟨tk,i,sn,fl,bk,od,tm,cd,gv,4⟩:Pb) A=((⟨tk,i,sn,fl+1,bk,od,tm,17,newGv c bk,5⟩:Pb),(A.swapF wd)):=by unfold Pb.step; simp only; rw [if_neg hq,if_pos hr]; rfl
    rw [e]
    refine ctr_view (view_open 4 (N:=[.pts eb [vI 0,vI 1,.func (.func 184) #[] #[vP bp,vP b3,vP b5]] 176,.pts bp [vP p] 23,.pts b3 [vU (pubW sn bk)] 60,.pts b5 [.bool false] 4,E15a58 b2 (ctlEpoch sn) (ctlGen sn) (ctlBlock sn) (ctlLive sn) (ctlBusy sn)]) (M:=[E3504b ba A,E35fb1 A,Ef60d6 p (.iface 173 (vP eb)) (.func (.func 186) #[] #[vP bp,vP b5,vP b2]) 0 false c wd ep wa ws.length wc bk od sn fl tm,E54ea0 wa wc ws]) kR) ?_
    refine cP [2,4,5,6,7,8,0,1] (pub_Step4R c p ba bp b3 b5 b2 eb wd ep bk od sn fl tm 0 (.slice wa ws.length wc) (pubW sn bk) sn A hn hs hwd h8 hv hq hfl hr hc hcl) ?_
    rintro v post ⟨gv_1,bq_2,bc_3,rfl,rfl⟩
    exact⟨_,(((vC [9,10,11])).trans (vK (fun _:PbH=>True) (pbL p c wd ep ws (⟨tk,i,sn,fl+1,bk,od,tm,17,newGv c bk,5⟩:Pb)) ⟨run,th,wa,wc,k,bq_2,bt,eb,bf,b3,b5,b2,gv_1,bc_3⟩ [1,0,9] trivial)).trans (vQ [7,5,6]),rfl,rfl⟩
   ·skip
    have e:Pb.step c wd ep ws (⟨tk,i,sn,fl,bk,od,tm,cd,gv,4⟩:Pb) A=((⟨tk,i,sn,fl+1,bk,od,tm,cd,gv,3⟩:Pb),(A.swapF wd)):=by unfold Pb.step; simp only; rw [if_neg hq,if_neg hr]
    rw [e]
    refine ctr_view (view_open 4 (N:=[.pts eb [vI 0,vI 1,.func (.func 184) #[] #[vP bp,vP b3,vP b5]] 176,.pts bp [vP p] 23,.pts b3 [vU (pubW sn bk)] 60,.pts b5 [.bool false] 4,E15a58 b2 (ctlEpoch sn) (ctlGen sn) (ctlBlock sn) (ctlLive sn) (ctlBusy sn)]) (M:=[E3504b ba A,E35fb1 A,Ef60d6 p (.iface 173 (vP eb)) (.func (.func 186) #[] #[vP bp,vP b5,vP b2]) 0 false c wd ep wa ws.length wc bk od sn fl tm,E54ea0 wa wc ws]) kR) ?_
    refine cP [2,4,5,6,7,8,0,1] (pub_Step4N c p ba bp b3 b5 b2 eb wd ep bk od sn fl tm 0 (.slice wa ws.length wc) (pubW sn bk) sn A hn hs hwd h8 hv hq hfl hr) ?_
    rintro v post ⟨e2_1,bq_2,rfl,rfl⟩
    exact⟨_,(((vC [9,10])).trans (vK (fun _:PbH=>True) (pbL p c wd ep ws (⟨tk,i,sn,fl+1,bk,od,tm,cd,gv,3⟩:Pb)) ⟨run,th,wa,wc,k,bq_2,bt,e2_1,bf,b3,b5,b2,gx,bc⟩ [1,0,9] trivial)).trans (vQ [7,5,6]),rfl,rfl⟩
 | 5,_=>
  have hgv:=(h16 rfl).1.ok hc hz
  by_cases hd:(Gv.step c gv A).1.ph=0
  ·skip
   have e:Pb.step c wd ep ws (⟨tk,i,sn,fl,bk,od,tm,cd,gv,5⟩:Pb) A=((⟨tk,i,sn,fl,0,od,tm,cd,(Gv.step c gv A).1,0⟩:Pb),(Gv.step c gv A).2):=by unfold Pb.step; simp only; rw [if_pos hd]
   rw [e]
   refine ctr_view (view_open 4 (N:=[E00526 gx c gv (nxV gx gv.ph),.pts bp [vP p] 23,.pts bc [vI cd] 42]) (M:=[E3504b ba A,E35fb1 A,Ef60d6 p (.iface 147 (vP gx)) (.func (.func 197) #[] #[vP bp,vP bc]) 0 false c wd ep wa ws.length wc bk od sn fl tm,E54ea0 wa wc ws]) kR) ?_
   refine cP [2,4,5,6,0,1] (pub_Step5Y c p ba gx bp bc wd ep bk od sn fl tm 0 (.slice wa ws.length wc) cd gv A hn hs hc hgv hd) ?_
   rintro v post ⟨rfl,rfl⟩
   exact⟨_,(((vC [])).trans (vK (fun _:PbH=>True) (pbL p c wd ep ws (⟨tk,i,sn,fl,0,od,tm,cd,(Gv.step c gv A).1,0⟩:Pb)) ⟨(.iface 147 (vP gx)),(.func (.func 197) #[] #[vP bp,vP bc]),wa,wc,k,bp,bt,eb,bf,b3,b5,b2,gx,bc⟩ [1,0,7] trivial)).trans (vQ [5,3,4]),rfl,rfl⟩
  ·skip
   have e:Pb.step c wd ep ws (⟨tk,i,sn,fl,bk,od,tm,cd,gv,5⟩:Pb) A=((⟨tk,i,sn,fl,bk,od,tm,cd,(Gv.step c gv A).1,5⟩:Pb),(Gv.step c gv A).2):=by unfold Pb.step; simp only; rw [if_neg hd]
   rw [e]
   refine ctr_view (view_open 4 (N:=[E00526 gx c gv (nxV gx gv.ph),.pts bp [vP p] 23,.pts bc [vI cd] 42]) (M:=[E3504b ba A,E35fb1 A,Ef60d6 p (.iface 147 (vP gx)) (.func (.func 197) #[] #[vP bp,vP bc]) 0 false c wd ep wa ws.length wc bk od sn fl tm,E54ea0 wa wc ws]) kR) ?_
   refine cP [2,4,5,6,0,1] (pub_Step5W c p ba gx bp bc wd ep bk od sn fl tm 0 (.slice wa ws.length wc) cd gv A hn hs hc hgv hd) ?_
   rintro v post ⟨rfl,rfl⟩
   exact⟨_,(((vC [2,3,4])).trans (vK (fun _:PbH=>True) (pbL p c wd ep ws (⟨tk,i,sn,fl,bk,od,tm,cd,(Gv.step c gv A).1,5⟩:Pb)) ⟨run,th,wa,wc,k,bp,bt,eb,bf,b3,b5,b2,gx,bc⟩ [1,0,4] trivial)).trans (vQ [2,0,1]),rfl,rfl⟩
 | n+6,h=>omega
end Go.Proofs.YtpcaijopodhdgaaGreatDoor
namespace Go.Proofs.YtpcaijopodhdgaaGreatDoor
open Go.Sx
abbrev E2b60f(x0:Nat)(x1:Value)(x2:Value)(x3:Int)(x4:Bool)(c5:Cfg)(x6:Value)(x7:Int)(x8:Option Addr)(x9:Nat)(x10:Nat): Ent:=.pts x0 [x1,x2,.int .i64 x3,.bool x4,.int .i64 c5.topics,.int .i64 c5.small,.int .i64 c5.slots,.int .i64 c5.clients,.int .i64 c5.s0,.int .i64 c5.n0,.int .i64 c5.s1,.int .i64 c5.n1,.int .i64 c5.retry,x6,.int .i64 x7,.slice x8 x9 x10] 112
theorem plan_ClassK0(c:Cfg)(k:Int)(hc:c.Ok)(hk:InK .i64 (k-1))(hq:clsOf c k=0):
  Ctr Tryz.prog 78 #[cfgV c,vI k] [] (Ret (vI 0) []):=by
 have h:=plan_Class c k hc hk
 rw [hq] at h
 exact h
theorem plan_ClassK1(c:Cfg)(k:Int)(hc:c.Ok)(hk:InK .i64 (k-1))(hq:clsOf c k=1):
  Ctr Tryz.prog 78 #[cfgV c,vI k] [] (Ret (vI 1) []):=by
 have h:=plan_Class c k hc hk
 rw [hq] at h
 exact h
noncomputable def B114: Code:=(Tryz.f114.body).getD .skip
theorem rd_release(c:Cfg)(p:Nat)(sl cd:Int)(ov:Bool)(gp wsl:Value)(r_ th_:Value)(k_:Int)(hc:c.Ok)(hsl:0≤sl∧sl<c.slots):
  Ctr Tryz.prog 114 #[vP p,vI k_] [Ecc945 p r_ th_ cd ov c gp sl wsl] (fun v L => ∃(rl:Nat) (bq:Nat) (bc:Nat),v=undef∧L=[Ecc945 p (.iface 222 (vP rl)) (.func (.func 163) #[] #[vP bq,vP bc]) cd ov c gp sl wsl,.pts rl [vI (slotAt c sl),.bool false] 259,.pts bq [vP p] 24,.pts bc [vI k_] 42]):=by
 refine cB B114 19 Tryz.func114 ?_
 intro F
 refine gX [.z [1] 0 [2,3]] (gN fun b_1=>gN fun b_2=>gW (ks:=[.c [1]]) [(2,vP b_1),(3,vP b_2)] [Ecc945 p r_ th_ cd ov c gp sl wsl,.pts b_1 [vP p] 24,.pts b_2 [vI k_] 42] ?_)
 refine zG ?_
 refine zN [0,1,2,3,4,5,6,7,8,9,10,13] (kV 0 [.e 1,.w,.w,.e 1,.w,.w,.e 0,.e 1,.w,.w,.e 0]++kV 13 [.w]) [2,3,4,5,6,7,8,9,10,11,12,13,14,17] [11] (.e b_1 (.e b_1 (.e p (.e b_1 (.e p .n))))) ⟨?_,trivial⟩
 refine zC (some 15) [] Tryz.call162 (new_Release c sl oM hsl) ?_
 rintro v post ⟨r_11_1,rfl,rfl⟩
 refine zN [12] [(0,.e 1),(1,.w),(2,.w),(12,.w),(13,.w)] [15,2,3,4,5,6,16,17] [14] (.e b_1 .n) ⟨?_,trivial⟩
 refine zC (some 18) [0] Tryz.call50 (rd_follow c p sl cd ov gp wsl r_ th_ 222 r_11_1 (.func 163) (#[]) (#[vP b_1,vP b_2])) ?_
 rintro v post ⟨rfl,rfl⟩
 refine zE [] [] [] .n ?_
 exact gX [] (gJ [3,2,0,1] ⟨r_11_1,b_1,b_2,rfl,rfl⟩)
noncomputable def B163: Code:=(Tryz.f163.body).getD .skip
theorem rd_then4(c:Cfg)(p bq bc:Nat)(sl cd:Int)(ov:Bool)(gp wsl:Value)(r_ th_:Value)(k_:Int):
  Ctr Tryz.prog 163 #[vP bq,vP bc] [.pts bq [vP p] 24,.pts bc [vI k_] 42,Ecc945 p r_ th_ cd ov c gp sl wsl] (Ret (undef) [.pts bq [vP p] 24,.pts bc [vI k_] 42,Ecc945 p r_ th_ k_ true c gp (-1) wsl]):=by
 refine cB B163 10 Tryz.func163 ?_
 intro F
 refine gX [.e 0,.e 2,.z [1] 0 [0,1]] (gQ bq (gQ p (gS [.c [1]] ?_)))
 refine tC (some 9) (kV 0 [.e 0,.ww,.ww,.e 1]) 4 [] [2] [] Tryz.call57 (rd_end c p (-1) cd ov gp wsl r_ th_ k_) (.e bq (.e bc .n)) .n ?_
 rintro v post ⟨rfl,rfl⟩
 refine tN .n ?_
 exact gX [] (gJ [0,1,2] ⟨rfl,rfl⟩)
noncomputable def B117: Code:=(Tryz.f117.body).getD .skip
theorem rd_then3(c:Cfg)(p bp:Nat)(sl cd:Int)(ov:Bool)(gp wsl:Value)(r_ th_:Value)(hc:c.Ok)(hsl:0≤sl∧sl<c.slots):
  Ctr Tryz.prog 117 #[vP bp] [.pts bp [vP p] 24,Ecc945 p r_ th_ cd ov c gp sl wsl] (fun v L => ∃(rl:Nat) (bq:Nat) (bc:Nat),v=undef∧L=[.pts bp [vP p] 24,Ecc945 p (.iface 222 (vP rl)) (.func (.func 163) #[] #[vP bq,vP bc]) cd ov c gp sl wsl,.pts rl [vI (slotAt c sl),.bool false] 259,.pts bq [vP p] 24,.pts bc [vI 0] 42]):=by
 refine cB B117 3 Tryz.func117 ?_
 intro F
 refine gX [.e 0,.z [] 1 [1]] (gQ bp (gS [.o [] 1] ?_))
 refine go_call (some 2) [1] Tryz.call114 (rd_release c p sl cd ov gp wsl r_ th_ 0 oM hsl) kR ?_
 rintro v post ⟨rl_1,bq_2,bc_3,rfl,rfl⟩
 exact gX [] (gJ [0,1,2,3,4] ⟨rl_1,bq_2,bc_3,rfl,rfl⟩)
theorem guard_ToldK(c:Cfg)(g:Nat)(G:Gu)(hph:G.ph=0)(hcd:G.code=0):
  Ctr Tryz.prog 113 #[vP g] [Ea7eb0 g c G g] (Ret (.tuple #[vI G.block,.nilIface]) [Ea7eb0 g c G g]):=by
 have h:=guard_Told c g G (by omega)
 rw [(told_of hph).1] at h
 have h:Ctr Tryz.prog 113 #[.pointer (some ⟨g,0,none⟩)] [Ea7eb0 g c G g] (Ret (.tuple #[.int .i64 G.block,errV G.code]) [Ea7eb0 g c G g]):=h
 rw [hcd] at h
 exact h
theorem guard_ToldE(c:Cfg)(g:Nat)(G:Gu)(hph:G.ph=0)(hcd:G.code≠0):
  Ctr Tryz.prog 113 #[vP g] [Ea7eb0 g c G g] (Ret (.tuple #[vI G.block,.iface 42 (vI G.code)]) [Ea7eb0 g c G g]):=by
 have h:=guard_Told c g G (by omega)
 rw [(told_of hph).1] at h
 have h:Ctr Tryz.prog 113 #[.pointer (some ⟨g,0,none⟩)] [Ea7eb0 g c G g] (Ret (.tuple #[.int .i64 G.block,errV G.code]) [Ea7eb0 g c G g]):=h
 rw [errV_ne hcd] at h
 exact h
noncomputable def B59: Code:=(Tryz.f59.body).getD .skip
theorem rd_guardedE(c:Cfg)(p gb:Nat)(sl cd:Int)(ov:Bool)(wsl:Value)(r_ th_:Value)(G:Gu)(o_:Obj)(hc:c.Ok)(hsl:0≤sl∧sl<c.slots)(hph:G.ph=0)(hcd:G.code≠0)(ho:IsH o_):
  Ctr Tryz.prog 59 #[vP p] [.raw 0 o_,Ecc945 p r_ th_ cd ov c (vP gb) sl wsl,Ea7eb0 gb c G gb] (fun v L => ∃(rl:Nat) (bq:Nat) (bc:Nat),v=undef∧L=[.raw 0 o_,Ecc945 p (.iface 222 (vP rl)) (.func (.func 163) #[] #[vP bq,vP bc]) cd ov c (vP gb) sl wsl,Ea7eb0 gb c G gb,.pts rl [vI (slotAt c sl),.bool false] 259,.pts bq [vP p] 24,.pts bc [vI G.code] 42]):=by
 refine cB B59 50 Tryz.func59 ?_
 intro F
 refine gX [.e 3,.e 1,.z [0,1] 4 [1,10]] (gN fun b_1=>gQ b_1 (gQ p (gS [.o [0,1] 4,.c [1,1]] ?_)))
 refine gC (some 11) [2] Tryz.call113 (guard_ToldE c gb G hph hcd) ?_
 refine gX [.z [0,0,1,0,1,1] 0 [1,3]] (gS [.c [0,0,1,0,1,1],.c [1,0,1,0,1,1],.c [1,1,1]] ?_)
 refine tC (some 19) (kV 0 [.e 2,.ww,.q (vI G.code)]) 3 [] [1] [] Tryz.call114 (rd_release c p sl cd ov (vP gb) wsl r_ th_ G.code oM hsl) (.e b_1 .n) (.c Tryz.call17 (qR [0] (cause_TopE o_ G.code ho)) .n) ?_
 rintro v post ⟨rl_2,bq_3,bc_4,rfl,rfl⟩
 refine tN .n ?_
 exact gX [] (gJ [0,3,2,4,5,6] ⟨rl_2,bq_3,bc_4,rfl,rfl⟩)
theorem rd_guarded0(c:Cfg)(p gb:Nat)(sl cd:Int)(ov:Bool)(wsl:Value)(r_ th_:Value)(G:Gu)(hc:c.Ok)(hph:G.ph=0)(hcd:G.code=0)(hq:clsOf c G.block=0):
  Ctr Tryz.prog 59 #[vP p] [Ecc945 p r_ th_ cd ov c (vP gb) sl wsl,Ea7eb0 gb c G gb] (fun v L => ∃(eb:Nat) (bp:Nat) (bf:Nat),v=undef∧L=[Ecc945 p (.iface 173 (vP eb)) (.func (.func 117) #[] #[vP bp]) cd ov c (vP gb) sl wsl,Ea7eb0 gb c G gb,.pts eb [vI 0,vI c.s0,.func (.func 115) #[] #[vP bp,vP bf]] 176,.pts bp [vP p] 24,.pts bf [vI (blockAt c G.block+1)] 3]):=by
 refine cB B59 50 Tryz.func59 ?_
 intro F
 refine gX [.e 2,.e 0,.z [0,1] 4 [1,10]] (gN fun b_1=>gQ b_1 (gQ p (gS [.o [0,1] 4,.c [1,1]] ?_)))
 refine gC (some 11) [1] Tryz.call113 (guard_ToldK c gb G hph hcd) ?_
 refine gX [.e 1,.e 0,.z [0,1,1,1] 5 [1,2,23,24]] (gQ b_1 (gQ p (gS [.o [0,1,1,1] 5,.c [1,1,1,1]] ?_)))
 refine gC (some 25) [] Tryz.call105 (plan_Block c G.block oM (by have h7:=clsOf_ok (c:=c) (b:=G.block) (by omega); simp only [Cfg.Ok,InK] at *; omega)) ?_
 refine gX [.n,.e 3,.z [0,1,1,1,1] 0 [1,2,4]] (gO (InK .i64 ((blockAt c G.block)+1)) (by have h7:=blockAt_ok hc (b:=G.block) (by omega); have h8:=sizeOfC_ok hc; simp only [InK]; omega) (gN fun b_2=>gQ b_2 (gS [.c [0,1,1,1,1],.c [1,1,1,1,1]] ?_)))
 refine qG (kV 0 [.e 1,.e 1,.ww,.ww,.e 0,.ww,.q (vI 0),.ww,.ww,.ww,.ww,.ww,.e 0,.ww]) [1,4,5] (.e b_1 (.e b_1 (.e p (.e p .n)))) (.c Tryz.call78 (qR [] (plan_ClassK0 c G.block oM (by have h7:=clsOf_ok (c:=c) (b:=G.block) (by omega); simp only [Cfg.Ok,InK] at *; omega) hq)) .n) ?_
 refine gX [.e 1,.z [1,1,1,1,1] 9 [42,47,48]] (gQ b_1 (gN fun b_3=>gW (ks:=[.o [1,1,1,1,1] 9]) [(42,vP p),(47,.iface 173 (vP b_3)),(48,.func (.func 117) #[] #[vP b_1])] [Ecc945 p r_ th_ cd ov c (vP gb) sl wsl,.pts b_1 [vP p] 24,Ea7eb0 gb c G gb,.pts b_2 [vI ((blockAt c G.block)+1)] 3,.pts b_3 [vI 0,vI c.s0,.func (.func 115) #[] #[vP b_1,vP b_2]] 176] ?_))
 refine gC (some 49) [0] Tryz.call50 (rd_follow c p sl cd ov (vP gb) wsl r_ th_ 173 b_3 (.func 117) (#[]) (#[vP b_1])) ?_
 exact gX [] (gJ [4,1,3,0,2] ⟨b_3,b_1,b_2,rfl,rfl⟩)
theorem rd_guarded1(c:Cfg)(p gb:Nat)(sl cd:Int)(ov:Bool)(wsl:Value)(r_ th_:Value)(G:Gu)(hc:c.Ok)(hph:G.ph=0)(hcd:G.code=0)(hq:clsOf c G.block=1):
  Ctr Tryz.prog 59 #[vP p] [Ecc945 p r_ th_ cd ov c (vP gb) sl wsl,Ea7eb0 gb c G gb] (fun v L => ∃(eb:Nat) (bp:Nat) (bf:Nat),v=undef∧L=[Ecc945 p (.iface 173 (vP eb)) (.func (.func 117) #[] #[vP bp]) cd ov c (vP gb) sl wsl,Ea7eb0 gb c G gb,.pts eb [vI 0,vI c.s1,.func (.func 115) #[] #[vP bp,vP bf]] 176,.pts bp [vP p] 24,.pts bf [vI (blockAt c G.block+1)] 3]):=by
 refine cB B59 50 Tryz.func59 ?_
 intro F
 refine gX [.e 2,.e 0,.z [0,1] 4 [1,10]] (gN fun b_1=>gQ b_1 (gQ p (gS [.o [0,1] 4,.c [1,1]] ?_)))
 refine gC (some 11) [1] Tryz.call113 (guard_ToldK c gb G hph hcd) ?_
 refine gX [.e 1,.e 0,.z [0,1,1,1] 5 [1,2,23,24]] (gQ b_1 (gQ p (gS [.o [0,1,1,1] 5,.c [1,1,1,1]] ?_)))
 refine gC (some 25) [] Tryz.call105 (plan_Block c G.block oM (by have h7:=clsOf_ok (c:=c) (b:=G.block) (by omega); simp only [Cfg.Ok,InK] at *; omega)) ?_
 refine gX [.n,.e 3,.z [0,1,1,1,1] 0 [1,2,4]] (gO (InK .i64 ((blockAt c G.block)+1)) (by have h7:=blockAt_ok hc (b:=G.block) (by omega); have h8:=sizeOfC_ok hc; simp only [InK]; omega) (gN fun b_2=>gQ b_2 (gS [.c [0,1,1,1,1],.c [1,1,1,1,1]] ?_)))
 refine qG (kV 0 [.e 1,.e 1,.ww,.ww,.e 0,.ww,.q (vI 1),.ww,.ww,.ww,.ww,.ww,.e 0,.ww]) [1,4,5] (.e b_1 (.e b_1 (.e p (.e p .n)))) (.c Tryz.call78 (qR [] (plan_ClassK1 c G.block oM (by have h7:=clsOf_ok (c:=c) (b:=G.block) (by omega); simp only [Cfg.Ok,InK] at *; omega) hq)) .n) ?_
 refine gX [.e 1,.z [1,1,1,1,1] 9 [42,47,48]] (gQ b_1 (gN fun b_3=>gW (ks:=[.o [1,1,1,1,1] 9]) [(42,vP p),(47,.iface 173 (vP b_3)),(48,.func (.func 117) #[] #[vP b_1])] [Ecc945 p r_ th_ cd ov c (vP gb) sl wsl,.pts b_1 [vP p] 24,Ea7eb0 gb c G gb,.pts b_2 [vI ((blockAt c G.block)+1)] 3,.pts b_3 [vI 0,vI c.s1,.func (.func 115) #[] #[vP b_1,vP b_2]] 176] ?_))
 refine gC (some 49) [0] Tryz.call50 (rd_follow c p sl cd ov (vP gb) wsl r_ th_ 173 b_3 (.func 117) (#[]) (#[vP b_1])) ?_
 exact gX [] (gJ [4,1,3,0,2] ⟨b_3,b_1,b_2,rfl,rfl⟩)
theorem rd_guardedK(c:Cfg)(p gb:Nat)(sl cd:Int)(ov:Bool)(wsl:Value)(r_ th_:Value)(G:Gu)(hc:c.Ok)(hph:G.ph=0)(hcd:G.code=0)(hq:0≤clsOf c G.block):
  Ctr Tryz.prog 59 #[vP p] [Ecc945 p r_ th_ cd ov c (vP gb) sl wsl,Ea7eb0 gb c G gb] (fun v L => ∃(eb:Nat) (bp:Nat) (bf:Nat),v=undef∧L=[Ecc945 p (.iface 173 (vP eb)) (.func (.func 117) #[] #[vP bp]) cd ov c (vP gb) sl wsl,Ea7eb0 gb c G gb,.pts eb [vI 0,vI (szK c (clsOf c G.block)),.func (.func 115) #[] #[vP bp,vP bf]] 176,.pts bp [vP p] 24,.pts bf [vI (blockAt c G.block+1)] 3]):=by
 have hle:=clsOf_le c G.block
 by_cases h0:clsOf c G.block=0
 ·rw [show szK c (clsOf c G.block)=c.s0 by rw [h0]; rfl]
  exact rd_guarded0 c p gb sl cd ov wsl r_ th_ G hc hph hcd h0
 ·have h1:clsOf c G.block=1:=by omega
  rw [show szK c (clsOf c G.block)=c.s1 by rw [h1]; rfl]
  exact rd_guarded1 c p gb sl cd ov wsl r_ th_ G hc hph hcd h1
noncomputable def B115: Code:=(Tryz.f115.body).getD .skip
theorem clo_read(c:Cfg)(p ba bp bf:Nat)(sl cd:Int)(gp:Value)(r_ th_:Value)(wa:Option Addr)(wc:Nat)(ws:List Int)(i fr:Int)(A:Ar)(hi0:0≤i∧i≤1000)(hx:0≤fr+i∧fr+i<A.n)(hfr:0≤fr∧fr≤1000000)(hn:A.ws.length=A.n)(hs:0≤A.steps∧A.steps≤1000000000)(hl:ws.length≤1000):
  Ctr Tryz.prog 115 #[vP ba,vI i,vP bp,vP bf] [.pts bp [vP p] 24,.pts bf [vI fr] 3,E2b60f p r_ th_ cd false c gp sl wa ws.length wc,E54ea0 wa wc ws,E3504b ba A,E35fb1 A] (fun v L => ∃(wa2:Option Addr) (wc2:Nat),v=undef∧L=[.pts bp [vP p] 24,.pts bf [vI fr] 3,E2b60f p r_ th_ cd false c gp sl wa2 ((ws++[A.ws.getD (fr+i).toNat 0]).length) wc2,E54ea0 wa2 wc2 (ws++[A.ws.getD (fr+i).toNat 0]),E3504b ba (A.load (fr+i)),E35fb1 (A.load (fr+i))]):=by
 refine cB B115 20 Tryz.func115 ?_
 intro F
 refine zG ?_
 refine zN [0,1,2,3,4,5,6,7,8] (kV 0 [.e 0,.e 0,.w,.w,.e 2,.w,.e 1,.w,.h (.n)]) [0,1,2,3,6,7,8,9,10,11,12,13,14] [9] (.e bp (.e bp (.e p (.e bf (.p (InK .i64 (fr+i)) (by simp only [InK]; omega) .n))))) ⟨?_,trivial⟩
 refine zC (some 15) [4,5] Tryz.call116 (arena_Load ba A (fr+i) oM hx oM) ?_
 rintro v post ⟨rfl,rfl⟩
 refine zN [] (kV 0 [.e 0,.e 0,.w,.w,.e 2]) [15,2,6,7,8,9,10] [10] (.e bp (.e bp (.e p .n))) ⟨?_,trivial⟩
 refine zX .w (sN fun b_10_1=>(sV ?_))
 refine zN [] (kV 0 [.e 0,.e 0,.w,.w,.e 2]) [16,2,6,7,8,9,10] [11] (.e bp (.e bp (.e p .n))) ⟨?_,trivial⟩
 refine zB (some 17) (appO Tryz.prog _) (some (.slice wa (ws).length wc,.slice (some ⟨b_10_1,0,none⟩) 1 1,(60,1,8))) (R_append 3 (a:=wa) (c:=wc) (enc:=encI .u64) (d:=0) (sz:=1) (xs:=ws) (te:=60) kR (.slice (some ⟨b_10_1,0,none⟩) 1 1) [(A.ws.getD (fr+i).toNat 0)] (src_pts (i:=6) (t:=60) kR) (oneI _) 8 oW oW) ?_
 rintro v L2 ⟨a_11_1,c_11_1,rfl,rfl⟩
 refine zN [12,13] [(0,.e 0),(12,.w),(13,.w)] [17,2,6,18,19] [14] (.e bp .n) ⟨?_,trivial⟩
 refine zX (.e 2) (sQ p (sK ?_))
 refine zE [] [] [] .n ?_
 exact gX [] (gJ [0,1,2,3,4,5] ⟨a_11_1,c_11_1,rfl,rfl⟩)
theorem each_read(c:Cfg)(p ba bp bf eb:Nat)(sl cd:Int)(gp:Value)(r_ th_:Value)(wa:Option Addr)(wc:Nat)(ws:List Int)(i fr m:Int)(A:Ar)(hi0:0≤i∧i≤1000)(hx:0≤fr+i∧fr+i<A.n)(hfr:0≤fr∧fr≤1000000)(hn:A.ws.length=A.n)(hs:0≤A.steps∧A.steps≤1000000000)(hl:ws.length≤1000):
  Ctr Tryz.prog 231 #[vP eb,vP ba] [.pts eb [vI i,vI m,.func (.func 115) #[] #[vP bp,vP bf]] 176,.pts bp [vP p] 24,.pts bf [vI fr] 3,E2b60f p r_ th_ cd false c gp sl wa ws.length wc,E54ea0 wa wc ws,E3504b ba A,E35fb1 A] (fun v L => ∃(wa2:Option Addr) (wc2:Nat),v = .bool ((i+1)==m)∧L=[.pts eb [vI (i+1),vI m,.func (.func 115) #[] #[vP bp,vP bf]] 176,.pts bp [vP p] 24,.pts bf [vI fr] 3,E2b60f p r_ th_ cd false c gp sl wa2 ((ws++[A.ws.getD (fr+i).toNat 0]).length) wc2,E54ea0 wa2 wc2 (ws++[A.ws.getD (fr+i).toNat 0]),E3504b ba (A.load (fr+i)),E35fb1 (A.load (fr+i))]):=by
 refine cB B231 31 Tryz.func231 ?_
 intro F
 refine gX [.z [0,1] 0 [0,1]] (gS [.c [0,1],.c [1,1]] ?_)
 refine tC (some 14) (kV 0 [.ww,.ww,.ww,.e 0,.ww,.ww,.ww,.ww,.e 0]) 9 [] [1,2,3,4,5,6] [0] Tryz.call115 (clo_read c p ba bp bf sl cd gp r_ th_ wa wc ws i fr A hi0 hx hfr oM oM oM) (.e eb (.e eb .n)) .n ?_
 rintro v post ⟨wa2_1,wc2_2,rfl,rfl⟩
 refine tN .n ?_
 refine gX [.e 0,.n,.e 0,.z [0,1,1,1] 0 [0]] (gQ eb (gO (InK .i64 (i+1)) (by simp only [InK]; omega) (gQ eb (gS [.c [0,1,1,1],.c [1,1,1,1]] ?_))))
 refine qG (kV 0 [.ww,.ww,.ww,.e 0,.ww,.ww,.ww,.e 0,.ww,.ww]) [4] (.e eb (.e eb .n)) .n ?_
 exact gX [] (gJ [0,1,2,3,4,5,6] ⟨wa2_1,wc2_2,rfl,rfl⟩)
noncomputable def B55: Code:=(Tryz.f55.body).getD .skip
theorem rd_then1N(c:Cfg)(p k b1 b2 b3 b4 b5 b6:Nat)(cl tp ep sl cd:Int)(ov:Bool)(gp wsl:Value)(r_ th_:Value)(K:Cl)(ha:K.at_ = -1)(hq:K.slot = -1):
  Ctr Tryz.prog 55 #[vP b1,vP b2,vP b3,vP b4,vP b5,vP b6] [.pts b1 [vP k] 118,.pts b2 [vP p] 24,Efdc04 b3 c,.pts b4 [vI cl] 3,.pts b5 [vI tp] 3,.pts b6 [vI ep] 3,Ecc945 p r_ th_ cd ov c gp sl wsl,E699bc k c K] (Ret (undef) [.pts b1 [vP k] 118,.pts b2 [vP p] 24,Efdc04 b3 c,.pts b4 [vI cl] 3,.pts b5 [vI tp] 3,.pts b6 [vI ep] 3,Ecc945 p r_ th_ 19 true c gp K.slot wsl,E699bc k c K]):=by
 refine cB B55 43 Tryz.func55 ?_
 intro F
 refine gX [.z [0] 0 [0,1,2,3,4,5]] (gS [.c [0],.c [1]] ?_)
 refine tO (kV 0 [.e 1,.e 0,.q (vI K.slot),.ww,.ww]) 5 [] (.e 6) [1,2,3,4,5] (.e b2 (.e b1 .n)) (.c Tryz.call56 (qR [7] (claim_Slot c k K ha)) .n) (sQ p (sK ?_))
 refine tN .n ?_
 refine gX [.e 1,.e 6,.sp [15] [.e 1,.z [0,0,1,0,1] 3 [18]] [.dead]] (gQ b2 (gQ p (gT (K.slot==(-1)) (beq_iff_eq.2 hq) (gQ b2 (gS [.o [0,0,1,0,1] 3,.c [1,0,1,0,1],.c [1,1]] ?_)))))
 refine gC (some 19) [6] Tryz.call57 (rd_end c p K.slot cd ov gp wsl r_ th_ 19) ?_
 exact gX [] (gJ [0,1,2,3,4,5,7,6] ⟨rfl,rfl⟩)
theorem rd_then1Y(c:Cfg)(p k b1 b2 b3 b4 b5 b6:Nat)(cl tp ep sl cd:Int)(ov:Bool)(gp wsl:Value)(r_ th_:Value)(K:Cl)(hc:c.Ok)(ha:K.at_ = -1)(hq:K.slot≠-1)(hsl:0≤K.slot∧K.slot<c.slots)(hcl:0≤cl∧cl<c.clients)(htp:0≤tp∧tp<c.topics):
  Ctr Tryz.prog 55 #[vP b1,vP b2,vP b3,vP b4,vP b5,vP b6] [.pts b1 [vP k] 118,.pts b2 [vP p] 24,Efdc04 b3 c,.pts b4 [vI cl] 3,.pts b5 [vI tp] 3,.pts b6 [vI ep] 3,Ecc945 p r_ th_ cd ov c gp sl wsl,E699bc k c K] (fun v L => ∃(gb:Nat),v=undef∧L=[.pts b1 [vP k] 118,.pts b2 [vP p] 24,Efdc04 b3 c,.pts b4 [vI cl] 3,.pts b5 [vI tp] 3,.pts b6 [vI ep] 3,Ecc945 p (.iface 110 (vP gb)) (.func (.func 59) #[vP p] #[]) cd ov c (vP gb) K.slot wsl,E699bc k c K,Ea7eb0 gb c (newGu c cl K.slot tp ep) gb]):=by
 refine cB B55 43 Tryz.func55 ?_
 intro F
 refine gX [.z [0] 0 [0,1,2,3,4,5]] (gS [.c [0],.c [1]] ?_)
 refine tO (kV 0 [.e 1,.e 0,.q (vI K.slot),.ww,.ww]) 5 [] (.e 6) [1,2,3,4,5] (.e b2 (.e b1 .n)) (.c Tryz.call56 (qR [7] (claim_Slot c k K ha)) .n) (sQ p (sK ?_))
 refine tN .n ?_
 refine gX [.e 1,.e 6,.sp [15] [.dead] [.z [0,1,1] 0 [1,2,3,4,5]]] (gQ b2 (gQ p (gF (K.slot==(-1)) (beq_eq_false_iff_ne.2 hq) (gS [.c [0,1,1],.c [1,1,1]] ?_))))
 refine zG ?_
 refine zN [0,1,2,3,4,5,6,7,8] (kV 0 [.e 1,.e 2,.e 3,.e 1,.w,.w,.e 6,.e 4,.e 5]) [1,2,3,4,5,20,21,22,23,24,25,26,27,28] [9] (.e b2 (.e b3 (.e b4 (.e b2 (.e p (.e b5 (.e b6 .n))))))) ⟨?_,trivial⟩
 refine zC (some 29) [] Tryz.call58 (guard_New c cl K.slot tp ep oM hcl hsl htp) ?_
 rintro v post ⟨g_9_1,rfl,rfl⟩
 refine zN [10,11] [(0,.e 1),(10,.w),(11,.w)] [29,1,20,30,31] [12] (.e b2 .n) ⟨?_,trivial⟩
 refine zX (.e 6) (sQ p (sK ?_))
 refine zE [] [] [1] .n ?_
 refine tC (some 42) (kV 0 [.e 1,.ww,.ww,.e 1,.ww,.ww,.e 6,.ww,.e 1,.ww]) 10 [] [6] [] Tryz.call50 (rd_follow c p K.slot cd ov (vP g_9_1) wsl r_ th_ 110 g_9_1 (.func 59) (#[vP p]) (#[])) (.e b2 (.e b2 (.e p (.e b2 .n)))) .n ?_
 rintro v post ⟨rfl,rfl⟩
 refine tN .n ?_
 exact gX [] (gJ [0,1,2,3,4,5,8,6,7] ⟨g_9_1,rfl,rfl⟩)
end Go.Proofs.YtpcaijopodhdgaaGreatDoor
namespace Go.Proofs.YtpcaijopodhdgaaGreatDoor
open Go.Sx
abbrev Ed4496(x0:Nat)(x1:Value)(x2:Value)(x3:Int)(x4:Bool)(c5:Cfg)(x6:Int)(x7:Value): Ent:=.pts x0 [x1,x2,.int .i64 x3,.bool x4,.int .i64 c5.topics,.int .i64 c5.small,.int .i64 c5.slots,.int .i64 c5.clients,.int .i64 c5.s0,.int .i64 c5.n0,.int .i64 c5.s1,.int .i64 c5.n1,.int .i64 c5.retry,.pointer none,.int .i64 x6,x7] 112
theorem rstep1W(c:Cfg)(p ba k b1 b2 b3 b4 b5 b6:Nat)(sl cd:Int)(wsl:Value)(cl tp ep:Int)(K:Cl)(A:Ar)(hc:c.Ok)(hn:A.ws.length=A.n)(hs:0≤A.steps∧A.steps≤1000000000)(hz:(A.n:Int)=sizeOfC c)(hK:Cl.Ok c K)(ha:(K.step c A).1.at_≠-1):
  Ctr Tryz.prog 61 #[vP p,vP ba] [Ed4496 p (.iface 118 (vP k)) (.func (.func 55) #[] #[vP b1,vP b2,vP b3,vP b4,vP b5,vP b6]) cd false c sl wsl,E699bc k c K,.pts b1 [vP k] 118,.pts b2 [vP p] 24,Efdc04 b3 c,.pts b4 [vI cl] 3,.pts b5 [vI tp] 3,.pts b6 [vI ep] 3,E3504b ba A,E35fb1 A] (Ret (.bool false) [Ed4496 p (.iface 118 (vP k)) (.func (.func 55) #[] #[vP b1,vP b2,vP b3,vP b4,vP b5,vP b6]) cd false c sl wsl,E699bc k c ((K.step c A).1),.pts b1 [vP k] 118,.pts b2 [vP p] 24,Efdc04 b3 c,.pts b4 [vI cl] 3,.pts b5 [vI tp] 3,.pts b6 [vI ep] 3,E3504b ba ((K.step c A).2),E35fb1 ((K.step c A).2)]):=by
 refine cB B61 29 Tryz.func61 ?_
 intro F
 refine gX [.e 0,.e 0,.z [0,0,1] 12 [0,10,15,16]] (gQ p (gQ p (gS [.o [0,0,1] 12,.c [1,0,1],.c [1,1]] ?_)))
 refine go_invoke (some 17) [1,8,9] (T:=118) (rv:=vP k) (name:= "Step") (fun w=>by kernel_rfl) Tryz.call229 (claim_Step c k ba K A hc hn hs hz hK) kR ?_
 rintro v post ⟨rfl,rfl⟩
 exact gX [.sp [18,17] [.dead] [.e 0]] (gQ ((K.step c A).1.at_ == -1) (gF ((K.step c A).1.at_ == -1) (beq_eq_false_iff_ne.2 ha) (gQ p (gJ [0,7,1,2,3,4,5,6,8,9] ⟨rfl,rfl⟩))))
theorem rd_Step1W(c:Cfg)(p ba k b1 b2 b3 b4 b5 b6:Nat)(sl cd:Int)(wsl:Value)(cl tp ep:Int)(K:Cl)(A:Ar)(hc:c.Ok)(hn:A.ws.length=A.n)(hs:0≤A.steps∧A.steps≤1000000000)(hz:(A.n:Int)=sizeOfC c)(hK:Cl.Ok c K)(ha:(K.step c A).1.at_≠-1):
  Ctr Tryz.prog 20 #[vP p,vP ba] [Ed4496 p (.iface 118 (vP k)) (.func (.func 55) #[] #[vP b1,vP b2,vP b3,vP b4,vP b5,vP b6]) cd false c sl wsl,E699bc k c K,.pts b1 [vP k] 118,.pts b2 [vP p] 24,Efdc04 b3 c,.pts b4 [vI cl] 3,.pts b5 [vI tp] 3,.pts b6 [vI ep] 3,E3504b ba A,E35fb1 A] (Ret (.bool false) [Ed4496 p (.iface 118 (vP k)) (.func (.func 55) #[] #[vP b1,vP b2,vP b3,vP b4,vP b5,vP b6]) cd false c sl wsl,E699bc k c ((K.step c A).1),.pts b1 [vP k] 118,.pts b2 [vP p] 24,Efdc04 b3 c,.pts b4 [vI cl] 3,.pts b5 [vI tp] 3,.pts b6 [vI ep] 3,E3504b ba ((K.step c A).2),E35fb1 ((K.step c A).2)]):=by
 refine cB B20 14 Tryz.func20 ?_
 intro F
 refine gX [.z [0,1] 7 [7,10,11]] (gS [.o [0,1] 7,.c [1,1]] ?_)
 refine gC (some 12) [0,1,2,3,4,5,6,7,8,9] Tryz.call61 (rstep1W c p ba k b1 b2 b3 b4 b5 b6 sl cd wsl cl tp ep K A hc hn hs hz hK ha) ?_
 exact gX [] (gJ [0,1,2,3,4,5,6,7,8,9] ⟨rfl,rfl⟩)
theorem rstep1N(c:Cfg)(p ba k b1 b2 b3 b4 b5 b6:Nat)(sl cd:Int)(wsl:Value)(cl tp ep:Int)(K:Cl)(A:Ar)(hc:c.Ok)(hn:A.ws.length=A.n)(hs:0≤A.steps∧A.steps≤1000000000)(hz:(A.n:Int)=sizeOfC c)(hK:Cl.Ok c K)(ha:(K.step c A).1.at_ = -1)(hq:(K.step c A).1.slot = -1):
  Ctr Tryz.prog 61 #[vP p,vP ba] [Ed4496 p (.iface 118 (vP k)) (.func (.func 55) #[] #[vP b1,vP b2,vP b3,vP b4,vP b5,vP b6]) cd false c sl wsl,E699bc k c K,.pts b1 [vP k] 118,.pts b2 [vP p] 24,Efdc04 b3 c,.pts b4 [vI cl] 3,.pts b5 [vI tp] 3,.pts b6 [vI ep] 3,E3504b ba A,E35fb1 A] (Ret (.bool true) [Ed4496 p (.iface 118 (vP k)) (.func (.func 55) #[] #[vP b1,vP b2,vP b3,vP b4,vP b5,vP b6]) 19 true c ((K.step c A).1.slot) wsl,E699bc k c ((K.step c A).1),.pts b1 [vP k] 118,.pts b2 [vP p] 24,Efdc04 b3 c,.pts b4 [vI cl] 3,.pts b5 [vI tp] 3,.pts b6 [vI ep] 3,E3504b ba ((K.step c A).2),E35fb1 ((K.step c A).2)]):=by
 refine cB B61 29 Tryz.func61 ?_
 intro F
 refine gX [.e 0,.e 0,.z [0,0,1] 12 [0,10,15,16]] (gQ p (gQ p (gS [.o [0,0,1] 12,.c [1,0,1],.c [1,1]] ?_)))
 refine go_invoke (some 17) [1,8,9] (T:=118) (rv:=vP k) (name:= "Step") (fun w=>by kernel_rfl) Tryz.call229 (claim_Step c k ba K A hc hn hs hz hK) kR ?_
 rintro v post ⟨rfl,rfl⟩
 refine gX [.sp [18,17] [.e 0,.z [0,1,0,1] 5 [0,23]] [.dead]] (gQ ((K.step c A).1.at_ == -1) (gT ((K.step c A).1.at_ == -1) (beq_iff_eq.2 ha) (gQ p (gS [.o [0,1,0,1] 5,.c [1,1]] ?_))))
 refine gC (some 24) [1,2,3,4,5,6,0,7] Tryz.call55 (rd_then1N c p k b1 b2 b3 b4 b5 b6 cl tp ep sl cd false (.pointer none) wsl (.iface 118 (vP k)) (.func (.func 55) #[] #[vP b1,vP b2,vP b3,vP b4,vP b5,vP b6]) ((K.step c A).1) ha hq) ?_
 exact gX [.e 8] (gQ p (gJ [8,9,2,3,4,5,6,7,0,1] ⟨rfl,rfl⟩))
theorem rd_Step1N(c:Cfg)(p ba k b1 b2 b3 b4 b5 b6:Nat)(sl cd:Int)(wsl:Value)(cl tp ep:Int)(K:Cl)(A:Ar)(hc:c.Ok)(hn:A.ws.length=A.n)(hs:0≤A.steps∧A.steps≤1000000000)(hz:(A.n:Int)=sizeOfC c)(hK:Cl.Ok c K)(ha:(K.step c A).1.at_ = -1)(hq:(K.step c A).1.slot = -1):
  Ctr Tryz.prog 20 #[vP p,vP ba] [Ed4496 p (.iface 118 (vP k)) (.func (.func 55) #[] #[vP b1,vP b2,vP b3,vP b4,vP b5,vP b6]) cd false c sl wsl,E699bc k c K,.pts b1 [vP k] 118,.pts b2 [vP p] 24,Efdc04 b3 c,.pts b4 [vI cl] 3,.pts b5 [vI tp] 3,.pts b6 [vI ep] 3,E3504b ba A,E35fb1 A] (Ret (.bool true) [Ed4496 p (.iface 118 (vP k)) (.func (.func 55) #[] #[vP b1,vP b2,vP b3,vP b4,vP b5,vP b6]) 19 true c ((K.step c A).1.slot) wsl,E699bc k c ((K.step c A).1),.pts b1 [vP k] 118,.pts b2 [vP p] 24,Efdc04 b3 c,.pts b4 [vI cl] 3,.pts b5 [vI tp] 3,.pts b6 [vI ep] 3,E3504b ba ((K.step c A).2),E35fb1 ((K.step c A).2)]):=by
 refine cB B20 14 Tryz.func20 ?_
 intro F
 refine gX [.z [0,1] 7 [7,10,11]] (gS [.o [0,1] 7,.c [1,1]] ?_)
 refine gC (some 12) [0,1,2,3,4,5,6,7,8,9] Tryz.call61 (rstep1N c p ba k b1 b2 b3 b4 b5 b6 sl cd wsl cl tp ep K A hc hn hs hz hK ha hq) ?_
 exact gX [] (gJ [0,1,2,3,4,5,6,7,8,9] ⟨rfl,rfl⟩)
theorem rstep1Y(c:Cfg)(p ba k b1 b2 b3 b4 b5 b6:Nat)(sl cd:Int)(wsl:Value)(cl tp ep:Int)(K:Cl)(A:Ar)(hc:c.Ok)(hn:A.ws.length=A.n)(hs:0≤A.steps∧A.steps≤1000000000)(hz:(A.n:Int)=sizeOfC c)(hK:Cl.Ok c K)(ha:(K.step c A).1.at_ = -1)(hq:(K.step c A).1.slot≠-1)(hsl:0≤(K.step c A).1.slot∧(K.step c A).1.slot<c.slots)(hcl:0≤cl∧cl<c.clients)(htp:0≤tp∧tp<c.topics):
  Ctr Tryz.prog 61 #[vP p,vP ba] [Ed4496 p (.iface 118 (vP k)) (.func (.func 55) #[] #[vP b1,vP b2,vP b3,vP b4,vP b5,vP b6]) cd false c sl wsl,E699bc k c K,.pts b1 [vP k] 118,.pts b2 [vP p] 24,Efdc04 b3 c,.pts b4 [vI cl] 3,.pts b5 [vI tp] 3,.pts b6 [vI ep] 3,E3504b ba A,E35fb1 A] (fun v L => ∃(gb:Nat),v = .bool false∧L=[Ecc945 p (.iface 110 (vP gb)) (.func (.func 59) #[vP p] #[]) cd false c (vP gb) ((K.step c A).1.slot) wsl,E699bc k c ((K.step c A).1),.pts b1 [vP k] 118,.pts b2 [vP p] 24,Efdc04 b3 c,.pts b4 [vI cl] 3,.pts b5 [vI tp] 3,.pts b6 [vI ep] 3,E3504b ba ((K.step c A).2),E35fb1 ((K.step c A).2),Ea7eb0 gb c (newGu c cl (K.step c A).1.slot tp ep) gb]):=by
 refine cB B61 29 Tryz.func61 ?_
 intro F
 refine gX [.e 0,.e 0,.z [0,0,1] 12 [0,10,15,16]] (gQ p (gQ p (gS [.o [0,0,1] 12,.c [1,0,1],.c [1,1]] ?_)))
 refine go_invoke (some 17) [1,8,9] (T:=118) (rv:=vP k) (name:= "Step") (fun w=>by kernel_rfl) Tryz.call229 (claim_Step c k ba K A hc hn hs hz hK) kR ?_
 rintro v post ⟨rfl,rfl⟩
 refine gX [.sp [18,17] [.e 0,.z [0,1,0,1] 5 [0,23]] [.dead]] (gQ ((K.step c A).1.at_ == -1) (gT ((K.step c A).1.at_ == -1) (beq_iff_eq.2 ha) (gQ p (gS [.o [0,1,0,1] 5,.c [1,1]] ?_))))
 refine go_call (some 24) [1,2,3,4,5,6,0,7] Tryz.call55 (rd_then1Y c p k b1 b2 b3 b4 b5 b6 cl tp ep sl cd false (.pointer none) wsl (.iface 118 (vP k)) (.func (.func 55) #[] #[vP b1,vP b2,vP b3,vP b4,vP b5,vP b6]) ((K.step c A).1) hc ha hq hsl hcl htp) kR ?_
 rintro v post ⟨gb_1,rfl,rfl⟩
 exact gX [.e 8] (gQ p (gJ [8,9,2,3,4,5,6,7,0,1,10] ⟨gb_1,rfl,rfl⟩))
theorem rd_Step1Y(c:Cfg)(p ba k b1 b2 b3 b4 b5 b6:Nat)(sl cd:Int)(wsl:Value)(cl tp ep:Int)(K:Cl)(A:Ar)(hc:c.Ok)(hn:A.ws.length=A.n)(hs:0≤A.steps∧A.steps≤1000000000)(hz:(A.n:Int)=sizeOfC c)(hK:Cl.Ok c K)(ha:(K.step c A).1.at_ = -1)(hq:(K.step c A).1.slot≠-1)(hsl:0≤(K.step c A).1.slot∧(K.step c A).1.slot<c.slots)(hcl:0≤cl∧cl<c.clients)(htp:0≤tp∧tp<c.topics):
  Ctr Tryz.prog 20 #[vP p,vP ba] [Ed4496 p (.iface 118 (vP k)) (.func (.func 55) #[] #[vP b1,vP b2,vP b3,vP b4,vP b5,vP b6]) cd false c sl wsl,E699bc k c K,.pts b1 [vP k] 118,.pts b2 [vP p] 24,Efdc04 b3 c,.pts b4 [vI cl] 3,.pts b5 [vI tp] 3,.pts b6 [vI ep] 3,E3504b ba A,E35fb1 A] (fun v L => ∃(gb:Nat),v = .bool false∧L=[Ecc945 p (.iface 110 (vP gb)) (.func (.func 59) #[vP p] #[]) cd false c (vP gb) ((K.step c A).1.slot) wsl,E699bc k c ((K.step c A).1),.pts b1 [vP k] 118,.pts b2 [vP p] 24,Efdc04 b3 c,.pts b4 [vI cl] 3,.pts b5 [vI tp] 3,.pts b6 [vI ep] 3,E3504b ba ((K.step c A).2),E35fb1 ((K.step c A).2),Ea7eb0 gb c (newGu c cl (K.step c A).1.slot tp ep) gb]):=by
 refine cB B20 14 Tryz.func20 ?_
 intro F
 refine gX [.z [0,1] 7 [7,10,11]] (gS [.o [0,1] 7,.c [1,1]] ?_)
 refine go_call (some 12) [0,1,2,3,4,5,6,7,8,9] Tryz.call61 (rstep1Y c p ba k b1 b2 b3 b4 b5 b6 sl cd wsl cl tp ep K A hc hn hs hz hK ha hq hsl hcl htp) kR ?_
 rintro v post ⟨gb_1,rfl,rfl⟩
 exact gX [] (gJ [0,1,2,3,4,5,6,7,8,9,10] ⟨gb_1,rfl,rfl⟩)
theorem rstep2W(c:Cfg)(p ba gb:Nat)(sl cd:Int)(wsl:Value)(G:Gu)(A:Ar)(hc:c.Ok)(hn:A.ws.length=A.n)(hs:0≤A.steps∧A.steps≤1000000000)(hR:RngW A.ws)(hG:Gu.Ok c A.n G)(hd:(G.step c.retry A).1.ph≠0):
  Ctr Tryz.prog 61 #[vP p,vP ba] [Ecc945 p (.iface 110 (vP gb)) (.func (.func 59) #[vP p] #[]) cd false c (vP gb) sl wsl,Ea7eb0 gb c G gb,E3504b ba A,E35fb1 A] (Ret (.bool false) [Ecc945 p (.iface 110 (vP gb)) (.func (.func 59) #[vP p] #[]) cd false c (vP gb) sl wsl,Ea7eb0 gb c ((G.step c.retry A).1) gb,E3504b ba ((G.step c.retry A).2),E35fb1 ((G.step c.retry A).2)]):=by
 refine cB B61 29 Tryz.func61 ?_
 intro F
 refine gX [.e 0,.e 0,.z [0,0,1] 12 [0,10,15,16]] (gQ p (gQ p (gS [.o [0,0,1] 12,.c [1,0,1],.c [1,1]] ?_)))
 refine go_invoke (some 17) [1,2,3] (T:=110) (rv:=vP gb) (name:= "Step") (fun w=>by kernel_rfl) Tryz.call227 (guard_Step c gb ba G A hc hn hs hR hG) kR ?_
 rintro v post ⟨rfl,rfl⟩
 exact gX [.sp [18,17] [.dead] [.e 0]] (gQ ((G.step c.retry A).1.ph==0) (gF ((G.step c.retry A).1.ph==0) (beq_eq_false_iff_ne.2 hd) (gQ p (gJ [0,1,2,3] ⟨rfl,rfl⟩))))
theorem rd_Step2W(c:Cfg)(p ba gb:Nat)(sl cd:Int)(wsl:Value)(G:Gu)(A:Ar)(hc:c.Ok)(hn:A.ws.length=A.n)(hs:0≤A.steps∧A.steps≤1000000000)(hR:RngW A.ws)(hG:Gu.Ok c A.n G)(hd:(G.step c.retry A).1.ph≠0):
  Ctr Tryz.prog 20 #[vP p,vP ba] [Ecc945 p (.iface 110 (vP gb)) (.func (.func 59) #[vP p] #[]) cd false c (vP gb) sl wsl,Ea7eb0 gb c G gb,E3504b ba A,E35fb1 A] (Ret (.bool false) [Ecc945 p (.iface 110 (vP gb)) (.func (.func 59) #[vP p] #[]) cd false c (vP gb) sl wsl,Ea7eb0 gb c ((G.step c.retry A).1) gb,E3504b ba ((G.step c.retry A).2),E35fb1 ((G.step c.retry A).2)]):=by
 refine cB B20 14 Tryz.func20 ?_
 intro F
 refine gX [.z [0,1] 7 [7,10,11]] (gS [.o [0,1] 7,.c [1,1]] ?_)
 refine gC (some 12) [0,1,2,3] Tryz.call61 (rstep2W c p ba gb sl cd wsl G A hc hn hs hR hG oM) ?_
 exact gX [] (gJ [0,1,2,3] ⟨rfl,rfl⟩)
theorem rstep2K(c:Cfg)(p ba gb:Nat)(sl cd:Int)(wsl:Value)(G:Gu)(A:Ar)(hc:c.Ok)(hn:A.ws.length=A.n)(hs:0≤A.steps∧A.steps≤1000000000)(hR:RngW A.ws)(hG:Gu.Ok c A.n G)(hd:(G.step c.retry A).1.ph=0)(he:(G.step c.retry A).1.code=0)(hq:0≤clsOf c (G.step c.retry A).1.block):
  Ctr Tryz.prog 61 #[vP p,vP ba] [Ecc945 p (.iface 110 (vP gb)) (.func (.func 59) #[vP p] #[]) cd false c (vP gb) sl wsl,Ea7eb0 gb c G gb,E3504b ba A,E35fb1 A] (fun v L => ∃(eb:Nat) (bp:Nat) (bf:Nat),v = .bool false∧L=[Ecc945 p (.iface 173 (vP eb)) (.func (.func 117) #[] #[vP bp]) cd false c (vP gb) sl wsl,Ea7eb0 gb c ((G.step c.retry A).1) gb,E3504b ba ((G.step c.retry A).2),E35fb1 ((G.step c.retry A).2),.pts eb [vI 0,vI (szK c (clsOf c (G.step c.retry A).1.block)),.func (.func 115) #[] #[vP bp,vP bf]] 176,.pts bp [vP p] 24,.pts bf [vI (blockAt c (G.step c.retry A).1.block+1)] 3]):=by
 refine cB B61 29 Tryz.func61 ?_
 intro F
 refine gX [.e 0,.e 0,.z [0,0,1] 12 [0,10,15,16]] (gQ p (gQ p (gS [.o [0,0,1] 12,.c [1,0,1],.c [1,1]] ?_)))
 refine go_invoke (some 17) [1,2,3] (T:=110) (rv:=vP gb) (name:= "Step") (fun w=>by kernel_rfl) Tryz.call227 (guard_Step c gb ba G A hc hn hs hR hG) kR ?_
 rintro v post ⟨rfl,rfl⟩
 refine gX [.sp [18,17] [.e 0,.z [0,1,0,1] 5 [0,23]] [.dead]] (gQ ((G.step c.retry A).1.ph==0) (gT ((G.step c.retry A).1.ph==0) (beq_iff_eq.2 hd) (gQ p (gS [.o [0,1,0,1] 5,.c [1,1]] ?_))))
 refine go_call (some 24) [0,1] Tryz.call59 (rd_guardedK c p gb sl cd false wsl (.iface 110 (vP gb)) (.func (.func 59) #[vP p] #[]) ((G.step c.retry A).1) hc hd he hq) kR ?_
 rintro v post ⟨eb_1,bp_2,bf_3,rfl,rfl⟩
 exact gX [.e 2] (gQ p (gJ [2,3,0,1,4,5,6] ⟨eb_1,bp_2,bf_3,rfl,rfl⟩))
theorem rd_Step2K(c:Cfg)(p ba gb:Nat)(sl cd:Int)(wsl:Value)(G:Gu)(A:Ar)(hc:c.Ok)(hn:A.ws.length=A.n)(hs:0≤A.steps∧A.steps≤1000000000)(hR:RngW A.ws)(hG:Gu.Ok c A.n G)(hd:(G.step c.retry A).1.ph=0)(he:(G.step c.retry A).1.code=0)(hq:0≤clsOf c (G.step c.retry A).1.block):
  Ctr Tryz.prog 20 #[vP p,vP ba] [Ecc945 p (.iface 110 (vP gb)) (.func (.func 59) #[vP p] #[]) cd false c (vP gb) sl wsl,Ea7eb0 gb c G gb,E3504b ba A,E35fb1 A] (fun v L => ∃(eb:Nat) (bp:Nat) (bf:Nat),v = .bool false∧L=[Ecc945 p (.iface 173 (vP eb)) (.func (.func 117) #[] #[vP bp]) cd false c (vP gb) sl wsl,Ea7eb0 gb c ((G.step c.retry A).1) gb,E3504b ba ((G.step c.retry A).2),E35fb1 ((G.step c.retry A).2),.pts eb [vI 0,vI (szK c (clsOf c (G.step c.retry A).1.block)),.func (.func 115) #[] #[vP bp,vP bf]] 176,.pts bp [vP p] 24,.pts bf [vI (blockAt c (G.step c.retry A).1.block+1)] 3]):=by
 refine cB B20 14 Tryz.func20 ?_
 intro F
 refine gX [.z [0,1] 7 [7,10,11]] (gS [.o [0,1] 7,.c [1,1]] ?_)
 refine go_call (some 12) [0,1,2,3] Tryz.call61 (rstep2K c p ba gb sl cd wsl G A hc hn hs hR hG oM oM hq) kR ?_
 rintro v post ⟨eb_1,bp_2,bf_3,rfl,rfl⟩
 exact gX [] (gJ [0,1,2,3,4,5,6] ⟨eb_1,bp_2,bf_3,rfl,rfl⟩)
theorem rstep2E(c:Cfg)(p ba gb:Nat)(sl cd:Int)(wsl:Value)(G:Gu)(A:Ar)(o_:Obj)(hc:c.Ok)(hn:A.ws.length=A.n)(hs:0≤A.steps∧A.steps≤1000000000)(hR:RngW A.ws)(hG:Gu.Ok c A.n G)(hd:(G.step c.retry A).1.ph=0)(he:(G.step c.retry A).1.code≠0)(hsl:0≤sl∧sl<c.slots)(ho:IsH o_):
  Ctr Tryz.prog 61 #[vP p,vP ba] [.raw 0 o_,Ecc945 p (.iface 110 (vP gb)) (.func (.func 59) #[vP p] #[]) cd false c (vP gb) sl wsl,Ea7eb0 gb c G gb,E3504b ba A,E35fb1 A] (fun v L => ∃(rl:Nat) (bq:Nat) (bc:Nat),v = .bool false∧L=[.raw 0 o_,Ecc945 p (.iface 222 (vP rl)) (.func (.func 163) #[] #[vP bq,vP bc]) cd false c (vP gb) sl wsl,Ea7eb0 gb c ((G.step c.retry A).1) gb,E3504b ba ((G.step c.retry A).2),E35fb1 ((G.step c.retry A).2),.pts rl [vI (slotAt c sl),.bool false] 259,.pts bq [vP p] 24,.pts bc [vI ((G.step c.retry A).1.code)] 42]):=by
 refine cB B61 29 Tryz.func61 ?_
 intro F
 refine gX [.e 1,.e 1,.z [0,0,1] 12 [0,10,15,16]] (gQ p (gQ p (gS [.o [0,0,1] 12,.c [1,0,1],.c [1,1]] ?_)))
 refine go_invoke (some 17) [2,3,4] (T:=110) (rv:=vP gb) (name:= "Step") (fun w=>by kernel_rfl) Tryz.call227 (guard_Step c gb ba G A hc hn hs hR hG) kR ?_
 rintro v post ⟨rfl,rfl⟩
 refine gX [.sp [18,17] [.e 1,.z [0,1,0,1] 5 [0,23]] [.dead]] (gQ ((G.step c.retry A).1.ph==0) (gT ((G.step c.retry A).1.ph==0) (beq_iff_eq.2 hd) (gQ p (gS [.o [0,1,0,1] 5,.c [1,1]] ?_))))
 refine go_call (some 24) [0,1,2] Tryz.call59 (rd_guardedE c p gb sl cd false wsl (.iface 110 (vP gb)) (.func (.func 59) #[vP p] #[]) ((G.step c.retry A).1) o_ hc hsl hd he ho) kR ?_
 rintro v post ⟨rl_1,bq_2,bc_3,rfl,rfl⟩
 exact gX [.e 3] (gQ p (gJ [2,3,4,0,1,5,6,7] ⟨rl_1,bq_2,bc_3,rfl,rfl⟩))
theorem rd_Step2E(c:Cfg)(p ba gb:Nat)(sl cd:Int)(wsl:Value)(G:Gu)(A:Ar)(o_:Obj)(hc:c.Ok)(hn:A.ws.length=A.n)(hs:0≤A.steps∧A.steps≤1000000000)(hR:RngW A.ws)(hG:Gu.Ok c A.n G)(hd:(G.step c.retry A).1.ph=0)(he:(G.step c.retry A).1.code≠0)(hsl:0≤sl∧sl<c.slots)(ho:IsH o_):
  Ctr Tryz.prog 20 #[vP p,vP ba] [.raw 0 o_,Ecc945 p (.iface 110 (vP gb)) (.func (.func 59) #[vP p] #[]) cd false c (vP gb) sl wsl,Ea7eb0 gb c G gb,E3504b ba A,E35fb1 A] (fun v L => ∃(rl:Nat) (bq:Nat) (bc:Nat),v = .bool false∧L=[.raw 0 o_,Ecc945 p (.iface 222 (vP rl)) (.func (.func 163) #[] #[vP bq,vP bc]) cd false c (vP gb) sl wsl,Ea7eb0 gb c ((G.step c.retry A).1) gb,E3504b ba ((G.step c.retry A).2),E35fb1 ((G.step c.retry A).2),.pts rl [vI (slotAt c sl),.bool false] 259,.pts bq [vP p] 24,.pts bc [vI ((G.step c.retry A).1.code)] 42]):=by
 refine cB B20 14 Tryz.func20 ?_
 intro F
 refine gX [.z [0,1] 7 [7,10,11]] (gS [.o [0,1] 7,.c [1,1]] ?_)
 refine go_call (some 12) [0,1,2,3,4] Tryz.call61 (rstep2E c p ba gb sl cd wsl G A o_ hc hn hs hR hG oM oM hsl ho) kR ?_
 rintro v post ⟨rl_1,bq_2,bc_3,rfl,rfl⟩
 exact gX [] (gJ [0,1,2,3,4,5,6,7] ⟨rl_1,bq_2,bc_3,rfl,rfl⟩)
theorem rstep3N(c:Cfg)(p ba bp bf eb:Nat)(sl cd:Int)(gp:Value)(wa:Option Addr)(wc:Nat)(ws:List Int)(i fr m:Int)(A:Ar)(hi0:0≤i∧i≤1000)(hx:0≤fr+i∧fr+i<A.n)(hfr:0≤fr∧fr≤1000000)(hn:A.ws.length=A.n)(hs:0≤A.steps∧A.steps≤1000000000)(hl:ws.length≤1000)(hd:i+1≠m):
  Ctr Tryz.prog 61 #[vP p,vP ba] [E2b60f p (.iface 173 (vP eb)) (.func (.func 117) #[] #[vP bp]) cd false c gp sl wa ws.length wc,E54ea0 wa wc ws,.pts eb [vI i,vI m,.func (.func 115) #[] #[vP bp,vP bf]] 176,.pts bp [vP p] 24,.pts bf [vI fr] 3,E3504b ba A,E35fb1 A] (fun v L => ∃(wa2:Option Addr) (wc2:Nat),v = .bool false∧L=[E2b60f p (.iface 173 (vP eb)) (.func (.func 117) #[] #[vP bp]) cd false c gp sl wa2 ((ws++[A.ws.getD (fr+i).toNat 0]).length) wc2,E54ea0 wa2 wc2 (ws++[A.ws.getD (fr+i).toNat 0]),.pts eb [vI (i+1),vI m,.func (.func 115) #[] #[vP bp,vP bf]] 176,.pts bp [vP p] 24,.pts bf [vI fr] 3,E3504b ba (A.load (fr+i)),E35fb1 (A.load (fr+i))]):=by
 refine cB B61 29 Tryz.func61 ?_
 intro F
 refine gX [.e 0,.e 0,.z [0,0,1] 12 [0,10,15,16]] (gQ p (gQ p (gS [.o [0,0,1] 12,.c [1,0,1],.c [1,1]] ?_)))
 refine go_invoke (some 17) [2,3,4,0,1,5,6] (T:=173) (rv:=vP eb) (name:= "Step") (fun w=>by kernel_rfl) Tryz.call231 (each_read c p ba bp bf eb sl cd gp (.iface 173 (vP eb)) (.func (.func 117) #[] #[vP bp]) wa wc ws i fr m A hi0 hx hfr hn hs oM) kR ?_
 rintro v post ⟨wa2_1,wc2_2,rfl,rfl⟩
 exact gX [.sp [18,17] [.dead] [.e 3]] (gQ ((i+1)==m) (gF ((i+1)==m) (beq_eq_false_iff_ne.2 hd) (gQ p (gJ [3,4,0,1,2,5,6] ⟨wa2_1,wc2_2,rfl,rfl⟩))))
theorem rd_Step3N(c:Cfg)(p ba bp bf eb:Nat)(sl cd:Int)(gp:Value)(wa:Option Addr)(wc:Nat)(ws:List Int)(i fr m:Int)(A:Ar)(hi0:0≤i∧i≤1000)(hx:0≤fr+i∧fr+i<A.n)(hfr:0≤fr∧fr≤1000000)(hn:A.ws.length=A.n)(hs:0≤A.steps∧A.steps≤1000000000)(hl:ws.length≤1000)(hd:i+1≠m):
  Ctr Tryz.prog 20 #[vP p,vP ba] [E2b60f p (.iface 173 (vP eb)) (.func (.func 117) #[] #[vP bp]) cd false c gp sl wa ws.length wc,E54ea0 wa wc ws,.pts eb [vI i,vI m,.func (.func 115) #[] #[vP bp,vP bf]] 176,.pts bp [vP p] 24,.pts bf [vI fr] 3,E3504b ba A,E35fb1 A] (fun v L => ∃(wa2:Option Addr) (wc2:Nat),v = .bool false∧L=[E2b60f p (.iface 173 (vP eb)) (.func (.func 117) #[] #[vP bp]) cd false c gp sl wa2 ((ws++[A.ws.getD (fr+i).toNat 0]).length) wc2,E54ea0 wa2 wc2 (ws++[A.ws.getD (fr+i).toNat 0]),.pts eb [vI (i+1),vI m,.func (.func 115) #[] #[vP bp,vP bf]] 176,.pts bp [vP p] 24,.pts bf [vI fr] 3,E3504b ba (A.load (fr+i)),E35fb1 (A.load (fr+i))]):=by
 refine cB B20 14 Tryz.func20 ?_
 intro F
 refine gX [.z [0,1] 7 [7,10,11]] (gS [.o [0,1] 7,.c [1,1]] ?_)
 refine go_call (some 12) [0,1,2,3,4,5,6] Tryz.call61 (rstep3N c p ba bp bf eb sl cd gp wa wc ws i fr m A hi0 hx hfr hn hs oM oM) kR ?_
 rintro v post ⟨wa2_1,wc2_2,rfl,rfl⟩
 exact gX [] (gJ [0,1,2,3,4,5,6] ⟨wa2_1,wc2_2,rfl,rfl⟩)
theorem rstep3Y(c:Cfg)(p ba bp bf eb:Nat)(sl cd:Int)(gp:Value)(wa:Option Addr)(wc:Nat)(ws:List Int)(i fr m:Int)(A:Ar)(hi0:0≤i∧i≤1000)(hx:0≤fr+i∧fr+i<A.n)(hfr:0≤fr∧fr≤1000000)(hn:A.ws.length=A.n)(hs:0≤A.steps∧A.steps≤1000000000)(hl:ws.length≤1000)(hd:i+1=m)(hc:c.Ok)(hsl:0≤sl∧sl<c.slots):
  Ctr Tryz.prog 61 #[vP p,vP ba] [E2b60f p (.iface 173 (vP eb)) (.func (.func 117) #[] #[vP bp]) cd false c gp sl wa ws.length wc,E54ea0 wa wc ws,.pts eb [vI i,vI m,.func (.func 115) #[] #[vP bp,vP bf]] 176,.pts bp [vP p] 24,.pts bf [vI fr] 3,E3504b ba A,E35fb1 A] (fun v L => ∃(wa2:Option Addr) (wc2:Nat) (rl:Nat) (bq:Nat) (bc:Nat),v = .bool false∧L=[E2b60f p (.iface 222 (vP rl)) (.func (.func 163) #[] #[vP bq,vP bc]) cd false c gp sl wa2 ((ws++[A.ws.getD (fr+i).toNat 0]).length) wc2,E54ea0 wa2 wc2 (ws++[A.ws.getD (fr+i).toNat 0]),.pts eb [vI (i+1),vI m,.func (.func 115) #[] #[vP bp,vP bf]] 176,.pts bp [vP p] 24,.pts bf [vI fr] 3,E3504b ba (A.load (fr+i)),E35fb1 (A.load (fr+i)),.pts rl [vI (slotAt c sl),.bool false] 259,.pts bq [vP p] 24,.pts bc [vI 0] 42]):=by
 refine cB B61 29 Tryz.func61 ?_
 intro F
 refine gX [.e 0,.e 0,.z [0,0,1] 12 [0,10,15,16]] (gQ p (gQ p (gS [.o [0,0,1] 12,.c [1,0,1],.c [1,1]] ?_)))
 refine go_invoke (some 17) [2,3,4,0,1,5,6] (T:=173) (rv:=vP eb) (name:= "Step") (fun w=>by kernel_rfl) Tryz.call231 (each_read c p ba bp bf eb sl cd gp (.iface 173 (vP eb)) (.func (.func 117) #[] #[vP bp]) wa wc ws i fr m A hi0 hx hfr hn hs oM) kR ?_
 rintro v post ⟨wa2_1,wc2_2,rfl,rfl⟩
 refine gX [.sp [18,17] [.e 3,.z [0,1,0,1] 5 [0,23]] [.dead]] (gQ ((i+1)==m) (gT ((i+1)==m) (beq_iff_eq.2 hd) (gQ p (gS [.o [0,1,0,1] 5,.c [1,1]] ?_))))
 refine go_call (some 24) [1,3] Tryz.call117 (rd_then3 c p bp sl cd false gp (.slice wa2_1 ((ws++[A.ws.getD (fr+i).toNat 0]).length) wc2_2) (.iface 173 (vP eb)) (.func (.func 117) #[] #[vP bp]) hc hsl) kR ?_
 rintro v post ⟨rl_3,bq_4,bc_5,rfl,rfl⟩
 exact gX [.e 6] (gQ p (gJ [6,2,0,5,1,3,4,7,8,9] ⟨wa2_1,wc2_2,rl_3,bq_4,bc_5,rfl,rfl⟩))
theorem rd_Step3Y(c:Cfg)(p ba bp bf eb:Nat)(sl cd:Int)(gp:Value)(wa:Option Addr)(wc:Nat)(ws:List Int)(i fr m:Int)(A:Ar)(hi0:0≤i∧i≤1000)(hx:0≤fr+i∧fr+i<A.n)(hfr:0≤fr∧fr≤1000000)(hn:A.ws.length=A.n)(hs:0≤A.steps∧A.steps≤1000000000)(hl:ws.length≤1000)(hd:i+1=m)(hc:c.Ok)(hsl:0≤sl∧sl<c.slots):
  Ctr Tryz.prog 20 #[vP p,vP ba] [E2b60f p (.iface 173 (vP eb)) (.func (.func 117) #[] #[vP bp]) cd false c gp sl wa ws.length wc,E54ea0 wa wc ws,.pts eb [vI i,vI m,.func (.func 115) #[] #[vP bp,vP bf]] 176,.pts bp [vP p] 24,.pts bf [vI fr] 3,E3504b ba A,E35fb1 A] (fun v L => ∃(wa2:Option Addr) (wc2:Nat) (rl:Nat) (bq:Nat) (bc:Nat),v = .bool false∧L=[E2b60f p (.iface 222 (vP rl)) (.func (.func 163) #[] #[vP bq,vP bc]) cd false c gp sl wa2 ((ws++[A.ws.getD (fr+i).toNat 0]).length) wc2,E54ea0 wa2 wc2 (ws++[A.ws.getD (fr+i).toNat 0]),.pts eb [vI (i+1),vI m,.func (.func 115) #[] #[vP bp,vP bf]] 176,.pts bp [vP p] 24,.pts bf [vI fr] 3,E3504b ba (A.load (fr+i)),E35fb1 (A.load (fr+i)),.pts rl [vI (slotAt c sl),.bool false] 259,.pts bq [vP p] 24,.pts bc [vI 0] 42]):=by
 refine cB B20 14 Tryz.func20 ?_
 intro F
 refine gX [.z [0,1] 7 [7,10,11]] (gS [.o [0,1] 7,.c [1,1]] ?_)
 refine go_call (some 12) [0,1,2,3,4,5,6] Tryz.call61 (rstep3Y c p ba bp bf eb sl cd gp wa wc ws i fr m A hi0 hx hfr hn hs oM oM hc hsl) kR ?_
 rintro v post ⟨wa2_1,wc2_2,rl_3,bq_4,bc_5,rfl,rfl⟩
 exact gX [] (gJ [0,1,2,3,4,5,6,7,8,9] ⟨wa2_1,wc2_2,rl_3,bq_4,bc_5,rfl,rfl⟩)
theorem rstep4(c:Cfg)(p ba rl bq bc:Nat)(sl cd:Int)(wsl:Value)(gp:Value)(a_ k_:Int)(A:Ar)(hn:A.ws.length=A.n)(hi:0≤a_∧a_<A.n)(hs:0≤A.steps∧A.steps≤1000000000):
  Ctr Tryz.prog 61 #[vP p,vP ba] [Ecc945 p (.iface 222 (vP rl)) (.func (.func 163) #[] #[vP bq,vP bc]) cd false c gp sl wsl,.pts rl [vI a_,.bool false] 259,.pts bq [vP p] 24,.pts bc [vI k_] 42,E3504b ba A,E35fb1 A] (Ret (.bool true) [Ecc945 p (.iface 222 (vP rl)) (.func (.func 163) #[] #[vP bq,vP bc]) k_ true c gp (-1) wsl,.pts rl [vI a_,.bool true] 259,.pts bq [vP p] 24,.pts bc [vI k_] 42,E3504b ba (A.store a_ 0),E35fb1 (A.store a_ 0)]):=by
 refine cB B61 29 Tryz.func61 ?_
 intro F
 refine gX [.e 0,.e 0,.z [0,0,1] 12 [0,10,15,16]] (gQ p (gQ p (gS [.o [0,0,1] 12,.c [1,0,1],.c [1,1]] ?_)))
 refine go_invoke (some 17) [1,4,5] (T:=222) (rv:=vP rl) (name:= "Step") (fun w=>by kernel_rfl) Tryz.call236 (release_Step rl ba a_ A hn hi hs) kR ?_
 rintro v post ⟨rfl,rfl⟩
 refine gX [.e 0,.z [0,1,0,1] 5 [0,23]] (gQ p (gS [.o [0,1,0,1] 5,.c [1,1]] ?_))
 refine gC (some 24) [1,2,0] Tryz.call163 (rd_then4 c p bq bc sl cd false gp wsl (.iface 222 (vP rl)) (.func (.func 163) #[] #[vP bq,vP bc]) k_) ?_
 exact gX [.e 5] (gQ p (gJ [5,0,3,4,1,2] ⟨rfl,rfl⟩))
theorem rd_Step4(c:Cfg)(p ba rl bq bc:Nat)(sl cd:Int)(wsl:Value)(gp:Value)(a_ k_:Int)(A:Ar)(hn:A.ws.length=A.n)(hi:0≤a_∧a_<A.n)(hs:0≤A.steps∧A.steps≤1000000000):
  Ctr Tryz.prog 20 #[vP p,vP ba] [Ecc945 p (.iface 222 (vP rl)) (.func (.func 163) #[] #[vP bq,vP bc]) cd false c gp sl wsl,.pts rl [vI a_,.bool false] 259,.pts bq [vP p] 24,.pts bc [vI k_] 42,E3504b ba A,E35fb1 A] (Ret (.bool true) [Ecc945 p (.iface 222 (vP rl)) (.func (.func 163) #[] #[vP bq,vP bc]) k_ true c gp (-1) wsl,.pts rl [vI a_,.bool true] 259,.pts bq [vP p] 24,.pts bc [vI k_] 42,E3504b ba (A.store a_ 0),E35fb1 (A.store a_ 0)]):=by
 refine cB B20 14 Tryz.func20 ?_
 intro F
 refine gX [.z [0,1] 7 [7,10,11]] (gS [.o [0,1] 7,.c [1,1]] ?_)
 refine gC (some 12) [0,1,2,3,4,5] Tryz.call61 (rstep4 c p ba rl bq bc sl cd wsl gp a_ k_ A hn hi hs) ?_
 exact gX [] (gJ [0,1,2,3,4,5] ⟨rfl,rfl⟩)
theorem rstep0(c:Cfg)(p ba:Nat)(sl cd:Int)(wsl:Value)(gp r_ th_:Value):
  Ctr Tryz.prog 61 #[vP p,vP ba] [Ecc945 p r_ th_ cd true c gp sl wsl] (Ret (.bool true) [Ecc945 p r_ th_ cd true c gp sl wsl]):=by
 refine cB B61 29 Tryz.func61 ?_
 intro F
 exact gX [.e 0,.e 0] (gQ p (gQ p (gJ [0] ⟨rfl,rfl⟩)))
theorem rd_Step0(c:Cfg)(p ba:Nat)(sl cd:Int)(wsl:Value)(gp r_ th_:Value):
  Ctr Tryz.prog 20 #[vP p,vP ba] [Ecc945 p r_ th_ cd true c gp sl wsl] (Ret (.bool true) [Ecc945 p r_ th_ cd true c gp sl wsl]):=by
 refine cB B20 14 Tryz.func20 ?_
 intro F
 refine gX [.z [0,1] 7 [7,10,11]] (gS [.o [0,1] 7,.c [1,1]] ?_)
 refine gC (some 12) [0] Tryz.call61 (rstep0 c p ba sl cd wsl gp r_ th_) ?_
 exact gX [] (gJ [0] ⟨rfl,rfl⟩)
end Go.Proofs.YtpcaijopodhdgaaGreatDoor
namespace Go.Proofs.YtpcaijopodhdgaaGreatDoor
open Go.Sx
abbrev Ebdbef(x0:Nat)(x1:Value)(x2:Value)(x3:Int)(x4:Bool)(c5:Cfg)(x6:Int)(x7:Option Addr)(x8:Nat)(x9:Nat): Ent:=.pts x0 [x1,x2,.int .i64 x3,.bool x4,.int .i64 c5.topics,.int .i64 c5.small,.int .i64 c5.slots,.int .i64 c5.clients,.int .i64 c5.s0,.int .i64 c5.n0,.int .i64 c5.s1,.int .i64 c5.n1,.int .i64 c5.retry,.pointer none,.int .i64 x6,.slice x7 x8 x9] 112
structure RdH where
 run:Value
 th:Value
 wa:Option Addr
 wc:Nat
 k:Nat
 b1:Nat
 b2:Nat
 b3:Nat
 b4:Nat
 b5:Nat
 b6:Nat
 gb:Nat
 eb:Nat
 bp:Nat
 bf:Nat
 rl:Nat
 bc:Nat
noncomputable def runRV(h:RdH): Nat→Value
 | 1=>.iface 118 (vP h.k)
 | 2=>.iface 110 (vP h.gb)
 | 3=>.iface 173 (vP h.eb)
 | 4=>.iface 222 (vP h.rl)
 | _=>h.run
noncomputable def thRV(p:Nat)(h:RdH): Nat→Value
 | 1=>.func (.func 55) #[] #[vP h.b1,vP h.b2,vP h.b3,vP h.b4,vP h.b5,vP h.b6]
 | 2=>.func (.func 59) #[vP p] #[]
 | 3=>.func (.func 117) #[] #[vP h.bp]
 | 4=>.func (.func 163) #[] #[vP h.bp,vP h.bc]
 | _=>h.th
def gpR(h:RdH): Option Gu→Value
 | none=>.pointer none
 | some _=>.pointer (some ⟨h.gb,0,none⟩)
noncomputable def rdPhL(c:Cfg)(p:Nat)(cl tp ep:Int)(S:Rd)(h:RdH): List Ent:=match S.ph,S.gu with
 | 1,_=>[E699bc h.k c S.cl,.pts h.b1 [vP h.k] 118,.pts h.b2 [vP p] 24,Efdc04 h.b3 c,.pts h.b4 [vI cl] 3,.pts h.b5 [vI tp] 3,.pts h.b6 [vI ep] 3]
 | 2,some G=>[Ea7eb0 h.gb c G h.gb]
 | 3,some G=>[.pts h.eb [vI ((S.words.length:Nat):Int),vI (szK c (clsOf c G.block)),.func (.func 115) #[] #[vP h.bp,vP h.bf]] 176,.pts h.bp [vP p] 24,.pts h.bf [vI (blockAt c G.block+1)] 3,Ea7eb0 h.gb c G h.gb]
 | 4,some G=>[.pts h.rl [vI (slotAt c S.slot),.bool false] 259,.pts h.bp [vP p] 24,.pts h.bc [vI S.code] 42,Ea7eb0 h.gb c G h.gb]
 | 0,some G=>[Ea7eb0 h.gb c G h.gb]
 | _,_=>[]
noncomputable def rdL(p:Nat)(c:Cfg)(cl tp ep:Int)(S:Rd)(h:RdH): List Ent:=[.pts p [(runRV h S.ph),(thRV p h S.ph),vI (cdV S.ph S.code),.bool (ovV S.ph),vI c.topics,vI c.small,vI c.slots,vI c.clients,vI c.s0,vI c.n0,vI c.s1,vI c.n1,vI c.retry,(gpR h S.gu),vI S.slot,.slice h.wa S.words.length h.wc] 112,E54ea0 h.wa h.wc S.words,.res (dens (rdPhL c p cl tp ep S h))]
noncomputable def RdR(p:Nat)(c:Cfg)(cl tp ep:Int)(S:Rd): Res:=Box (fun _:RdH=>True) (rdL p c cl tp ep S)
theorem rd_Step(o_:Obj)(p ba:Nat)(c:Cfg)(cl tp ep:Int)(S:Rd)(A:Ar)(hc:c.Ok)(hn:A.ws.length=A.n)(hs:0≤A.steps∧A.steps≤1000000000)(hz:(A.n:Int)=sizeOfC c)(hR:RngW A.ws)(htp:0≤tp∧tp<c.topics)(hC:CtlOk c A tp)(hS:S.Ok c cl tp A.n)(ho:IsH o_):
  Ctr Tryz.prog 20 #[vP p,vP ba] [.raw 0 o_,.res (RdR p c cl tp ep S),E3504b ba A,E35fb1 A] (Ret (.bool ((S.step c cl tp ep A).1.ph==0)) [.raw 0 o_,.res (RdR p c cl tp ep ((S.step c cl tp ep A).1)),E3504b ba ((S.step c cl tp ep A).2),E35fb1 ((S.step c cl tp ep A).2)]):=by
 refine oC (I:=fun _:RdH=>True) (LL:=rdL p c cl tp ep S) 1 ?_
 rintro⟨run,th,wa,wc,k,b1,b2,b3,b4,b5,b6,gb,eb,bp,bf,rl,bc⟩ -
 obtain⟨K,gu,sl,ws,cd,ph⟩:=S
 obtain⟨h1,h2,h3,h4,h5,h6,h7,h8,h8b,h9,h10,h10b,h11,h12⟩:=hS
 simp only at h1 h2 h3 h4 h5 h6 h7 h8 h8b h9 h10 h10b h11 h12
 have hsz:=sizeOfC_ok hc
 match ph,h1 with
 | 0,_=>
  cases gu with
  | none=>
   have e:Rd.step c cl tp ep (⟨K,none,sl,ws,cd,0⟩:Rd) A=((⟨K,none,sl,ws,cd,0⟩:Rd),A):=by rfl
   rw [e]
   refine cP [3] (rd_Step0 c p ba sl cd (.slice wa ws.length wc) (.pointer none) run th) ?_
   rintro v post ⟨rfl,rfl⟩
   exact⟨_,(((vC [])).trans (vK (fun _:RdH=>True) (rdL p c cl tp ep (⟨K,none,sl,ws,cd,0⟩:Rd)) ⟨run,th,wa,wc,k,b1,b2,b3,b4,b5,b6,gb,eb,bp,bf,rl,bc⟩ [5,3,6] trivial)).trans (vQ [0,4,1,2]),rfl,rfl⟩
  | some G=>
   have e:Rd.step c cl tp ep (⟨K,(some G),sl,ws,cd,0⟩:Rd) A=((⟨K,(some G),sl,ws,cd,0⟩:Rd),A):=by rfl
   rw [e]
   refine ctr_view (view_open 5 (N:=[Ea7eb0 gb c G gb]) (M:=[.raw 0 o_,E3504b ba A,E35fb1 A,E2b60f p run th cd true c (vP gb) sl wa ws.length wc,E54ea0 wa wc ws]) kR) ?_
   refine cP [3] (rd_Step0 c p ba sl cd (.slice wa ws.length wc) (vP gb) run th) ?_
   rintro v post ⟨rfl,rfl⟩
   exact⟨_,(((vC [4])).trans (vK (fun _:RdH=>True) (rdL p c cl tp ep (⟨K,(some G),sl,ws,cd,0⟩:Rd)) ⟨run,th,wa,wc,k,b1,b2,b3,b4,b5,b6,gb,eb,bp,bf,rl,bc⟩ [4,3,5] trivial)).trans (vQ [0,3,1,2]),rfl,rfl⟩
 | 1,_=>
  obtain⟨e1,e2,e3,e4,e5⟩:=h5 rfl
  subst e1; subst e2
  have hk:Cl.Ok c (Cl.step c K A).1:=(cl_step (k:=A.steps) hc h2 ⟨hn,hz,hR,hs.1,Int.le_refl _⟩).1
  have hcl:0≤cl∧cl<c.clients:=by have:=h2.client; rw [h3] at this; exact this
  by_cases ha:(Cl.step c K A).1.at_ = -1
  ·by_cases hq:(Cl.step c K A).1.slot = -1
   ·skip
    have e:Rd.step c cl tp ep (⟨K,none,sl,[],cd,1⟩:Rd) A=((⟨(Cl.step c K A).1,none,(Cl.step c K A).1.slot,[],19,0⟩:Rd),(Cl.step c K A).2):=by unfold Rd.step; simp only; rw [if_pos ha,if_pos hq]
    rw [e]
    refine ctr_view (view_open 5 (N:=[E699bc k c K,.pts b1 [vP k] 118,.pts b2 [vP p] 24,Efdc04 b3 c,.pts b4 [vI cl] 3,.pts b5 [vI tp] 3,.pts b6 [vI ep] 3]) (M:=[.raw 0 o_,E3504b ba A,E35fb1 A,Ebdbef p (.iface 118 (vP k)) (.func (.func 55) #[] #[vP b1,vP b2,vP b3,vP b4,vP b5,vP b6]) 0 false c sl wa (([]:List Int).length) wc,E54ea0 wa wc ([]:List Int)]) kR) ?_
    refine cP [3,5,6,7,8,9,10,11,1,2] (rd_Step1N c p ba k b1 b2 b3 b4 b5 b6 sl 0 (.slice wa (([]:List Int).length) wc) cl tp ep K A hc hn hs hz h2 ha hq) ?_
    rintro v post ⟨rfl,rfl⟩
    exact⟨_,(((vC [])).trans (vK (fun _:RdH=>True) (rdL p c cl tp ep (⟨(Cl.step c K A).1,none,(Cl.step c K A).1.slot,[],19,0⟩:Rd)) ⟨(.iface 118 (vP k)),(.func (.func 55) #[] #[vP b1,vP b2,vP b3,vP b4,vP b5,vP b6]),wa,wc,k,b1,b2,b3,b4,b5,b6,gb,eb,bp,bf,rl,bc⟩ [2,1,12] trivial)).trans (vQ [0,10,8,9]),rfl,rfl⟩
   ·have hsl:=hk.slot.resolve_left hq
    have e:Rd.step c cl tp ep (⟨K,none,sl,[],cd,1⟩:Rd) A=((⟨(Cl.step c K A).1,(some (newGu c cl (Cl.step c K A).1.slot tp ep)),(Cl.step c K A).1.slot,[],cd,2⟩:Rd),(Cl.step c K A).2):=by unfold Rd.step; simp only; rw [if_pos ha,if_neg hq]
    rw [e]
    refine ctr_view (view_open 5 (N:=[E699bc k c K,.pts b1 [vP k] 118,.pts b2 [vP p] 24,Efdc04 b3 c,.pts b4 [vI cl] 3,.pts b5 [vI tp] 3,.pts b6 [vI ep] 3]) (M:=[.raw 0 o_,E3504b ba A,E35fb1 A,Ebdbef p (.iface 118 (vP k)) (.func (.func 55) #[] #[vP b1,vP b2,vP b3,vP b4,vP b5,vP b6]) 0 false c sl wa (([]:List Int).length) wc,E54ea0 wa wc ([]:List Int)]) kR) ?_
    refine cP [3,5,6,7,8,9,10,11,1,2] (rd_Step1Y c p ba k b1 b2 b3 b4 b5 b6 sl 0 (.slice wa (([]:List Int).length) wc) cl tp ep K A hc hn hs hz h2 ha hq hsl hcl htp) ?_
    rintro v post ⟨gb_1,rfl,rfl⟩
    exact⟨_,(((vC [12])).trans (vK (fun _:RdH=>True) (rdL p c cl tp ep (⟨(Cl.step c K A).1,(some (newGu c cl (Cl.step c K A).1.slot tp ep)),(Cl.step c K A).1.slot,[],cd,2⟩:Rd)) ⟨run,th,wa,wc,k,b1,b2,b3,b4,b5,b6,gb_1,eb,bp,bf,rl,bc⟩ [2,1,12] trivial)).trans (vQ [0,10,8,9]),rfl,rfl⟩
  ·skip
   have e:Rd.step c cl tp ep (⟨K,none,sl,[],cd,1⟩:Rd) A=((⟨(Cl.step c K A).1,none,sl,[],cd,1⟩:Rd),(Cl.step c K A).2):=by unfold Rd.step; simp only; rw [if_neg ha]
   rw [e]
   refine ctr_view (view_open 5 (N:=[E699bc k c K,.pts b1 [vP k] 118,.pts b2 [vP p] 24,Efdc04 b3 c,.pts b4 [vI cl] 3,.pts b5 [vI tp] 3,.pts b6 [vI ep] 3]) (M:=[.raw 0 o_,E3504b ba A,E35fb1 A,Ebdbef p (.iface 118 (vP k)) (.func (.func 55) #[] #[vP b1,vP b2,vP b3,vP b4,vP b5,vP b6]) 0 false c sl wa (([]:List Int).length) wc,E54ea0 wa wc ([]:List Int)]) kR) ?_
   refine cP [3,5,6,7,8,9,10,11,1,2] (rd_Step1W c p ba k b1 b2 b3 b4 b5 b6 sl 0 (.slice wa (([]:List Int).length) wc) cl tp ep K A hc hn hs hz h2 ha) ?_
   rintro v post ⟨rfl,rfl⟩
   exact⟨_,(((vC [3,4,5,6,7,8,9])).trans (vK (fun _:RdH=>True) (rdL p c cl tp ep (⟨(Cl.step c K A).1,none,sl,[],cd,1⟩:Rd)) ⟨run,th,wa,wc,k,b1,b2,b3,b4,b5,b6,gb,eb,bp,bf,rl,bc⟩ [2,1,5] trivial)).trans (vQ [0,3,1,2]),rfl,rfl⟩
 | 2,_=>
  obtain⟨G,e1,e2,e3,e4⟩:=h6 rfl
  subst e1; subst e3
  obtain⟨hGu,g2⟩:=h4 G rfl
  have hb:=gu_b g2 hGu.ph hC
  have hsl:0≤sl∧sl<c.slots:=h9.resolve_left (h10 (by decide) (by decide))
  by_cases hd:(Gu.step c.retry G A).1.ph=0
  ·by_cases he:(Gu.step c.retry G A).1.code=0
   ·have hq:=hb.blk.resolve_left (hb.b0 hd he)
    have e:Rd.step c cl tp ep (⟨K,(some G),sl,[],cd,2⟩:Rd) A=((⟨K,(some (Gu.step c.retry G A).1),sl,[],0,3⟩:Rd),(Gu.step c.retry G A).2):=by unfold Rd.step; simp only; rw [if_pos hd,if_pos he]
    rw [e]
    refine ctr_view (view_open 5 (N:=[Ea7eb0 gb c G gb]) (M:=[.raw 0 o_,E3504b ba A,E35fb1 A,E2b60f p (.iface 110 (vP gb)) (.func (.func 59) #[vP p] #[]) 0 false c (vP gb) sl wa (([]:List Int).length) wc,E54ea0 wa wc ([]:List Int)]) kR) ?_
    refine cP [3,5,1,2] (rd_Step2K c p ba gb sl 0 (.slice wa (([]:List Int).length) wc) G A hc hn hs hR hGu oM oM hq) ?_
    rintro v post ⟨eb_1,bp_2,bf_3,rfl,rfl⟩
    exact⟨_,(((vC [6,7,8,3])).trans (vK (fun _:RdH=>True) (rdL p c cl tp ep (⟨K,(some (Gu.step c.retry G A).1),sl,[],0,3⟩:Rd)) ⟨run,th,wa,wc,k,b1,b2,b3,b4,b5,b6,gb,eb_1,bp_2,bf_3,rl,bc⟩ [2,1,5] trivial)).trans (vQ [0,3,1,2]),rfl,rfl⟩
   ·skip
    have e:Rd.step c cl tp ep (⟨K,(some G),sl,[],cd,2⟩:Rd) A=((⟨K,(some (Gu.step c.retry G A).1),sl,[],(Gu.step c.retry G A).1.code,4⟩:Rd),(Gu.step c.retry G A).2):=by unfold Rd.step; simp only; rw [if_pos hd,if_neg he]
    rw [e]
    refine ctr_view (view_open 5 (N:=[Ea7eb0 gb c G gb]) (M:=[.raw 0 o_,E3504b ba A,E35fb1 A,E2b60f p (.iface 110 (vP gb)) (.func (.func 59) #[vP p] #[]) 0 false c (vP gb) sl wa (([]:List Int).length) wc,E54ea0 wa wc ([]:List Int)]) kR) ?_
    refine cP [0,3,5,1,2] (rd_Step2E c p ba gb sl 0 (.slice wa (([]:List Int).length) wc) G A o_ hc hn hs hR hGu oM oM hsl ho) ?_
    rintro v post ⟨rl_1,bq_2,bc_3,rfl,rfl⟩
    exact⟨_,(((vC [6,7,8,3])).trans (vK (fun _:RdH=>True) (rdL p c cl tp ep (⟨K,(some (Gu.step c.retry G A).1),sl,[],(Gu.step c.retry G A).1.code,4⟩:Rd)) ⟨run,th,wa,wc,k,b1,b2,b3,b4,b5,b6,gb,eb,bq_2,bf,rl_1,bc_3⟩ [2,0,5] trivial)).trans (vQ [0,3,1,2]),rfl,rfl⟩
  ·skip
   have e:Rd.step c cl tp ep (⟨K,(some G),sl,[],cd,2⟩:Rd) A=((⟨K,(some (Gu.step c.retry G A).1),sl,[],cd,2⟩:Rd),(Gu.step c.retry G A).2):=by unfold Rd.step; simp only; rw [if_neg hd]
   rw [e]
   refine ctr_view (view_open 5 (N:=[Ea7eb0 gb c G gb]) (M:=[.raw 0 o_,E3504b ba A,E35fb1 A,E2b60f p (.iface 110 (vP gb)) (.func (.func 59) #[vP p] #[]) 0 false c (vP gb) sl wa (([]:List Int).length) wc,E54ea0 wa wc ([]:List Int)]) kR) ?_
   refine cP [3,5,1,2] (rd_Step2W c p ba gb sl 0 (.slice wa (([]:List Int).length) wc) G A hc hn hs hR hGu oM) ?_
   rintro v post ⟨rfl,rfl⟩
   exact⟨_,(((vC [3])).trans (vK (fun _:RdH=>True) (rdL p c cl tp ep (⟨K,(some (Gu.step c.retry G A).1),sl,[],cd,2⟩:Rd)) ⟨run,th,wa,wc,k,b1,b2,b3,b4,b5,b6,gb,eb,bp,bf,rl,bc⟩ [2,1,5] trivial)).trans (vQ [0,3,1,2]),rfl,rfl⟩
 | 3,_=>
  obtain⟨G,e1,e2,e3,e4,e5⟩:=h7 rfl
  subst e1; subst e5
  have hz3:=szK_ok hc (clsOf c G.block)
  have hbf:=blockAt_fit hc e3
  have hbl:=blockAt_ok hc e3
  have hi0:0≤((ws.length:Nat):Int)∧((ws.length:Nat):Int)≤1000:=by omega
  have hx:0≤blockAt c G.block+1+((ws.length:Nat):Int)∧blockAt c G.block+1+((ws.length:Nat):Int)<A.n:=by omega
  have hfr:0≤blockAt c G.block+1∧blockAt c G.block+1≤1000000:=by omega
  have hl:ws.length≤1000:=by omega
  have hsl:0≤sl∧sl<c.slots:=h9.resolve_left (h10 (by decide) (by decide))
  by_cases hd:((ws.length:Nat):Int)+1=szK c (clsOf c G.block)
  ·skip
   have e:Rd.step c cl tp ep (⟨K,(some G),sl,ws,0,3⟩:Rd) A=((⟨K,(some G),sl,(ws++[A.ws.getD (blockAt c G.block+1+((ws.length:Nat):Int)).toNat 0]),0,4⟩:Rd),(A.load (blockAt c G.block+1+((ws.length:Nat):Int)))):=by exact if_pos hd
   rw [e]
   refine ctr_view (view_open 5 (N:=[.pts eb [vI ((ws.length:Nat):Int),vI (szK c (clsOf c G.block)),.func (.func 115) #[] #[vP bp,vP bf]] 176,.pts bp [vP p] 24,.pts bf [vI (blockAt c G.block+1)] 3,Ea7eb0 gb c G gb]) (M:=[.raw 0 o_,E3504b ba A,E35fb1 A,E2b60f p (.iface 173 (vP eb)) (.func (.func 117) #[] #[vP bp]) 0 false c (vP gb) sl wa ws.length wc,E54ea0 wa wc ws]) kR) ?_
   refine cP [3,4,5,6,7,1,2] (rd_Step3Y c p ba bp bf eb sl 0 (vP gb) wa wc ws ((ws.length:Nat):Int) (blockAt c G.block+1) (szK c (clsOf c G.block)) A hi0 hx hfr hn hs oM oM hc hsl) ?_
   rintro v post ⟨wa2_1,wc2_2,rl_3,bq_4,bc_5,rfl,rfl⟩
   exact⟨_,(((vC [9,10,11,1])).trans (vK (fun _:RdH=>True) (rdL p c cl tp ep (⟨K,(some G),sl,(ws++[A.ws.getD (blockAt c G.block+1+((ws.length:Nat):Int)).toNat 0]),0,4⟩:Rd)) ⟨run,th,wa2_1,wc2_2,k,b1,b2,b3,b4,b5,b6,gb,eb,bq_4,bf,rl_3,bc_5⟩ [1,2,8] trivial)).trans (vQ [0,6,4,5]),rfl,rfl⟩
  ·skip
   have e:Rd.step c cl tp ep (⟨K,(some G),sl,ws,0,3⟩:Rd) A=((⟨K,(some G),sl,(ws++[A.ws.getD (blockAt c G.block+1+((ws.length:Nat):Int)).toNat 0]),0,3⟩:Rd),(A.load (blockAt c G.block+1+((ws.length:Nat):Int)))):=by exact if_neg hd
   rw [e]
   refine ctr_view (view_open 5 (N:=[.pts eb [vI ((ws.length:Nat):Int),vI (szK c (clsOf c G.block)),.func (.func 115) #[] #[vP bp,vP bf]] 176,.pts bp [vP p] 24,.pts bf [vI (blockAt c G.block+1)] 3,Ea7eb0 gb c G gb]) (M:=[.raw 0 o_,E3504b ba A,E35fb1 A,E2b60f p (.iface 173 (vP eb)) (.func (.func 117) #[] #[vP bp]) 0 false c (vP gb) sl wa ws.length wc,E54ea0 wa wc ws]) kR) ?_
   refine cP [3,4,5,6,7,1,2] (rd_Step3N c p ba bp bf eb sl 0 (vP gb) wa wc ws ((ws.length:Nat):Int) (blockAt c G.block+1) (szK c (clsOf c G.block)) A hi0 hx hfr hn hs oM oM) ?_
   rintro v post ⟨wa2_1,wc2_2,rfl,rfl⟩
   exact⟨_,((((view_set (congrArg (fun x:Int=>[.raw 0 o_,Ea7eb0 gb c G gb,E2b60f p (.iface 173 (vP eb)) (.func (.func 117) #[] #[vP bp]) 0 false c (vP gb) sl wa2_1 ((ws++[A.ws.getD ((blockAt c G.block+1)+((ws.length:Nat):Int)).toNat 0]).length) wc2_2,E54ea0 wa2_1 wc2_2 (ws++[A.ws.getD ((blockAt c G.block+1)+((ws.length:Nat):Int)).toNat 0]),.pts eb [vI x,vI (szK c (clsOf c G.block)),.func (.func 115) #[] #[vP bp,vP bf]] 176,.pts bp [vP p] 24,.pts bf [vI (blockAt c G.block+1)] 3,E3504b ba (A.load ((blockAt c G.block+1)+((ws.length:Nat):Int))),E35fb1 (A.load ((blockAt c G.block+1)+((ws.length:Nat):Int)))]) (show((ws.length:Nat):Int)+1=((((ws++[A.ws.getD (blockAt c G.block+1+((ws.length:Nat):Int)).toNat 0])).length:Nat):Int) by simp))).trans (vC [4,5,6,1]))).trans (vK (fun _:RdH=>True) (rdL p c cl tp ep (⟨K,(some G),sl,(ws++[A.ws.getD (blockAt c G.block+1+((ws.length:Nat):Int)).toNat 0]),0,3⟩:Rd)) ⟨run,th,wa2_1,wc2_2,k,b1,b2,b3,b4,b5,b6,gb,eb,bp,bf,rl,bc⟩ [1,2,5] trivial)).trans (vQ [0,3,1,2]),rfl,rfl⟩
 | 4,_=>
  obtain⟨G,e1⟩:=h8b rfl
  subst e1
  have hsl:0≤sl∧sl<c.slots:=h9.resolve_left (h10 (by decide) (by decide))
  have hi:0≤slotAt c sl∧slotAt c sl<A.n:=by have:=slotAt_ok hc hsl; omega
  have e:Rd.step c cl tp ep (⟨K,(some G),sl,ws,cd,4⟩:Rd) A=((⟨K,(some G),(-1),ws,cd,0⟩:Rd),(A.store (slotAt c sl) 0)):=by rfl
  rw [e]
  refine ctr_view (view_open 5 (N:=[.pts rl [vI (slotAt c sl),.bool false] 259,.pts bp [vP p] 24,.pts bc [vI cd] 42,Ea7eb0 gb c G gb]) (M:=[.raw 0 o_,E3504b ba A,E35fb1 A,E2b60f p (.iface 222 (vP rl)) (.func (.func 163) #[] #[vP bp,vP bc]) 0 false c (vP gb) sl wa ws.length wc,E54ea0 wa wc ws]) kR) ?_
  refine cP [3,5,6,7,1,2] (rd_Step4 c p ba rl bp bc sl 0 (.slice wa ws.length wc) (vP gb) (slotAt c sl) cd A hn hi hs) ?_
  rintro v post ⟨rfl,rfl⟩
  exact⟨_,(((vC [2])).trans (vK (fun _:RdH=>True) (rdL p c cl tp ep (⟨K,(some G),(-1),ws,cd,0⟩:Rd)) ⟨(.iface 222 (vP rl)),(.func (.func 163) #[] #[vP bp,vP bc]),wa,wc,k,b1,b2,b3,b4,b5,b6,gb,eb,bp,bf,rl,bc⟩ [2,1,8] trivial)).trans (vQ [0,6,4,5]),rfl,rfl⟩
 | n+5,h=>omega
end Go.Proofs.YtpcaijopodhdgaaGreatDoor
namespace Go.Proofs.YtpcaijopodhdgaaGreatDoor
open Go.Sx
abbrev q82_0: List Nat:=[0,0,1,1,1,1,1,0,0,1]
abbrev q82_1: List Nat:=[0,0,1,1,1,0,0,1]
theorem pubDone(c:Cfg)(p:Nat)(wd ep bk od sn fl tm cd:Int)(ov:Bool)(wsl:Value)(r_ th_:Value):
  Ctr Tryz.prog 16 #[vP p] [E30dd4 p r_ th_ cd ov c wd ep wsl bk od sn fl tm] (Ret (.bool ov) [E30dd4 p r_ th_ cd ov c wd ep wsl bk od sn fl tm]):=by
 refine cB B16 12 Tryz.func16 ?_
 intro F
 exact gX [.e 0] (gQ p (gJ [0] ⟨rfl,rfl⟩))
theorem pub_Done(p:Nat)(c:Cfg)(wd ep:Int)(ws:List Int)(S:Pb)(hph:S.ph≤5):
  Ctr Tryz.prog 16 #[vP p] [.res (PbR p c wd ep ws S)] (Ret (.bool (S.ph==0)) [.res (PbR p c wd ep ws S)]):=by
 refine oC (I:=fun _:PbH=>True) (LL:=pbL p c wd ep ws S) 0 ?_
 rintro⟨run,th,wa,wc,k,bp,bt,eb,bf,b3,b5,b2,gx,bc⟩ -
 obtain⟨tk,i,sn,fl,bk,od,tm,cd,gv,ph⟩:=S
 simp only at hph
 match ph,hph with
 | 0,_=>
  refine cP [0] (pubDone c p wd ep bk od sn fl tm (cdV 0 cd) (ovV 0) (.slice wa ws.length wc) (runV ⟨run,th,wa,wc,k,bp,bt,eb,bf,b3,b5,b2,gx,bc⟩ 0) (thV p ⟨run,th,wa,wc,k,bp,bt,eb,bf,b3,b5,b2,gx,bc⟩ 0)) ?_
  rintro v post ⟨rfl,rfl⟩
  exact⟨_,view_pack (fun _:PbH=>True) (pbL p c wd ep ws (⟨tk,i,sn,fl,bk,od,tm,cd,gv,0⟩:Pb)) ⟨run,th,wa,wc,k,bp,bt,eb,bf,b3,b5,b2,gx,bc⟩ (M:=[]) [2,0,1] kR trivial,rfl,rfl⟩
 | 1,_=>
  refine cP [0] (pubDone c p wd ep bk od sn fl tm (cdV 1 cd) (ovV 1) (.slice wa ws.length wc) (runV ⟨run,th,wa,wc,k,bp,bt,eb,bf,b3,b5,b2,gx,bc⟩ 1) (thV p ⟨run,th,wa,wc,k,bp,bt,eb,bf,b3,b5,b2,gx,bc⟩ 1)) ?_
  rintro v post ⟨rfl,rfl⟩
  exact⟨_,view_pack (fun _:PbH=>True) (pbL p c wd ep ws (⟨tk,i,sn,fl,bk,od,tm,cd,gv,1⟩:Pb)) ⟨run,th,wa,wc,k,bp,bt,eb,bf,b3,b5,b2,gx,bc⟩ (M:=[]) [2,0,1] kR trivial,rfl,rfl⟩
 | 2,_=>
  refine cP [0] (pubDone c p wd ep bk od sn fl tm (cdV 2 cd) (ovV 2) (.slice wa ws.length wc) (runV ⟨run,th,wa,wc,k,bp,bt,eb,bf,b3,b5,b2,gx,bc⟩ 2) (thV p ⟨run,th,wa,wc,k,bp,bt,eb,bf,b3,b5,b2,gx,bc⟩ 2)) ?_
  rintro v post ⟨rfl,rfl⟩
  exact⟨_,view_pack (fun _:PbH=>True) (pbL p c wd ep ws (⟨tk,i,sn,fl,bk,od,tm,cd,gv,2⟩:Pb)) ⟨run,th,wa,wc,k,bp,bt,eb,bf,b3,b5,b2,gx,bc⟩ (M:=[]) [2,0,1] kR trivial,rfl,rfl⟩
 | 3,_=>
  refine cP [0] (pubDone c p wd ep bk od sn fl tm (cdV 3 cd) (ovV 3) (.slice wa ws.length wc) (runV ⟨run,th,wa,wc,k,bp,bt,eb,bf,b3,b5,b2,gx,bc⟩ 3) (thV p ⟨run,th,wa,wc,k,bp,bt,eb,bf,b3,b5,b2,gx,bc⟩ 3)) ?_
  rintro v post ⟨rfl,rfl⟩
  exact⟨_,view_pack (fun _:PbH=>True) (pbL p c wd ep ws (⟨tk,i,sn,fl,bk,od,tm,cd,gv,3⟩:Pb)) ⟨run,th,wa,wc,k,bp,bt,eb,bf,b3,b5,b2,gx,bc⟩ (M:=[]) [2,0,1] kR trivial,rfl,rfl⟩
 | 4,_=>
  refine cP [0] (pubDone c p wd ep bk od sn fl tm (cdV 4 cd) (ovV 4) (.slice wa ws.length wc) (runV ⟨run,th,wa,wc,k,bp,bt,eb,bf,b3,b5,b2,gx,bc⟩ 4) (thV p ⟨run,th,wa,wc,k,bp,bt,eb,bf,b3,b5,b2,gx,bc⟩ 4)) ?_
  rintro v post ⟨rfl,rfl⟩
  exact⟨_,view_pack (fun _:PbH=>True) (pbL p c wd ep ws (⟨tk,i,sn,fl,bk,od,tm,cd,gv,4⟩:Pb)) ⟨run,th,wa,wc,k,bp,bt,eb,bf,b3,b5,b2,gx,bc⟩ (M:=[]) [2,0,1] kR trivial,rfl,rfl⟩
 | 5,_=>
  refine cP [0] (pubDone c p wd ep bk od sn fl tm (cdV 5 cd) (ovV 5) (.slice wa ws.length wc) (runV ⟨run,th,wa,wc,k,bp,bt,eb,bf,b3,b5,b2,gx,bc⟩ 5) (thV p ⟨run,th,wa,wc,k,bp,bt,eb,bf,b3,b5,b2,gx,bc⟩ 5)) ?_
  rintro v post ⟨rfl,rfl⟩
  exact⟨_,view_pack (fun _:PbH=>True) (pbL p c wd ep ws (⟨tk,i,sn,fl,bk,od,tm,cd,gv,5⟩:Pb)) ⟨run,th,wa,wc,k,bp,bt,eb,bf,b3,b5,b2,gx,bc⟩ (M:=[]) [2,0,1] kR trivial,rfl,rfl⟩
 | n+6,h=>omega
theorem pub_Told(p:Nat)(c:Cfg)(wd ep:Int)(ws:List Int)(S:Pb)(hph:S.ph≤5):
  Ctr Tryz.prog 10 #[vP p] [.res (PbR p c wd ep ws S)] (Ret (.tuple #[vI ((Pb.told S).1),(errV (Pb.told S).2)]) [.res (PbR p c wd ep ws S)]):=by
 refine oC (I:=fun _:PbH=>True) (LL:=pbL p c wd ep ws S) 0 ?_
 rintro⟨run,th,wa,wc,k,bp,bt,eb,bf,b3,b5,b2,gx,bc⟩ -
 obtain⟨tk,i,sn,fl,bk,od,tm,cd,gv,ph⟩:=S
 simp only at hph
 match ph,hph with
 | 0,_=>
  by_cases hcd:cd=0
  ·subst hcd
   refine cP [0] (pubTold_K c p wd ep bk od sn fl tm wa ws.length wc run th) ?_
   rintro v post ⟨rfl,rfl⟩
   exact⟨_,view_pack (fun _:PbH=>True) (pbL p c wd ep ws (⟨tk,i,sn,fl,bk,od,tm,0,gv,0⟩:Pb)) ⟨run,th,wa,wc,k,bp,bt,eb,bf,b3,b5,b2,gx,bc⟩ (M:=[]) [2,0,1] kR trivial,rfl,rfl⟩
  ·rw [show(Pb.told (⟨tk,i,sn,fl,bk,od,tm,cd,gv,0⟩:Pb)).2=cd from rfl,errV_ne hcd]
   refine cP [0] (pubTold_E c p wd ep bk od sn fl tm cd wa ws.length wc run th hcd) ?_
   rintro v post ⟨rfl,rfl⟩
   exact⟨_,view_pack (fun _:PbH=>True) (pbL p c wd ep ws (⟨tk,i,sn,fl,bk,od,tm,cd,gv,0⟩:Pb)) ⟨run,th,wa,wc,k,bp,bt,eb,bf,b3,b5,b2,gx,bc⟩ (M:=[]) [2,0,1] kR trivial,rfl,rfl⟩
 | 1,_=>
  refine cP [0] (pubTold_W c p wd ep bk od sn fl tm 0 wa ws.length wc (runV ⟨run,th,wa,wc,k,bp,bt,eb,bf,b3,b5,b2,gx,bc⟩ 1) (thV p ⟨run,th,wa,wc,k,bp,bt,eb,bf,b3,b5,b2,gx,bc⟩ 1)) ?_
  rintro v post ⟨rfl,rfl⟩
  exact⟨_,view_pack (fun _:PbH=>True) (pbL p c wd ep ws (⟨tk,i,sn,fl,bk,od,tm,cd,gv,1⟩:Pb)) ⟨run,th,wa,wc,k,bp,bt,eb,bf,b3,b5,b2,gx,bc⟩ (M:=[]) [2,0,1] kR trivial,rfl,rfl⟩
 | 2,_=>
  refine cP [0] (pubTold_W c p wd ep bk od sn fl tm 0 wa ws.length wc (runV ⟨run,th,wa,wc,k,bp,bt,eb,bf,b3,b5,b2,gx,bc⟩ 2) (thV p ⟨run,th,wa,wc,k,bp,bt,eb,bf,b3,b5,b2,gx,bc⟩ 2)) ?_
  rintro v post ⟨rfl,rfl⟩
  exact⟨_,view_pack (fun _:PbH=>True) (pbL p c wd ep ws (⟨tk,i,sn,fl,bk,od,tm,cd,gv,2⟩:Pb)) ⟨run,th,wa,wc,k,bp,bt,eb,bf,b3,b5,b2,gx,bc⟩ (M:=[]) [2,0,1] kR trivial,rfl,rfl⟩
 | 3,_=>
  refine cP [0] (pubTold_W c p wd ep bk od sn fl tm 0 wa ws.length wc (runV ⟨run,th,wa,wc,k,bp,bt,eb,bf,b3,b5,b2,gx,bc⟩ 3) (thV p ⟨run,th,wa,wc,k,bp,bt,eb,bf,b3,b5,b2,gx,bc⟩ 3)) ?_
  rintro v post ⟨rfl,rfl⟩
  exact⟨_,view_pack (fun _:PbH=>True) (pbL p c wd ep ws (⟨tk,i,sn,fl,bk,od,tm,cd,gv,3⟩:Pb)) ⟨run,th,wa,wc,k,bp,bt,eb,bf,b3,b5,b2,gx,bc⟩ (M:=[]) [2,0,1] kR trivial,rfl,rfl⟩
 | 4,_=>
  refine cP [0] (pubTold_W c p wd ep bk od sn fl tm 0 wa ws.length wc (runV ⟨run,th,wa,wc,k,bp,bt,eb,bf,b3,b5,b2,gx,bc⟩ 4) (thV p ⟨run,th,wa,wc,k,bp,bt,eb,bf,b3,b5,b2,gx,bc⟩ 4)) ?_
  rintro v post ⟨rfl,rfl⟩
  exact⟨_,view_pack (fun _:PbH=>True) (pbL p c wd ep ws (⟨tk,i,sn,fl,bk,od,tm,cd,gv,4⟩:Pb)) ⟨run,th,wa,wc,k,bp,bt,eb,bf,b3,b5,b2,gx,bc⟩ (M:=[]) [2,0,1] kR trivial,rfl,rfl⟩
 | 5,_=>
  refine cP [0] (pubTold_W c p wd ep bk od sn fl tm 0 wa ws.length wc (runV ⟨run,th,wa,wc,k,bp,bt,eb,bf,b3,b5,b2,gx,bc⟩ 5) (thV p ⟨run,th,wa,wc,k,bp,bt,eb,bf,b3,b5,b2,gx,bc⟩ 5)) ?_
  rintro v post ⟨rfl,rfl⟩
  exact⟨_,view_pack (fun _:PbH=>True) (pbL p c wd ep ws (⟨tk,i,sn,fl,bk,od,tm,cd,gv,5⟩:Pb)) ⟨run,th,wa,wc,k,bp,bt,eb,bf,b3,b5,b2,gx,bc⟩ (M:=[]) [2,0,1] kR trivial,rfl,rfl⟩
 | n+6,h=>omega
theorem rdTold_K(c:Cfg)(p:Nat)(sl:Int)(gp:Value)(wa:Option Addr)(wc:Nat)(ws:List Int)(r_ th_:Value)(hl:ws.length≤1000000):
  Ctr Tryz.prog 11 #[vP p] [E2b60f p r_ th_ 0 true c gp sl wa ws.length wc,E54ea0 wa wc ws] (fun v L => ∃(a2:Option Addr) (c2:Nat),v = .tuple #[.slice a2 ws.length c2,.nilIface]∧L=[E2b60f p r_ th_ 0 true c gp sl wa ws.length wc,E54ea0 wa wc ws,E54ea0 a2 c2 ws]):=by
 refine cB B11 34 Tryz.func11 ?_
 intro F
 refine gX [.e 0,.e 0,.e 0,.z [0,1,1] 4 [32]] (gQ p (gQ p (gQ p (gS [.o [0,1,1] 4,.c [1,1,1]] ?_))))
 refine go_call (some 33) [1] Tryz.call47 (clone_n wa wc ws.length ws oM oM) kR ?_
 rintro v post ⟨a2_1,c2_2,rfl,rfl⟩
 exact gX [] (gJ [0,1,2] ⟨a2_1,c2_2,rfl,rfl⟩)
theorem rdTold_E(c:Cfg)(p:Nat)(sl cd:Int)(gp wsl:Value)(r_ th_:Value)(hcd:cd≠0):
  Ctr Tryz.prog 11 #[vP p] [Ecc945 p r_ th_ cd true c gp sl wsl] (Ret (.tuple #[.slice none 0 0,.iface 42 (vI cd)]) [Ecc945 p r_ th_ cd true c gp sl wsl]):=by
 refine cB B11 34 Tryz.func11 ?_
 intro F
 refine gX [.e 0,.e 0,.sp [16,22] [.e 0,.z q82_0 5 [27]] [.dead]] (gQ p (gQ p (gQ (cd != 0) (gT (cd != 0) (bne_iff_ne.2 hcd) (gQ p (gS [.o q82_0 5,.c [1,0,1,1,1,1,1,0,0,1],.b 0,.c [1,1]] ?_))))))
 refine gC (some 28) [] Tryz.call46 (cause_NewE cd hcd) ?_
 exact gX [] (gJ [0] ⟨rfl,rfl⟩)
theorem rdTold_W(c:Cfg)(p:Nat)(sl cd:Int)(gp wsl:Value)(r_ th_:Value):
  Ctr Tryz.prog 11 #[vP p] [Ecc945 p r_ th_ cd false c gp sl wsl] (Ret (.tuple #[.slice none 0 0,.iface 42 (vI 13)]) [Ecc945 p r_ th_ cd false c gp sl wsl]):=by
 refine cB B11 34 Tryz.func11 ?_
 intro F
 refine gX [.e 0,.z q82_1 0 []] (gQ p (gS [.o q82_1 0,.c [1,0,1,1,1,0,0,1],.b 0,.c [1,1]] ?_))
 refine gC (some 15) [] Tryz.call46 (cause_NewE 13 (by decide)) ?_
 exact gX [] (gJ [0] ⟨rfl,rfl⟩)
theorem rdDone(c:Cfg)(p:Nat)(sl cd:Int)(ov:Bool)(gp wsl:Value)(r_ th_:Value):
  Ctr Tryz.prog 21 #[vP p] [Ecc945 p r_ th_ cd ov c gp sl wsl] (Ret (.bool ov) [Ecc945 p r_ th_ cd ov c gp sl wsl]):=by
 refine cB B21 12 Tryz.func21 ?_
 intro F
 exact gX [.e 0] (gQ p (gJ [0] ⟨rfl,rfl⟩))
theorem rd_Done(p:Nat)(c:Cfg)(cl tp ep:Int)(S:Rd)(hph:S.ph≤4):
  Ctr Tryz.prog 21 #[vP p] [.res (RdR p c cl tp ep S)] (Ret (.bool (S.ph==0)) [.res (RdR p c cl tp ep S)]):=by
 refine oC (I:=fun _:RdH=>True) (LL:=rdL p c cl tp ep S) 0 ?_
 rintro⟨run,th,wa,wc,k,b1,b2,b3,b4,b5,b6,gb,eb,bp,bf,rl,bc⟩ -
 obtain⟨K,gu,sl,ws,cd,ph⟩:=S
 simp only at hph
 match ph,hph with
 | 0,_=>
  refine cP [0] (rdDone c p sl (cdV 0 cd) (ovV 0) (gpR ⟨run,th,wa,wc,k,b1,b2,b3,b4,b5,b6,gb,eb,bp,bf,rl,bc⟩ gu) (.slice wa ws.length wc) (runRV ⟨run,th,wa,wc,k,b1,b2,b3,b4,b5,b6,gb,eb,bp,bf,rl,bc⟩ 0) (thRV p ⟨run,th,wa,wc,k,b1,b2,b3,b4,b5,b6,gb,eb,bp,bf,rl,bc⟩ 0)) ?_
  rintro v post ⟨rfl,rfl⟩
  exact⟨_,view_pack (fun _:RdH=>True) (rdL p c cl tp ep (⟨K,gu,sl,ws,cd,0⟩:Rd)) ⟨run,th,wa,wc,k,b1,b2,b3,b4,b5,b6,gb,eb,bp,bf,rl,bc⟩ (M:=[]) [2,0,1] kR trivial,rfl,rfl⟩
 | 1,_=>
  refine cP [0] (rdDone c p sl (cdV 1 cd) (ovV 1) (gpR ⟨run,th,wa,wc,k,b1,b2,b3,b4,b5,b6,gb,eb,bp,bf,rl,bc⟩ gu) (.slice wa ws.length wc) (runRV ⟨run,th,wa,wc,k,b1,b2,b3,b4,b5,b6,gb,eb,bp,bf,rl,bc⟩ 1) (thRV p ⟨run,th,wa,wc,k,b1,b2,b3,b4,b5,b6,gb,eb,bp,bf,rl,bc⟩ 1)) ?_
  rintro v post ⟨rfl,rfl⟩
  exact⟨_,view_pack (fun _:RdH=>True) (rdL p c cl tp ep (⟨K,gu,sl,ws,cd,1⟩:Rd)) ⟨run,th,wa,wc,k,b1,b2,b3,b4,b5,b6,gb,eb,bp,bf,rl,bc⟩ (M:=[]) [2,0,1] kR trivial,rfl,rfl⟩
 | 2,_=>
  refine cP [0] (rdDone c p sl (cdV 2 cd) (ovV 2) (gpR ⟨run,th,wa,wc,k,b1,b2,b3,b4,b5,b6,gb,eb,bp,bf,rl,bc⟩ gu) (.slice wa ws.length wc) (runRV ⟨run,th,wa,wc,k,b1,b2,b3,b4,b5,b6,gb,eb,bp,bf,rl,bc⟩ 2) (thRV p ⟨run,th,wa,wc,k,b1,b2,b3,b4,b5,b6,gb,eb,bp,bf,rl,bc⟩ 2)) ?_
  rintro v post ⟨rfl,rfl⟩
  exact⟨_,view_pack (fun _:RdH=>True) (rdL p c cl tp ep (⟨K,gu,sl,ws,cd,2⟩:Rd)) ⟨run,th,wa,wc,k,b1,b2,b3,b4,b5,b6,gb,eb,bp,bf,rl,bc⟩ (M:=[]) [2,0,1] kR trivial,rfl,rfl⟩
 | 3,_=>
  refine cP [0] (rdDone c p sl (cdV 3 cd) (ovV 3) (gpR ⟨run,th,wa,wc,k,b1,b2,b3,b4,b5,b6,gb,eb,bp,bf,rl,bc⟩ gu) (.slice wa ws.length wc) (runRV ⟨run,th,wa,wc,k,b1,b2,b3,b4,b5,b6,gb,eb,bp,bf,rl,bc⟩ 3) (thRV p ⟨run,th,wa,wc,k,b1,b2,b3,b4,b5,b6,gb,eb,bp,bf,rl,bc⟩ 3)) ?_
  rintro v post ⟨rfl,rfl⟩
  exact⟨_,view_pack (fun _:RdH=>True) (rdL p c cl tp ep (⟨K,gu,sl,ws,cd,3⟩:Rd)) ⟨run,th,wa,wc,k,b1,b2,b3,b4,b5,b6,gb,eb,bp,bf,rl,bc⟩ (M:=[]) [2,0,1] kR trivial,rfl,rfl⟩
 | 4,_=>
  refine cP [0] (rdDone c p sl (cdV 4 cd) (ovV 4) (gpR ⟨run,th,wa,wc,k,b1,b2,b3,b4,b5,b6,gb,eb,bp,bf,rl,bc⟩ gu) (.slice wa ws.length wc) (runRV ⟨run,th,wa,wc,k,b1,b2,b3,b4,b5,b6,gb,eb,bp,bf,rl,bc⟩ 4) (thRV p ⟨run,th,wa,wc,k,b1,b2,b3,b4,b5,b6,gb,eb,bp,bf,rl,bc⟩ 4)) ?_
  rintro v post ⟨rfl,rfl⟩
  exact⟨_,view_pack (fun _:RdH=>True) (rdL p c cl tp ep (⟨K,gu,sl,ws,cd,4⟩:Rd)) ⟨run,th,wa,wc,k,b1,b2,b3,b4,b5,b6,gb,eb,bp,bf,rl,bc⟩ (M:=[]) [2,0,1] kR trivial,rfl,rfl⟩
 | n+5,h=>omega
theorem rd_Told(p:Nat)(c:Cfg)(cl tp ep:Int)(S:Rd)(hph:S.ph≤4)(hl:S.words.length≤96):
  Ctr Tryz.prog 11 #[vP p] [.res (RdR p c cl tp ep S)] (fun v L => ∃(a2:Option Addr) (c2:Nat),v = .tuple #[.slice a2 ((Rd.told S).1.length) c2,(errV (Rd.told S).2)]∧L=[.res (RdR p c cl tp ep S),E54ea0 a2 c2 ((Rd.told S).1)]):=by
 refine oC (I:=fun _:RdH=>True) (LL:=rdL p c cl tp ep S) 0 ?_
 rintro⟨run,th,wa,wc,k,b1,b2,b3,b4,b5,b6,gb,eb,bp,bf,rl,bc⟩ -
 obtain⟨K,gu,sl,ws,cd,ph⟩:=S
 simp only at hph hl
 match ph,hph with
 | 0,_=>
  by_cases hcd:cd=0
  ·subst hcd
   have et:Rd.told (⟨K,gu,sl,ws,0,0⟩:Rd)=(ws,0):=rfl
   rw [et]
   refine cP [0,1] (rdTold_K c p sl (gpR ⟨run,th,wa,wc,k,b1,b2,b3,b4,b5,b6,gb,eb,bp,bf,rl,bc⟩ gu) wa wc ws run th (by omega)) ?_
   rintro v post ⟨a2,c2,rfl,rfl⟩
   exact⟨_,(vK (fun _:RdH=>True) (rdL p c cl tp ep (⟨K,gu,sl,ws,0,0⟩:Rd)) ⟨run,th,wa,wc,k,b1,b2,b3,b4,b5,b6,gb,eb,bp,bf,rl,bc⟩ [1,2,0] trivial).trans (vQ [1,0]),a2,c2,rfl,rfl⟩
  ·have et:Rd.told (⟨K,gu,sl,ws,cd,0⟩:Rd)=([],cd):=if_neg hcd
   rw [et,errV_ne hcd]
   refine cP [0] (rdTold_E c p sl cd (gpR ⟨run,th,wa,wc,k,b1,b2,b3,b4,b5,b6,gb,eb,bp,bf,rl,bc⟩ gu) (.slice wa ws.length wc) run th hcd) ?_
   rintro v post ⟨rfl,rfl⟩
   exact⟨_,(view_pack (fun _:RdH=>True) (rdL p c cl tp ep (⟨K,gu,sl,ws,cd,0⟩:Rd)) ⟨run,th,wa,wc,k,b1,b2,b3,b4,b5,b6,gb,eb,bp,bf,rl,bc⟩ (M:=[]) [2,0,1] kR trivial).trans (view_nil (encI .u64) 0 1 60 (sizedI _)),none,0,rfl,rfl⟩
 | 1,_=>
  rw [show Rd.told (⟨K,gu,sl,ws,cd,1⟩:Rd)=([],13) from rfl]
  refine cP [0] (rdTold_W c p sl 0 (gpR ⟨run,th,wa,wc,k,b1,b2,b3,b4,b5,b6,gb,eb,bp,bf,rl,bc⟩ gu) (.slice wa ws.length wc) (runRV ⟨run,th,wa,wc,k,b1,b2,b3,b4,b5,b6,gb,eb,bp,bf,rl,bc⟩ 1) (thRV p ⟨run,th,wa,wc,k,b1,b2,b3,b4,b5,b6,gb,eb,bp,bf,rl,bc⟩ 1)) ?_
  rintro v post ⟨rfl,rfl⟩
  exact⟨_,(view_pack (fun _:RdH=>True) (rdL p c cl tp ep (⟨K,gu,sl,ws,cd,1⟩:Rd)) ⟨run,th,wa,wc,k,b1,b2,b3,b4,b5,b6,gb,eb,bp,bf,rl,bc⟩ (M:=[]) [2,0,1] kR trivial).trans (view_nil (encI .u64) 0 1 60 (sizedI _)),none,0,rfl,rfl⟩
 | 2,_=>
  rw [show Rd.told (⟨K,gu,sl,ws,cd,2⟩:Rd)=([],13) from rfl]
  refine cP [0] (rdTold_W c p sl 0 (gpR ⟨run,th,wa,wc,k,b1,b2,b3,b4,b5,b6,gb,eb,bp,bf,rl,bc⟩ gu) (.slice wa ws.length wc) (runRV ⟨run,th,wa,wc,k,b1,b2,b3,b4,b5,b6,gb,eb,bp,bf,rl,bc⟩ 2) (thRV p ⟨run,th,wa,wc,k,b1,b2,b3,b4,b5,b6,gb,eb,bp,bf,rl,bc⟩ 2)) ?_
  rintro v post ⟨rfl,rfl⟩
  exact⟨_,(view_pack (fun _:RdH=>True) (rdL p c cl tp ep (⟨K,gu,sl,ws,cd,2⟩:Rd)) ⟨run,th,wa,wc,k,b1,b2,b3,b4,b5,b6,gb,eb,bp,bf,rl,bc⟩ (M:=[]) [2,0,1] kR trivial).trans (view_nil (encI .u64) 0 1 60 (sizedI _)),none,0,rfl,rfl⟩
 | 3,_=>
  rw [show Rd.told (⟨K,gu,sl,ws,cd,3⟩:Rd)=([],13) from rfl]
  refine cP [0] (rdTold_W c p sl 0 (gpR ⟨run,th,wa,wc,k,b1,b2,b3,b4,b5,b6,gb,eb,bp,bf,rl,bc⟩ gu) (.slice wa ws.length wc) (runRV ⟨run,th,wa,wc,k,b1,b2,b3,b4,b5,b6,gb,eb,bp,bf,rl,bc⟩ 3) (thRV p ⟨run,th,wa,wc,k,b1,b2,b3,b4,b5,b6,gb,eb,bp,bf,rl,bc⟩ 3)) ?_
  rintro v post ⟨rfl,rfl⟩
  exact⟨_,(view_pack (fun _:RdH=>True) (rdL p c cl tp ep (⟨K,gu,sl,ws,cd,3⟩:Rd)) ⟨run,th,wa,wc,k,b1,b2,b3,b4,b5,b6,gb,eb,bp,bf,rl,bc⟩ (M:=[]) [2,0,1] kR trivial).trans (view_nil (encI .u64) 0 1 60 (sizedI _)),none,0,rfl,rfl⟩
 | 4,_=>
  rw [show Rd.told (⟨K,gu,sl,ws,cd,4⟩:Rd)=([],13) from rfl]
  refine cP [0] (rdTold_W c p sl 0 (gpR ⟨run,th,wa,wc,k,b1,b2,b3,b4,b5,b6,gb,eb,bp,bf,rl,bc⟩ gu) (.slice wa ws.length wc) (runRV ⟨run,th,wa,wc,k,b1,b2,b3,b4,b5,b6,gb,eb,bp,bf,rl,bc⟩ 4) (thRV p ⟨run,th,wa,wc,k,b1,b2,b3,b4,b5,b6,gb,eb,bp,bf,rl,bc⟩ 4)) ?_
  rintro v post ⟨rfl,rfl⟩
  exact⟨_,(view_pack (fun _:RdH=>True) (rdL p c cl tp ep (⟨K,gu,sl,ws,cd,4⟩:Rd)) ⟨run,th,wa,wc,k,b1,b2,b3,b4,b5,b6,gb,eb,bp,bf,rl,bc⟩ (M:=[]) [2,0,1] kR trivial).trans (view_nil (encI .u64) 0 1 60 (sizedI _)),none,0,rfl,rfl⟩
 | n+5,h=>omega
end Go.Proofs.YtpcaijopodhdgaaGreatDoor
namespace Go.Proofs.YtpcaijopodhdgaaGreatDoor
open Go.Sx
abbrev E4f1f6(x0:Nat)(c1:Cfg)(x2:Int)(x3:Int)(x4:Int)(x5:Int)(x6:Value)(x7:Int)(x8:Int)(x9:Int): Ent:=.pts x0 [.int .i64 c1.topics,.int .i64 c1.small,.int .i64 c1.slots,.int .i64 c1.clients,.int .i64 c1.s0,.int .i64 c1.n0,.int .i64 c1.s1,.int .i64 c1.n1,.int .i64 c1.retry,.int .i64 x2,.int .i64 x3,.int .i64 x4,.int .i64 x5,x6,.pointer none,.pointer none,.slice none 0 0,.int .i64 x7,.int .i64 x8,.int .i64 x9] 97
abbrev Edf317(x0:Nat)(c1:Cfg)(x2:Int)(x3:Int)(x4:Int)(x5:Int)(x6:Int)(x7:Option Addr)(x8:Nat)(x9:Nat)(x10:Value)(x11:Int)(x12:Int)(x13:Int)(x14:Int)(x15:Int): Ent:=.pts x0 [.int .i64 c1.topics,.int .i64 c1.small,.int .i64 c1.slots,.int .i64 c1.clients,.int .i64 c1.s0,.int .i64 c1.n0,.int .i64 c1.s1,.int .i64 c1.n1,.int .i64 c1.retry,.int .i64 x2,.int .i64 x3,.int .i64 x4,.int .i64 x5,.int .i64 x6,.slice x7 x8 x9,x10,.pointer none,.int .u64 x11,.int .i64 x12,.int .i64 x13,.int .i64 x14,.int .i64 x15] 91
abbrev Ef692a(x0:Nat)(c1:Cfg)(x2:Int)(x3:Int)(x4:Int)(x5:Int)(x6:Int): Ent:=.pts x0 [.int .i64 c1.topics,.int .i64 c1.small,.int .i64 c1.slots,.int .i64 c1.clients,.int .i64 c1.s0,.int .i64 c1.n0,.int .i64 c1.s1,.int .i64 c1.n1,.int .i64 c1.retry,.int .i64 x2,.int .i64 x3,.int .i64 x4,.int .i64 x5,.int .u64 x6] 206
noncomputable def B134: Code:=(Tryz.f134.body).getD .skip
theorem rnew_Take(c:Cfg)(cl:Int)(hc:c.Ok)(hcl:0≤cl∧cl≤1):
  Ctr Tryz.prog 134 #[cfgV c,vI cl] [] (fun v L => ∃(k:Nat),v=vP k∧L=[Ef692a k c cl 1 0 0 0]):=by
 refine cB B134 22 Tryz.func134 ?_
 intro F
 refine gX [.e 0,.z [0,1] 1 [1,2,6]] (gN fun b_1=>gQ b_1 (gS [.o [0,1] 1,.c [1,1]] ?_))
 refine gC (some 7) [] Tryz.call67 (ref_right c oM) ?_
 exact gX [.sp [14,12,13] [.dead] [.sp [17,16] [.dead] [.e 0]]] (gQ (decide (cl<0)) (gQ (decide (cl<0)) (gF (decide (cl<0)) (by first | (simp; done) | (simp; omega)) (gQ (decide (cl>1)) (gF (decide (cl>1)) (by first | (simp; done) | (simp; omega)) (gQ b_1 (gN fun b_2=>gJ [1] ⟨b_2,rfl,rfl⟩)))))))
noncomputable def B74: Code:=(Tryz.f74.body).getD .skip
theorem rnew_Pub(c:Cfg)(tp ep:Int)(a:Option Addr)(n cw:Nat)(hc:c.Ok)(hf:fitK c ((n:Nat):Int)≠-1)(htp:0≤tp∧tp<c.topics):
  Ctr Tryz.prog 74 #[cfgV c,vI tp,vI ep,.slice a n cw] [] (fun v L => ∃(q:Nat) (k:Nat),v=vP q∧L=[Edf317 q c tp ep 1 0 0 a n cw (vP k) 0 0 0 0 0,Ef692a k c (fitK c ((n:Nat):Int)) 1 0 0 0]):=by
 refine cB B74 35 Tryz.func74 ?_
 intro F
 refine gX [.e 0,.z [0,1] 3 [1,2,3,4,10,12]] (gN fun b_1=>gQ b_1 (gS [.o [0,1] 3,.c [1,1]] ?_))
 refine gC (some 13) [] Tryz.call25 (ref_Fits c ((n:Nat):Int) oM) ?_
 refine gX [.sp [16,15] [.dead] [.sp [20,18,19] [.dead] [.e 0,.sp [25,24] [.dead] [.z [0,1,1,1] 0 [1,2,3,4,9]]]]] (gQ (decide ((fitK c ((n:Nat):Int))<0)) (gF (decide ((fitK c ((n:Nat):Int))<0)) (decide_eq_false (by have:=fitK_rng c ((n:Nat):Int); omega)) (gQ (decide (tp<0)) (gQ (decide (tp<0)) (gF (decide (tp<0)) (decide_eq_false (by have:=fitK_rng c ((n:Nat):Int); omega)) (gQ b_1 (gQ (decide (tp≥c.topics)) (gF (decide (tp≥c.topics)) (decide_eq_false (by have:=fitK_rng c ((n:Nat):Int); omega)) (gS [.c [0,1,1,1],.c [1,1,1,1]] ?_)))))))))
 refine zG ?_
 refine zN [0,1,2,3,4,5] (kV 0 [.e 0,.w,.w,.w,.e 0,.w]) [1,2,3,4,9,26,27,28,29,30,31] [6] (.e b_1 (.e b_1 .n)) ⟨?_,trivial⟩
 refine zC (some 32) [] Tryz.call134 (rnew_Take c (fitK c ((n:Nat):Int)) oM (by have:=fitK_rng c ((n:Nat):Int); omega)) ?_
 rintro v post ⟨k_6_1,rfl,rfl⟩
 refine zN [7] [(0,.e 0),(1,.w),(2,.w),(3,.w),(7,.w)] [32,1,2,3,4,26,27,28,29,33] [8] (.e b_1 .n) ⟨?_,trivial⟩
 refine zX .w (sN fun b_8_1=>(sV ?_))
 refine zE [9] (kV 9 [.w]) [8] .n ?_
 exact gX [] (gJ [2,1] ⟨b_8_1,k_6_1,rfl,rfl⟩)
noncomputable def B72: Code:=(Tryz.f72.body).getD .skip
theorem rnew_Rd(c:Cfg)(cl tp ep:Int)(hc:c.Ok)(hcl:0≤cl∧cl<c.clients)(htp:0≤tp∧tp<c.topics):
  Ctr Tryz.prog 72 #[cfgV c,vI cl,vI tp,vI ep] [] (fun v L => ∃(q:Nat) (k:Nat),v=vP q∧L=[E4f1f6 q c cl tp ep 1 (vP k) (-1) 0 0,Ee6e88 k c cl 0 (-1)]):=by
 refine cB B72 32 Tryz.func72 ?_
 intro F
 refine gX [.e 0,.z [0,1] 2 [1,2,3,4,10,11]] (gN fun b_1=>gQ b_1 (gS [.o [0,1] 2,.c [1,1]] ?_))
 refine go_call (some 12) [] Tryz.call133 (rnew_Claim c cl oM hcl) kR ?_
 rintro v post ⟨k_2,rfl,rfl⟩
 exact gX [.sp [19,17,18] [.dead] [.e 0,.sp [24,23] [.dead] [.e 0]]] (gQ (decide (tp<0)) (gQ (decide (tp<0)) (gF (decide (tp<0)) (decide_eq_false (by omega)) (gQ b_1 (gQ (decide (tp≥c.topics)) (gF (decide (tp≥c.topics)) (decide_eq_false (by omega)) (gQ b_1 (gN fun b_3=>gJ [2,1] ⟨b_3,k_2,rfl,rfl⟩))))))))
theorem r13_Born(w_:Int)(hw:U64 w_):
  Ctr Tryz.prog 70 #[vU w_] [] (Ret (vU (bornW w_)) []):=by
 refine cB B70 8 Tryz.func70 ?_
 intro F
 refine gX [.z [0,1] 1 [3]] (gS [.o [0,1] 1,.c [1,1]] ?_)
 refine gC (some 4) [] Tryz.call34 (r13_Unpack w_ hw) ?_
 refine gX [.z [0,1] 4 [6]] (gS [.o [0,1] 4,.c [1,1]] ?_)
 refine gC (some 7) [] Tryz.call132 (r13_Pack (ctlEpoch w_) 0 0 true false (by have:=ctl_rng hw; omega) (by decide) (by decide)) ?_
 exact gX [] (gR (vU (packW3 (ctlEpoch w_) (flagI true) (flagI false) 0 0)) [] ⟨rfl,rfl⟩)
noncomputable def B71: Code:=(Tryz.f71.body).getD .skip
theorem r13_Gone(w_:Int)(hw:U64 w_):
  Ctr Tryz.prog 71 #[vU w_] [] (Ret (vU (goneW w_)) []):=by
 refine cB B71 10 Tryz.func71 ?_
 intro F
 refine gX [.z [0,1] 1 [3]] (gS [.o [0,1] 1,.c [1,1]] ?_)
 refine gC (some 4) [] Tryz.call34 (r13_Unpack w_ hw) ?_
 refine gX [.n,.n,.z [0,1] 6 [8]] (gO (InK .i64 ((ctlEpoch w_)+1)) (by have:=ctl_rng hw; simp only [InK]; omega) (gO ((32768:Int)≠0) (by decide) (gS [.o [0,1] 6,.c [1,1]] ?_)))
 refine gC (some 9) [] Tryz.call132 (r13_Pack (((ctlEpoch w_)+1).tmod 32768) 0 0 false false (by have:=ctl_rng hw; have h0:0≤(ctlEpoch w_+1).tmod 32768:=Int.tmod_nonneg _ (by omega); have h1:=Int.tmod_lt_of_pos (ctlEpoch w_+1) (show(0:Int)<32768 by omega); omega) (by decide) (by decide)) ?_
 exact gX [] (gR (vU (packW3 (((ctlEpoch w_)+1).tmod 32768) (flagI false) (flagI false) 0 0)) [] ⟨rfl,rfl⟩)
end Go.Proofs.YtpcaijopodhdgaaGreatDoor
namespace Go.Proofs.YtpcaijopodhdgaaGreatDoor
open Go.Sx
abbrev E4463d(x0:Nat)(x1:Value)(x2:Value)(x3:Value)(x4:Option Addr)(x5:Nat)(x6:Nat)(x7:Int): Ent:=.pts x0 [.pointer none,.pointer none,.pointer none,x1,x2,x3,.slice x4 x5 x6,.int .u64 x7] 74
abbrev E80d79(x0:Nat)(x1:Value)(x2:Value)(x3:Value)(x4:Value)(x5:Value)(x6:Value)(x7:Option Addr)(x8:Nat)(x9:Nat)(x10:Int): Ent:=.pts x0 [x1,x2,x3,x4,x5,x6,.slice x7 x8 x9,.int .u64 x10] 74
abbrev Ec2fa4(x0:Nat)(x1:Value)(x2:Value)(x3:Value)(x4:Value)(x5:Value)(x6:Option Addr)(x7:Nat)(x8:Nat)(x9:Int): Ent:=.pts x0 [.pointer none,x1,x2,x3,x4,x5,.slice x6 x7 x8,.int .u64 x9] 74
abbrev E70a74(x0:Nat)(x1:Value)(x2:Value)(x3:Value)(x4:Value)(x5:Option Addr)(x6:Nat)(x7:Nat)(x8:Int): Ent:=.pts x0 [.pointer none,.pointer none,x1,x2,x3,x4,.slice x5 x6 x7,.int .u64 x8] 74
abbrev E52593(x0:Nat)(c1:Cfg)(x2:Value)(x3:Value)(x4:Value)(x5:Value)(x6:Int): Ent:=.pts x0 [.int .i64 c1.topics,.int .i64 c1.small,.int .i64 c1.slots,.int .i64 c1.clients,.int .i64 c1.s0,.int .i64 c1.n0,.int .i64 c1.s1,.int .i64 c1.n1,.int .i64 c1.retry,x2,x3,x4,x5,.int .u64 x6] 62
noncomputable def B32: Code:=(Tryz.f32.body).getD .skip
theorem k_idleI(b:Nat)(pv sv rv:Value)(ra:Option Addr)(rc n_:Nat)(id_:Int):
  Ctr Tryz.prog 32 #[vP b] [E4463d b pv sv rv ra n_ rc id_] (Ret (.bool true) [E4463d b pv sv rv ra n_ rc id_]):=by
 refine cB B32 22 Tryz.func32 ?_
 intro F
 exact gX [.e 0,.e 0,.e 0] (gQ b (gQ b (gQ b (gJ [0] ⟨rfl,rfl⟩))))
theorem k_idleP(b:Nat)(pv sv rv:Value)(ra:Option Addr)(rc n_:Nat)(id_:Int)(y:Nat)(x1 x2:Value):
  Ctr Tryz.prog 32 #[vP b] [E80d79 b (vP y) x1 x2 pv sv rv ra n_ rc id_] (Ret (.bool false) [E80d79 b (vP y) x1 x2 pv sv rv ra n_ rc id_]):=by
 refine cB B32 22 Tryz.func32 ?_
 intro F
 exact gX [.e 0] (gQ b (gJ [0] ⟨rfl,rfl⟩))
theorem k_idleS(b:Nat)(pv sv rv:Value)(ra:Option Addr)(rc n_:Nat)(id_:Int)(y:Nat)(x2:Value):
  Ctr Tryz.prog 32 #[vP b] [Ec2fa4 b (vP y) x2 pv sv rv ra n_ rc id_] (Ret (.bool false) [Ec2fa4 b (vP y) x2 pv sv rv ra n_ rc id_]):=by
 refine cB B32 22 Tryz.func32 ?_
 intro F
 exact gX [.e 0,.e 0] (gQ b (gQ b (gJ [0] ⟨rfl,rfl⟩)))
theorem k_idleR(b:Nat)(pv sv rv:Value)(ra:Option Addr)(rc n_:Nat)(id_:Int)(y:Nat):
  Ctr Tryz.prog 32 #[vP b] [E70a74 b (vP y) pv sv rv ra n_ rc id_] (Ret (.bool false) [E70a74 b (vP y) pv sv rv ra n_ rc id_]):=by
 refine cB B32 22 Tryz.func32 ?_
 intro F
 exact gX [.e 0,.e 0,.e 0] (gQ b (gQ b (gQ b (gJ [0] ⟨rfl,rfl⟩))))
noncomputable def B35: Code:=(Tryz.f35.body).getD .skip
theorem w_word(c:Cfg)(x ba rb:Nat)(now:Int)(kv mv:Value)(B:Ar)(hc:c.Ok)(hnB:B.ws.length=B.n)(hzB:(B.n:Int)=sizeOfC c):
  Ctr Tryz.prog 35 #[vP x] [E52593 x c (vP ba) (vP rb) kv mv now,E99bbc rb B false 0,E35fb1 B] (Ret (vU (B.ws.getD (ctlAt c 0).toNat 0)) [E52593 x c (vP ba) (vP rb) kv mv now,E99bbc rb B false 0,E35fb1 B]):=by
 refine cB B35 17 Tryz.func35 ?_
 intro F
 have h0:=ctl0_ok hc
 refine gX [.z [0,1] 0 [0]] (gS [.c [0,1],.c [1,1]] ?_)
 refine qG (kV 0 [.ww,.ww,.ww,.e 0,.ww,.ww,.e 1,.ww,.ww,.ww,.e 0,.q (vI (ctlAt c 0)),.h (.s 2),.h (.j 2 ((ctlAt c 0).toNat)),.ww]) [2] (.e x (.e rb (.e x (.p (B.aw=B.aw∧B.n=B.ws.length) ⟨rfl,(by first | rfl | omega | (simp; done) | (simp; omega))⟩ (.p ((0:Int)≤(ctlAt c 0)∧(ctlAt c 0)<((B.ws.length:Nat):Int)) (by omega) (.e (slAt B.aw ((ctlAt c 0).toNat) 1) (.p ((ctlAt c 0).toNat<B.ws.length) oW .n))))))) (.c Tryz.call79 (qR [] (ref_Control c 0 oM (by have h9:=hc; simp only [Cfg.Ok] at h9; first | omega | (simp only [InK]; omega)))) .n) ?_
 exact gX [] (gI (vU (B.ws.getD ((ctlAt c 0).toNat) 0)) [0,1,2] ⟨(congrArg (Value.int .u64) (by omega)),rfl⟩)
noncomputable def B69: Code:=(Tryz.f69.body).getD .skip
theorem w_put(c:Cfg)(x ba rb:Nat)(now:Int)(kv mv:Value)(A B:Ar)(v_:Int)(hc:c.Ok)(hnB:B.ws.length=B.n)(hzB:(B.n:Int)=sizeOfC c)(hnA:A.ws.length=A.n)(hzA:(A.n:Int)=sizeOfC c)(hsA:0≤A.steps∧A.steps≤1000000)(hsB:0≤B.steps∧B.steps≤1000000):
  Ctr Tryz.prog 69 #[vP x,vU v_] [E52593 x c (vP ba) (vP rb) kv mv now,E3504b ba A,E35fb1 A,E99bbc rb B false 0,E35fb1 B] (Ret (undef) [E52593 x c (vP ba) (vP rb) kv mv now,E3504b ba (A.store (ctlAt c 0) v_),E35fb1 (A.store (ctlAt c 0) v_),E99bbc rb (B.store (ctlAt c 0) v_) false 0,E35fb1 (B.store (ctlAt c 0) v_)]):=by
 refine cB B69 26 Tryz.func69 ?_
 intro F
 have h0:=ctl0_ok hc
 refine gX [.z [0] 0 [0,1]] (gS [.c [0],.c [1]] ?_)
 refine tC (some 14) (kV 0 [.ww,.ww,.ww,.e 0,.ww,.ww,.ww,.e 0,.q (vI (ctlAt c 0)),.ww]) 10 [] [1,2] [0,1] Tryz.call107 (arena_Store ba A (ctlAt c 0) v_ hnA (by omega) (by omega)) (.e x (.e x .n)) (.c Tryz.call48 (qR [] (plan_Control c 0 hc)) .n) ?_
 rintro v post ⟨rfl,rfl⟩
 refine tN .n ?_
 refine tC (some 25) (kV 0 [.ww,.ww,.ww,.e 0,.ww,.ww,.ww,.e 0,.q (vI (ctlAt c 0)),.ww]) 10 [] [1,2] [] Tryz.call84 (ref_Store rb B (ctlAt c 0) v_ hnB (by omega) (by omega)) (.e x (.e x .n)) (.c Tryz.call79 (qR [] (ref_Control c 0 oM (by have h9:=hc; simp only [Cfg.Ok] at h9; first | omega | (simp only [InK]; omega)))) .n) ?_
 rintro v post ⟨rfl,rfl⟩
 refine tN .n ?_
 exact gX [] (gJ [0,1,2,3,4] ⟨rfl,rfl⟩)
end Go.Proofs.YtpcaijopodhdgaaGreatDoor
namespace Go.Proofs.YtpcaijopodhdgaaGreatDoor
open Go.Sx
abbrev Ed2706(x0:Nat)(c1:Cfg)(x2:Value)(x3:Value)(x4:Option Addr)(x5:Nat)(x6:Nat)(x7:Option Addr)(x8:Nat)(x9:Nat)(x10:Int): Ent:=.pts x0 [.int .i64 c1.topics,.int .i64 c1.small,.int .i64 c1.slots,.int .i64 c1.clients,.int .i64 c1.s0,.int .i64 c1.n0,.int .i64 c1.s1,.int .i64 c1.n1,.int .i64 c1.retry,x2,x3,.slice x4 x5 x6,.slice x7 x8 x9,.int .u64 x10] 62
abbrev E2c643(x0:Nat)(x1:Value)(x2:Value)(x3:Value)(x4:Value)(x5:Value)(x6:Option Addr)(x7:Nat)(x8:Nat)(x9:Int): Ent:=.pts x0 [x1,.pointer none,x2,x3,x4,x5,.slice x6 x7 x8,.int .u64 x9] 74
abbrev q85_0: List Nat:=[0,1,1,1,1,1,1]
abbrev q85_1: List Nat:=[1,1,1,1,1,1,1]
abbrev q85_2: List Nat:=[1,0,1,0,1,1,1,1]
noncomputable def B27: Code:=(Tryz.f27.body).getD .skip
theorem w_whoa(c:Cfg)(x ba rb:Nat)(now:Int)(kv mv:Value)(wh n_:Int)(h4:bAnd .i64 wh 4=0):
  Ctr Tryz.prog 27 #[vP x,.agg #[vI wh,vI n_]] [E52593 x c (vP ba) (vP rb) kv mv now] (Ret (vI (bAnd .i64 wh 3)) [E52593 x c (vP ba) (vP rb) kv mv now]):=by
 refine cB B27 72 Tryz.func27 ?_
 intro F
 exact gX [.e 1,.sp [11,10] [.e 1] [.dead]] (gN fun b_1=>gQ b_1 (gQ ((bAnd .i64 wh 4)==0) (gT ((bAnd .i64 wh 4)==0) (beq_iff_eq.2 h4) (gQ b_1 (gJ [0] ⟨rfl,rfl⟩)))))
theorem w_whob(c:Cfg)(x ba rb:Nat)(now:Int)(kv mv:Value)(wh n_:Int)(h4:bAnd .i64 wh 4≠0)(h15:bAnd .i64 n_ 15≠0):
  Ctr Tryz.prog 27 #[vP x,.agg #[vI wh,vI n_]] [E52593 x c (vP ba) (vP rb) kv mv now] (Ret (vI (bAnd .i64 wh 3)) [E52593 x c (vP ba) (vP rb) kv mv now]):=by
 refine cB B27 72 Tryz.func27 ?_
 intro F
 exact gX [.e 1,.sp [11,10] [.dead] [.e 1,.sp [16,15] [.e 1] [.dead]]] (gN fun b_1=>gQ b_1 (gQ ((bAnd .i64 wh 4)==0) (gF ((bAnd .i64 wh 4)==0) (beq_eq_false_iff_ne.2 h4) (gQ b_1 (gQ ((bAnd .i64 n_ 15) != 0) (gT ((bAnd .i64 n_ 15) != 0) (bne_iff_ne.2 h15) (gQ b_1 (gJ [0] ⟨rfl,rfl⟩))))))))
theorem w_whoN(c:Cfg)(x ba rb:Nat)(now:Int)(ka ma:Option Addr)(kc mc:Nat)(ps:List Nat)(many:List Int)(A B:Ar)(wh n_:Int)(hc:c.Ok)(hnB:B.ws.length=B.n)(hzB:(B.n:Int)=sizeOfC c)(hnA:A.ws.length=A.n)(hzA:(A.n:Int)=sizeOfC c)(hsA:0≤A.steps∧A.steps≤900000)(hsB:0≤B.steps∧B.steps≤900000)(hwB:U64 (B.ws.getD (ctlAt c 0).toNat 0))(h4:bAnd .i64 wh 4≠0)(h15:bAnd .i64 n_ 15=0)(hbp:¬ctlBlock (B.ws.getD (ctlAt c 0).toNat 0)>0):
  Ctr Tryz.prog 27 #[vP x,.agg #[vI wh,vI n_]] [Ed2706 x c (vP ba) (vP rb) ka ps.length kc ma many.length mc now,E3504b ba A,E35fb1 A,E99bbc rb B false 0,E35fb1 B] (Ret (vI (-1)) [Ed2706 x c (vP ba) (vP rb) ka ps.length kc ma many.length mc 0,E3504b ba ((A.store (ctlAt c 0) (goneW (B.ws.getD (ctlAt c 0).toNat 0))).store (ctlAt c 0) (bornW (goneW (B.ws.getD (ctlAt c 0).toNat 0)))),E35fb1 ((A.store (ctlAt c 0) (goneW (B.ws.getD (ctlAt c 0).toNat 0))).store (ctlAt c 0) (bornW (goneW (B.ws.getD (ctlAt c 0).toNat 0)))),E99bbc rb ((B.store (ctlAt c 0) (goneW (B.ws.getD (ctlAt c 0).toNat 0))).store (ctlAt c 0) (bornW (goneW (B.ws.getD (ctlAt c 0).toNat 0)))) false 0,E35fb1 ((B.store (ctlAt c 0) (goneW (B.ws.getD (ctlAt c 0).toNat 0))).store (ctlAt c 0) (bornW (goneW (B.ws.getD (ctlAt c 0).toNat 0))))]):=by
 refine cB B27 72 Tryz.func27 ?_
 intro F
 refine gX [.e 5,.sp [11,10] [.dead] [.e 5,.sp [16,15] [.dead] [.z [0,1,1] 1 [0,3,20]]]] (gN fun b_1=>gQ b_1 (gQ ((bAnd .i64 wh 4)==0) (gF ((bAnd .i64 wh 4)==0) (beq_eq_false_iff_ne.2 h4) (gQ b_1 (gQ ((bAnd .i64 n_ 15) != 0) (gF ((bAnd .i64 n_ 15) != 0) (bne_eq_false_iff_eq.2 h15) (gS [.o [0,1,1] 1,.c [1,1,1]] ?_)))))))
 refine gC (some 21) [0,3,4] Tryz.call35 (w_word c x ba rb now (.slice ka ps.length kc) (.slice ma many.length mc) B hc (by first | assumption | (simp only [Ar.store,List.length_set]; assumption)) hzB) ?_
 refine gX [.z [0,1,1,1] 1 [0,3,5,22]] (gS [.o [0,1,1,1] 1,.c [1,1,1,1]] ?_)
 refine gC (some 23) [] Tryz.call34 (r13_Unpack (B.ws.getD (ctlAt c 0).toNat 0) (by first | exact hwB | exact goneW_rng hwB)) ?_
 refine gX [.sp [26] [.dead] [.z [0,1,1,1,1,1] 2 [0,5,60,61]]] (gF (decide ((ctlBlock (B.ws.getD (ctlAt c 0).toNat 0))>0)) (decide_eq_false hbp) (gS [.o [0,1,1,1,1,1] 2,.c [1,1,1,1,1,1]] ?_))
 refine gC (some 62) [] Tryz.call71 (r13_Gone (B.ws.getD (ctlAt c 0).toNat 0) (by first | exact hwB | exact goneW_rng hwB)) ?_
 refine gC (some 63) [3,0,1,4,5] Tryz.call69 (w_put c x ba rb now (.slice ka ps.length kc) (.slice ma many.length mc) A B (goneW (B.ws.getD (ctlAt c 0).toNat 0)) hc (by first | assumption | (simp only [Ar.store,List.length_set]; assumption)) hzB (by first | assumption | (simp only [Ar.store,List.length_set]; assumption)) hzA (by first | omega | (simp only [Ar.store]; omega)) (by first | omega | (simp only [Ar.store]; omega))) ?_
 refine gX [.z q85_0 2 [0,64,65]] (gS [.o q85_0 2,.c q85_1] ?_)
 refine gC (some 66) [] Tryz.call71 (r13_Gone (B.ws.getD (ctlAt c 0).toNat 0) (by first | exact hwB | exact goneW_rng hwB)) ?_
 refine gC (some 67) [] Tryz.call70 (r13_Born (goneW (B.ws.getD (ctlAt c 0).toNat 0)) (by first | exact hwB | exact goneW_rng hwB)) ?_
 refine gC (some 68) [1,2,3,4,5] Tryz.call69 (w_put c x ba rb now (.slice ka ps.length kc) (.slice ma many.length mc) (A.store (ctlAt c 0) (goneW (B.ws.getD (ctlAt c 0).toNat 0))) (B.store (ctlAt c 0) (goneW (B.ws.getD (ctlAt c 0).toNat 0))) (bornW (goneW (B.ws.getD (ctlAt c 0).toNat 0))) hc (by first | assumption | (simp only [Ar.store,List.length_set]; assumption)) hzB (by first | assumption | (simp only [Ar.store,List.length_set]; assumption)) hzA (by first | omega | (simp only [Ar.store]; omega)) (by first | omega | (simp only [Ar.store]; omega))) ?_
 exact gX [.e 1] (gQ x (gJ [1,2,3,4,5] ⟨rfl,rfl⟩))
theorem w_whoS(c:Cfg)(x ba rb:Nat)(now:Int)(ka ma:Option Addr)(kc mc:Nat)(ps:List Nat)(many:List Int)(wh n_:Int)(B:Ar)(y:Nat)(u1 u2 pv sv rv:Value)(ra:Option Addr)(rc:Nat)(id_:Int)(ret:List Int)(hc:c.Ok)(hnB:B.ws.length=B.n)(hzB:(B.n:Int)=sizeOfC c)(hps:ps.length=4)(hwB:U64 (B.ws.getD (ctlAt c 0).toNat 0))(h4:bAnd .i64 wh 4≠0)(h15:bAnd .i64 n_ 15=0)(hbp:ctlBlock (B.ws.getD (ctlAt c 0).toNat 0)>0):
  Ctr Tryz.prog 27 #[vP x,.agg #[vI wh,vI n_]] [Ed2706 x c (vP ba) (vP rb) ka ps.length kc ma many.length mc now,.sl ka kc encP 0 1 ps 68,E80d79 (ps.getD 0 0) u1 (vP y) u2 pv sv rv ra ret.length rc id_,E99bbc rb B false 0,E35fb1 B] (Ret (vI (bAnd .i64 wh 3)) [Ed2706 x c (vP ba) (vP rb) ka ps.length kc ma many.length mc now,.sl ka kc encP 0 1 ps 68,E80d79 (ps.getD 0 0) u1 (vP y) u2 pv sv rv ra ret.length rc id_,E99bbc rb B false 0,E35fb1 B]):=by
 refine cB B27 72 Tryz.func27 ?_
 intro F
 refine gX [.e 5,.sp [11,10] [.dead] [.e 5,.sp [16,15] [.dead] [.z [0,1,1] 1 [0,3,20]]]] (gN fun b_1=>gQ b_1 (gQ ((bAnd .i64 wh 4)==0) (gF ((bAnd .i64 wh 4)==0) (beq_eq_false_iff_ne.2 h4) (gQ b_1 (gQ ((bAnd .i64 n_ 15) != 0) (gF ((bAnd .i64 n_ 15) != 0) (bne_eq_false_iff_eq.2 h15) (gS [.o [0,1,1] 1,.c [1,1,1]] ?_)))))))
 refine gC (some 21) [0,3,4] Tryz.call35 (w_word c x ba rb now (.slice ka ps.length kc) (.slice ma many.length mc) B hc (by first | assumption | (simp only [Ar.store,List.length_set]; assumption)) hzB) ?_
 refine gX [.z [0,1,1,1] 1 [0,3,5,22]] (gS [.o [0,1,1,1] 1,.c [1,1,1,1]] ?_)
 refine gC (some 23) [] Tryz.call34 (r13_Unpack (B.ws.getD (ctlAt c 0).toNat 0) (by first | exact hwB | exact goneW_rng hwB)) ?_
 exact gX [.sp [26] [.e 3,.s 0,.j 0 0,.e 1,.e 2] [.dead]] (gT (decide ((ctlBlock (B.ws.getD (ctlAt c 0).toNat 0))>0)) (decide_eq_true hbp) (gQ x (gO (ka=ka∧ps.length=ps.length) ⟨rfl,(by first | rfl | omega | (simp; done) | (simp; omega))⟩ (gO ((0:Int)≤0∧0<((ps.length:Nat):Int)) (by omega) (gQ (slAt ka 0 1) (gO (0<ps.length) oW (gQ (ps.getD 0 0) (gQ b_1 (gJ [3,0,1,4,5] ⟨rfl,rfl⟩)))))))))
theorem w_whoR(c:Cfg)(x ba rb:Nat)(now:Int)(ka ma:Option Addr)(kc mc:Nat)(ps:List Nat)(many:List Int)(A B:Ar)(wh n_:Int)(u1 u2 pv sv rv:Value)(ra:Option Addr)(rc:Nat)(id_:Int)(ret:List Int)(hc:c.Ok)(hnB:B.ws.length=B.n)(hzB:(B.n:Int)=sizeOfC c)(hnA:A.ws.length=A.n)(hzA:(A.n:Int)=sizeOfC c)(hsA:0≤A.steps∧A.steps≤900000)(hsB:0≤B.steps∧B.steps≤900000)(hwB:U64 (B.ws.getD (ctlAt c 0).toNat 0))(hps:ps.length=4)(hl:ret.length≤1000)(h4:bAnd .i64 wh 4≠0)(h15:bAnd .i64 n_ 15=0)(hbp:ctlBlock (B.ws.getD (ctlAt c 0).toNat 0)>0):
  Ctr Tryz.prog 27 #[vP x,.agg #[vI wh,vI n_]] [Ed2706 x c (vP ba) (vP rb) ka ps.length kc ma many.length mc now,.sl ka kc encP 0 1 ps 68,E2c643 (ps.getD 0 0) u1 u2 pv sv rv ra ret.length rc id_,Ee1326 ra rc ret,E3504b ba A,E35fb1 A,E99bbc rb B false 0,E35fb1 B] (fun v L => ∃(ra2:Option Addr) (rc2:Nat),v=vI (-1)∧L=[Ed2706 x c (vP ba) (vP rb) ka ps.length kc ma many.length mc 0,.sl ka kc encP 0 1 ps 68,E2c643 (ps.getD 0 0) u1 u2 pv sv rv ra2 ((ret++[ctlBlock (B.ws.getD (ctlAt c 0).toNat 0)]).length) rc2 id_,Ee1326 ra2 rc2 (ret++[ctlBlock (B.ws.getD (ctlAt c 0).toNat 0)]),E3504b ba ((A.store (ctlAt c 0) (goneW (B.ws.getD (ctlAt c 0).toNat 0))).store (ctlAt c 0) (bornW (goneW (B.ws.getD (ctlAt c 0).toNat 0)))),E35fb1 ((A.store (ctlAt c 0) (goneW (B.ws.getD (ctlAt c 0).toNat 0))).store (ctlAt c 0) (bornW (goneW (B.ws.getD (ctlAt c 0).toNat 0)))),E99bbc rb ((B.store (ctlAt c 0) (goneW (B.ws.getD (ctlAt c 0).toNat 0))).store (ctlAt c 0) (bornW (goneW (B.ws.getD (ctlAt c 0).toNat 0)))) false 0,E35fb1 ((B.store (ctlAt c 0) (goneW (B.ws.getD (ctlAt c 0).toNat 0))).store (ctlAt c 0) (bornW (goneW (B.ws.getD (ctlAt c 0).toNat 0))))]):=by
 refine cB B27 72 Tryz.func27 ?_
 intro F
 refine gX [.e 8,.sp [11,10] [.dead] [.e 8,.sp [16,15] [.dead] [.z [0,1,1] 1 [0,3,20]]]] (gN fun b_1=>gQ b_1 (gQ ((bAnd .i64 wh 4)==0) (gF ((bAnd .i64 wh 4)==0) (beq_eq_false_iff_ne.2 h4) (gQ b_1 (gQ ((bAnd .i64 n_ 15) != 0) (gF ((bAnd .i64 n_ 15) != 0) (bne_eq_false_iff_eq.2 h15) (gS [.o [0,1,1] 1,.c [1,1,1]] ?_)))))))
 refine gC (some 21) [0,6,7] Tryz.call35 (w_word c x ba rb now (.slice ka ps.length kc) (.slice ma many.length mc) B hc (by first | assumption | (simp only [Ar.store,List.length_set]; assumption)) hzB) ?_
 refine gX [.z [0,1,1,1] 1 [0,3,5,22]] (gS [.o [0,1,1,1] 1,.c [1,1,1,1]] ?_)
 refine gC (some 23) [] Tryz.call34 (r13_Unpack (B.ws.getD (ctlAt c 0).toNat 0) (by first | exact hwB | exact goneW_rng hwB)) ?_
 refine gX [.sp [26] [.e 6,.s 0,.j 0 0,.e 1,.z q85_2 0 [0,5,6]] [.dead]] (gT (decide ((ctlBlock (B.ws.getD (ctlAt c 0).toNat 0))>0)) (decide_eq_true hbp) (gQ x (gO (ka=ka∧ps.length=ps.length) ⟨rfl,(by first | rfl | omega | (simp; done) | (simp; omega))⟩ (gO ((0:Int)≤0∧0<((ps.length:Nat):Int)) (by omega) (gQ (slAt ka 0 1) (gO (0<ps.length) oW (gQ (ps.getD 0 0) (gS [.c q85_2,.c [1,1,1,1,1]] ?_))))))))
 refine zG ?_
 refine zN [0,1,2,3,4,5,6,7,8,9,10,11,12,13,14,15] (kV 0 [.w,.w,.w,.e 6,.h (.s 0),.h (.j 0 0),.w,.w,.w,.e 6,.h (.s 0),.h (.j 0 0),.w,.w,.e 1,.w]) [0,5,6,40,41,42,43,44,45,46,47,48,49,50,51,52,53,54,55] [16] (.e x (.p (ka=ka∧ps.length=ps.length) ⟨rfl,(by first | rfl | omega | (simp; done) | (simp; omega))⟩ (.p ((0:Int)≤0∧0<((ps.length:Nat):Int)) (by omega) (.e (slAt ka 0 1) (.p (0<ps.length) oW (.e x (.p (ka=ka∧ps.length=ps.length) ⟨rfl,(by first | rfl | omega | (simp; done) | (simp; omega))⟩ (.p ((0:Int)≤0∧0<((ps.length:Nat):Int)) (by omega) (.e (slAt ka 0 1) (.p (0<ps.length) oW (.e (ps.getD 0 0) .n))))))))))) ⟨?_,trivial⟩
 refine zX .w (sN fun b_16_1=>(sV ?_))
 refine zN [] (kV 0 [.w,.w,.w,.e 6,.h (.s 0),.h (.j 0 0),.w,.w,.w,.e 6,.h (.s 0),.h (.j 0 0),.w,.w,.e 1]) [56,0,5,40,41,42,43,44,45,46,47,48,49,50,51,52,53,54] [17] (.e x (.p (ka=ka∧ps.length=ps.length) ⟨rfl,(by first | rfl | omega | (simp; done) | (simp; omega))⟩ (.p ((0:Int)≤0∧0<((ps.length:Nat):Int)) (by omega) (.e (slAt ka 0 1) (.p (0<ps.length) oW (.e x (.p (ka=ka∧ps.length=ps.length) ⟨rfl,(by first | rfl | omega | (simp; done) | (simp; omega))⟩ (.p ((0:Int)≤0∧0<((ps.length:Nat):Int)) (by omega) (.e (slAt ka 0 1) (.p (0<ps.length) oW (.e (ps.getD 0 0) .n))))))))))) ⟨?_,trivial⟩
 refine zB (some 57) (appO Tryz.prog _) (some (.slice ra (ret).length rc,.slice (some ⟨b_16_1,0,none⟩) 1 1,(3,1,8))) (R_append 2 (a:=ra) (c:=rc) (enc:=encI .i64) (d:=0) (sz:=1) (xs:=ret) (te:=3) kR (.slice (some ⟨b_16_1,0,none⟩) 1 1) [(ctlBlock (B.ws.getD (ctlAt c 0).toNat 0))] (src_pts (i:=9) (t:=3) kR) (oneI _) 8 oW oW) ?_
 rintro v L2 ⟨a_17_1,c_17_1,rfl,rfl⟩
 refine zN [18,19] (kV 0 [.w,.w,.w,.e 6,.h (.s 0),.h (.j 0 0)]++kV 18 [.w,.w]) [57,0,5,40,41,42,43,44,45,58,59] [20] (.e x (.p (ka=ka∧ps.length=ps.length) ⟨rfl,(by first | rfl | omega | (simp; done) | (simp; omega))⟩ (.p ((0:Int)≤0∧0<((ps.length:Nat):Int)) (by omega) (.e (slAt ka 0 1) (.p (0<ps.length) oW .n))))) ⟨?_,trivial⟩
 refine zX (.e 1) (sQ (ps.getD 0 0) (sK ?_))
 refine zE [] [] [0,5] .n ?_
 refine gX [.z [0,1,1,1,1,1] 2 [0,5,60,61]] (gS [.o [0,1,1,1,1,1] 2,.c [1,1,1,1,1,1]] ?_)
 refine gC (some 62) [] Tryz.call71 (r13_Gone (B.ws.getD (ctlAt c 0).toNat 0) (by first | exact hwB | exact goneW_rng hwB)) ?_
 refine gC (some 63) [6,3,4,7,8] Tryz.call69 (w_put c x ba rb now (.slice ka ps.length kc) (.slice ma many.length mc) A B (goneW (B.ws.getD (ctlAt c 0).toNat 0)) hc (by first | assumption | (simp only [Ar.store,List.length_set]; assumption)) hzB (by first | assumption | (simp only [Ar.store,List.length_set]; assumption)) hzA (by first | omega | (simp only [Ar.store]; omega)) (by first | omega | (simp only [Ar.store]; omega))) ?_
 refine gX [.z q85_0 2 [0,64,65]] (gS [.o q85_0 2,.c q85_1] ?_)
 refine gC (some 66) [] Tryz.call71 (r13_Gone (B.ws.getD (ctlAt c 0).toNat 0) (by first | exact hwB | exact goneW_rng hwB)) ?_
 refine gC (some 67) [] Tryz.call70 (r13_Born (goneW (B.ws.getD (ctlAt c 0).toNat 0)) (by first | exact hwB | exact goneW_rng hwB)) ?_
 refine gC (some 68) [5,6,7,8,9] Tryz.call69 (w_put c x ba rb now (.slice ka ps.length kc) (.slice ma many.length mc) (A.store (ctlAt c 0) (goneW (B.ws.getD (ctlAt c 0).toNat 0))) (B.store (ctlAt c 0) (goneW (B.ws.getD (ctlAt c 0).toNat 0))) (bornW (goneW (B.ws.getD (ctlAt c 0).toNat 0))) hc (by first | assumption | (simp only [Ar.store,List.length_set]; assumption)) hzB (by first | assumption | (simp only [Ar.store,List.length_set]; assumption)) hzA (by first | omega | (simp only [Ar.store]; omega)) (by first | omega | (simp only [Ar.store]; omega))) ?_
 exact gX [.e 5] (gQ x (gJ [5,0,1,2,6,7,8,9] ⟨a_17_1,c_17_1,rfl,rfl⟩))
end Go.Proofs.YtpcaijopodhdgaaGreatDoor
namespace Go.Proofs.YtpcaijopodhdgaaGreatDoor
open Go.Sx
abbrev q86_0: List Nat:=[0,1,1,0,1,0,1,1]
abbrev q86_1: List Nat:=[1,1,1,0,1,0,1,1]
abbrev q86_2: List Nat:=[0,1,0,1,1,1,0,1,0,1,1]
abbrev q86_3: List Nat:=[1,1,1,1,0,1,0,1,1]
abbrev q86_4: List Nat:=[0,0,1,1,1,1,0,1,0,1,1]
abbrev q86_5: List Nat:=[1,0,1,1,1,1,0,1,0,1,1]
abbrev q86_6: List Nat:=[1,1,1,1,1,0,1,0,1,1]
abbrev q86_7: List Nat:=[0,1,1,1,1,1,1,0,1,0,1,1]
abbrev q86_8: List Nat:=[1,1,1,1,1,1,1,0,1,0,1,1]
abbrev q86_9: List Nat:=[0,0,1,0,1,1,1]
abbrev q86_10: List Nat:=[1,0,1,0,1,1,1]
abbrev q86_11: List Nat:=[0,1,0,1,0,1,1,1]
abbrev q86_12: List Nat:=[1,1,0,1,0,1,1,1]
abbrev q86_13: List Nat:=[0,0,1,1,1,1,1]
abbrev q86_14: List Nat:=[1,0,1,1,1,1,1]
abbrev q86_15: List Nat:=[0,1,1,1,1,1,1]
abbrev q86_16: List Nat:=[0,1,1,1,1,1,1,1,1]
noncomputable def B29: Code:=(Tryz.f29.body).getD .skip
theorem w_stepI(c:Cfg)(x ba rb:Nat)(now:Int)(ka ma:Option Addr)(kc mc:Nat)(ps:List Nat)(many:List Int)(A:Ar)(i:Int)(pv sv rv:Value)(ra:Option Addr)(rc:Nat)(id_:Int)(ret:List Int)(hi:0≤i∧i<4)(hps:ps.length=4):
  Ctr Tryz.prog 29 #[vP x,vI i] [Ed2706 x c (vP ba) (vP rb) ka ps.length kc ma many.length mc now,.sl ka kc encP 0 1 ps 68,E4463d (ps.getD i.toNat 0) pv sv rv ra ret.length rc id_] (Ret (.tuple #[.slice none 0 0,vI 1,.bool true]) [Ed2706 x c (vP ba) (vP rb) ka ps.length kc ma many.length mc now,.sl ka kc encP 0 1 ps 68,E4463d (ps.getD i.toNat 0) pv sv rv ra ret.length rc id_]):=by
 refine cB B29 128 Tryz.func29 ?_
 intro F
 exact gX [.e 0,.s 1,.j 1 i.toNat,.e 2,.e 2,.e 2] (gQ x (gO (ka=ka∧ps.length=ps.length) ⟨rfl,(by first | rfl | omega | (simp; done) | (simp; omega))⟩ (gO ((0:Int)≤i∧i<((ps.length:Nat):Int)) (by omega) (gQ (slAt ka i.toNat 1) (gO (i.toNat<ps.length) oW (gQ (ps.getD i.toNat 0) (gQ (ps.getD i.toNat 0) (gQ (ps.getD i.toNat 0) (gJ [0,1,2] ⟨rfl,rfl⟩)))))))))
theorem w_stepPN(c:Cfg)(x ba rb:Nat)(now:Int)(ka ma:Option Addr)(kc mc:Nat)(ps:List Nat)(many:List Int)(A:Ar)(i:Int)(pv sv rv:Value)(ra:Option Addr)(rc:Nat)(id_:Int)(ret:List Int)(y:Nat)(wd ep:Int)(ws:List Int)(S:Pb)(u1 u2:Value)(hi:0≤i∧i<4)(hps:ps.length=4)(hc:c.Ok)(hn:A.ws.length=A.n)(hs:0≤A.steps∧A.steps≤1000000)(hz:(A.n:Int)=sizeOfC c)(hR:RngW A.ws)(hwd:0≤wd∧wd<A.n)(hS:S.Ok c ws)(hd:(S.step c wd ep ws A).1.ph≠0):
  Ctr Tryz.prog 29 #[vP x,vI i] [Ed2706 x c (vP ba) (vP rb) ka ps.length kc ma many.length mc now,.sl ka kc encP 0 1 ps 68,E80d79 (ps.getD i.toNat 0) (vP y) u1 u2 pv sv rv ra ret.length rc id_,.res (PbR y c wd ep ws S),E3504b ba A,E35fb1 A] (Ret (.tuple #[.slice none 0 0,vI 0,.bool false]) [Ed2706 x c (vP ba) (vP rb) ka ps.length kc ma many.length mc now,.sl ka kc encP 0 1 ps 68,E80d79 (ps.getD i.toNat 0) (vP y) u1 u2 pv sv rv ra ret.length rc id_,.res (PbR y c wd ep ws ((S.step c wd ep ws A).1)),E3504b ba ((S.step c wd ep ws A).2),E35fb1 ((S.step c wd ep ws A).2)]):=by
 refine cB B29 128 Tryz.func29 ?_
 intro F
 refine gX [.e 0,.s 1,.j 1 i.toNat,.e 2,.z [0,0,1,0,1,1] 0 [0,7]] (gQ x (gO (ka=ka∧ps.length=ps.length) ⟨rfl,(by first | rfl | omega | (simp; done) | (simp; omega))⟩ (gO ((0:Int)≤i∧i<((ps.length:Nat):Int)) (by omega) (gQ (slAt ka i.toNat 1) (gO (i.toNat<ps.length) oW (gQ (ps.getD i.toNat 0) (gS [.c [0,0,1,0,1,1],.c [1,0,1,0,1,1],.c [1,1,1]] ?_)))))))
 refine tC (some 34) (kV 0 [.ww,.ww,.ww,.e 2,.ww,.ww,.ww,.e 0]) 8 (kV 9 [.ww]) [3,4,5] [0,7,8] Tryz.call15 (pub_Step y ba c wd ep ws S A hc hn (by omega) hz hR hwd hS) (.e (ps.getD i.toNat 0) (.e x .n)) .n ?_
 rintro v post ⟨rfl,rfl⟩
 refine tN .n ?_
 exact gX [.sp [36] [] [.dead]] (gT (!((S.step c wd ep ws A).1.ph==0)) (by rw [beq_eq_false_iff_ne.2 hd]; rfl) (gJ [0,1,2,3,4,5] ⟨rfl,rfl⟩))
theorem w_stepPDYK(c:Cfg)(x ba rb:Nat)(now:Int)(ka ma:Option Addr)(kc mc:Nat)(ps:List Nat)(many:List Int)(A:Ar)(i:Int)(pv sv rv:Value)(ra:Option Addr)(rc:Nat)(id_:Int)(ret:List Int)(y:Nat)(wd ep:Int)(ws:List Int)(S:Pb)(u1 u2:Value)(o_:Obj)(hi:0≤i∧i<4)(hps:ps.length=4)(hc:c.Ok)(hn:A.ws.length=A.n)(hs:0≤A.steps∧A.steps≤1000000)(hz:(A.n:Int)=sizeOfC c)(hR:RngW A.ws)(hwd:0≤wd∧wd<A.n)(hS:S.Ok c ws)(hd:(S.step c wd ep ws A).1.ph=0)(ho1:(Pb.told (S.step c wd ep ws A).1).1>0)(hk1:(Pb.told (S.step c wd ep ws A).1).2=0)(hl:ret.length≤1000)(ho:IsH o_):
  Ctr Tryz.prog 29 #[vP x,vI i] [.raw 0 o_,Ed2706 x c (vP ba) (vP rb) ka ps.length kc ma many.length mc now,.sl ka kc encP 0 1 ps 68,E80d79 (ps.getD i.toNat 0) (vP y) u1 u2 pv sv rv ra ret.length rc id_,Ee1326 ra rc ret,.res (PbR y c wd ep ws S),E3504b ba A,E35fb1 A] (fun v L => ∃(ra2:Option Addr) (rc2:Nat),v = .tuple #[.slice none 0 0,vI ((Pb.told (S.step c wd ep ws A).1).2),.bool true]∧L=[.raw 0 o_,Ed2706 x c (vP ba) (vP rb) ka ps.length kc ma many.length mc id_,.sl ka kc encP 0 1 ps 68,Ec2fa4 (ps.getD i.toNat 0) u1 u2 pv sv rv ra2 ((ret++[(Pb.told (S.step c wd ep ws A).1).1]).length) rc2 id_,Ee1326 ra2 rc2 (ret++[(Pb.told (S.step c wd ep ws A).1).1]),.res (PbR y c wd ep ws ((S.step c wd ep ws A).1)),E3504b ba ((S.step c wd ep ws A).2),E35fb1 ((S.step c wd ep ws A).2)]):=by
 refine cB B29 128 Tryz.func29 ?_
 intro F
 refine gX [.e 1,.s 2,.j 2 i.toNat,.e 3,.z [0,0,1,0,1,1] 0 [0,7]] (gQ x (gO (ka=ka∧ps.length=ps.length) ⟨rfl,(by first | rfl | omega | (simp; done) | (simp; omega))⟩ (gO ((0:Int)≤i∧i<((ps.length:Nat):Int)) (by omega) (gQ (slAt ka i.toNat 1) (gO (i.toNat<ps.length) oW (gQ (ps.getD i.toNat 0) (gS [.c [0,0,1,0,1,1],.c [1,0,1,0,1,1],.c [1,1,1]] ?_)))))))
 refine tC (some 34) (kV 0 [.ww,.ww,.ww,.e 3,.ww,.ww,.ww,.e 1]) 8 (kV 9 [.ww]) [5,6,7] [0,7,8] Tryz.call15 (pub_Step y ba c wd ep ws S A hc hn (by omega) hz hR hwd hS) (.e (ps.getD i.toNat 0) (.e x .n)) .n ?_
 rintro v post ⟨rfl,rfl⟩
 refine tN .n ?_
 refine gX [.sp [36] [.dead] [.e 3,.z q86_0 4 [0,7,41]]] (gF (!((S.step c wd ep ws A).1.ph==0)) (by rw [beq_iff_eq.2 hd]; rfl) (gQ (ps.getD i.toNat 0) (gS [.o q86_0 4,.c q86_1,.c [1,1,1]] ?_)))
 refine gC (some 42) [5] Tryz.call10 (pub_Told y c wd ep ws ((S.step c wd ep ws A).1) (by omega)) ?_
 refine gX [.sp [46] [.e 3,.z q86_2 7 [0,7,10,47,51,53]] [.dead]] (gT (decide (((Pb.told ((S.step c wd ep ws A).1)).1)>0)) (decide_eq_true ho1) (gQ (ps.getD i.toNat 0) (gN fun b_1=>gW (ks:=[.o q86_2 7,.c q86_3,.c [1,1,1]]) [(0,vP x),(7,vP (ps.getD i.toNat 0)),(10,(errV (Pb.told ((S.step c wd ep ws A).1)).2)),(47,vP (ps.getD i.toNat 0)),(51,.slice ra ret.length rc),(53,.slice (some ⟨b_1,0,none⟩) 1 1)] [.raw 0 o_,Ed2706 x c (vP ba) (vP rb) ka ps.length kc ma many.length mc now,.sl ka kc encP 0 1 ps 68,E80d79 (ps.getD i.toNat 0) (vP y) u1 u2 pv sv rv ra ret.length rc id_,Ee1326 ra rc ret,E3504b ba ((S.step c wd ep ws A).2),E35fb1 ((S.step c wd ep ws A).2),.res (PbR y c wd ep ws ((S.step c wd ep ws A).1)),.pts b_1 [vI ((Pb.told ((S.step c wd ep ws A).1)).1)] 3] ?_)))
 refine go_by (some 54) (appO Tryz.prog _) (some (.slice ra (ret).length rc,.slice (some ⟨b_1,0,none⟩) 1 1,(3,1,8))) (R_append 4 (a:=ra) (c:=rc) (enc:=encI .i64) (d:=0) (sz:=1) (xs:=ret) (te:=3) kR (.slice (some ⟨b_1,0,none⟩) 1 1) [((Pb.told ((S.step c wd ep ws A).1)).1)] (src_pts (i:=8) (t:=3) kR) (oneI _) 8 oW oW) kR ?_
 rintro v L2 ⟨a_2,c_3,rfl,rfl⟩
 refine gX [.e 3,.z q86_4 1 [0,7,10,57]] (gQ (ps.getD i.toNat 0) (gS [.o q86_4 1,.c q86_5,.c q86_6,.c [1,1,1]] ?_))
 refine gC (some 58) [0] Tryz.call17 (cause_Top o_ ((Pb.told ((S.step c wd ep ws A).1)).2) ho) ?_
 refine gX [.sp [59] [.e 2,.e 0,.e 2,.z q86_7 1 [70]] [.dead]] (gT (((Pb.told ((S.step c wd ep ws A).1)).2)==0) (beq_iff_eq.2 hk1) (gQ (ps.getD i.toNat 0) (gQ x (gQ (ps.getD i.toNat 0) (gS [.o q86_7 1,.c q86_8,.c [1,1,1]] ?_)))))
 refine gC (some 71) [8] Tryz.call17 (cause_Top o_ ((Pb.told ((S.step c wd ep ws A).1)).2) ho) ?_
 exact gX [] (gI (.tuple #[.slice none 0 0,vI ((Pb.told ((S.step c wd ep ws A).1)).2),.bool true]) [8,0,1,2,3,6,4,5] ⟨a_2,c_3,kR,rfl⟩)
theorem w_stepPDYE(c:Cfg)(x ba rb:Nat)(now:Int)(ka ma:Option Addr)(kc mc:Nat)(ps:List Nat)(many:List Int)(A:Ar)(i:Int)(pv sv rv:Value)(ra:Option Addr)(rc:Nat)(id_:Int)(ret:List Int)(y:Nat)(wd ep:Int)(ws:List Int)(S:Pb)(u1 u2:Value)(o_:Obj)(hi:0≤i∧i<4)(hps:ps.length=4)(hc:c.Ok)(hn:A.ws.length=A.n)(hs:0≤A.steps∧A.steps≤1000000)(hz:(A.n:Int)=sizeOfC c)(hR:RngW A.ws)(hwd:0≤wd∧wd<A.n)(hS:S.Ok c ws)(hd:(S.step c wd ep ws A).1.ph=0)(ho1:(Pb.told (S.step c wd ep ws A).1).1>0)(hk1:(Pb.told (S.step c wd ep ws A).1).2≠0)(hl:ret.length≤1000)(ho:IsH o_):
  Ctr Tryz.prog 29 #[vP x,vI i] [.raw 0 o_,Ed2706 x c (vP ba) (vP rb) ka ps.length kc ma many.length mc now,.sl ka kc encP 0 1 ps 68,E80d79 (ps.getD i.toNat 0) (vP y) u1 u2 pv sv rv ra ret.length rc id_,Ee1326 ra rc ret,.res (PbR y c wd ep ws S),E3504b ba A,E35fb1 A] (fun v L => ∃(ra2:Option Addr) (rc2:Nat),v = .tuple #[.slice none 0 0,vI ((Pb.told (S.step c wd ep ws A).1).2),.bool true]∧L=[.raw 0 o_,Ed2706 x c (vP ba) (vP rb) ka ps.length kc ma many.length mc now,.sl ka kc encP 0 1 ps 68,Ec2fa4 (ps.getD i.toNat 0) u1 u2 pv sv rv ra2 ((ret++[(Pb.told (S.step c wd ep ws A).1).1]).length) rc2 id_,Ee1326 ra2 rc2 (ret++[(Pb.told (S.step c wd ep ws A).1).1]),.res (PbR y c wd ep ws ((S.step c wd ep ws A).1)),E3504b ba ((S.step c wd ep ws A).2),E35fb1 ((S.step c wd ep ws A).2)]):=by
 refine cB B29 128 Tryz.func29 ?_
 intro F
 refine gX [.e 1,.s 2,.j 2 i.toNat,.e 3,.z [0,0,1,0,1,1] 0 [0,7]] (gQ x (gO (ka=ka∧ps.length=ps.length) ⟨rfl,(by first | rfl | omega | (simp; done) | (simp; omega))⟩ (gO ((0:Int)≤i∧i<((ps.length:Nat):Int)) (by omega) (gQ (slAt ka i.toNat 1) (gO (i.toNat<ps.length) oW (gQ (ps.getD i.toNat 0) (gS [.c [0,0,1,0,1,1],.c [1,0,1,0,1,1],.c [1,1,1]] ?_)))))))
 refine tC (some 34) (kV 0 [.ww,.ww,.ww,.e 3,.ww,.ww,.ww,.e 1]) 8 (kV 9 [.ww]) [5,6,7] [0,7,8] Tryz.call15 (pub_Step y ba c wd ep ws S A hc hn (by omega) hz hR hwd hS) (.e (ps.getD i.toNat 0) (.e x .n)) .n ?_
 rintro v post ⟨rfl,rfl⟩
 refine tN .n ?_
 refine gX [.sp [36] [.dead] [.e 3,.z q86_0 4 [0,7,41]]] (gF (!((S.step c wd ep ws A).1.ph==0)) (by rw [beq_iff_eq.2 hd]; rfl) (gQ (ps.getD i.toNat 0) (gS [.o q86_0 4,.c q86_1,.c [1,1,1]] ?_)))
 refine gC (some 42) [5] Tryz.call10 (pub_Told y c wd ep ws ((S.step c wd ep ws A).1) (by omega)) ?_
 refine gX [.sp [46] [.e 3,.z q86_2 7 [0,7,10,47,51,53]] [.dead]] (gT (decide (((Pb.told ((S.step c wd ep ws A).1)).1)>0)) (decide_eq_true ho1) (gQ (ps.getD i.toNat 0) (gN fun b_1=>gW (ks:=[.o q86_2 7,.c q86_3,.c [1,1,1]]) [(0,vP x),(7,vP (ps.getD i.toNat 0)),(10,(errV (Pb.told ((S.step c wd ep ws A).1)).2)),(47,vP (ps.getD i.toNat 0)),(51,.slice ra ret.length rc),(53,.slice (some ⟨b_1,0,none⟩) 1 1)] [.raw 0 o_,Ed2706 x c (vP ba) (vP rb) ka ps.length kc ma many.length mc now,.sl ka kc encP 0 1 ps 68,E80d79 (ps.getD i.toNat 0) (vP y) u1 u2 pv sv rv ra ret.length rc id_,Ee1326 ra rc ret,E3504b ba ((S.step c wd ep ws A).2),E35fb1 ((S.step c wd ep ws A).2),.res (PbR y c wd ep ws ((S.step c wd ep ws A).1)),.pts b_1 [vI ((Pb.told ((S.step c wd ep ws A).1)).1)] 3] ?_)))
 refine go_by (some 54) (appO Tryz.prog _) (some (.slice ra (ret).length rc,.slice (some ⟨b_1,0,none⟩) 1 1,(3,1,8))) (R_append 4 (a:=ra) (c:=rc) (enc:=encI .i64) (d:=0) (sz:=1) (xs:=ret) (te:=3) kR (.slice (some ⟨b_1,0,none⟩) 1 1) [((Pb.told ((S.step c wd ep ws A).1)).1)] (src_pts (i:=8) (t:=3) kR) (oneI _) 8 oW oW) kR ?_
 rintro v L2 ⟨a_2,c_3,rfl,rfl⟩
 refine gX [.e 3,.z q86_4 1 [0,7,10,57]] (gQ (ps.getD i.toNat 0) (gS [.o q86_4 1,.c q86_5,.c q86_6,.c [1,1,1]] ?_))
 refine gC (some 58) [0] Tryz.call17 (cause_Top o_ ((Pb.told ((S.step c wd ep ws A).1)).2) ho) ?_
 refine gX [.sp [59] [.dead] [.e 2,.z q86_7 1 [70]]] (gF (((Pb.told ((S.step c wd ep ws A).1)).2)==0) (beq_eq_false_iff_ne.2 hk1) (gQ (ps.getD i.toNat 0) (gS [.o q86_7 1,.c q86_8,.c [1,1,1]] ?_)))
 refine gC (some 71) [8] Tryz.call17 (cause_Top o_ ((Pb.told ((S.step c wd ep ws A).1)).2) ho) ?_
 exact gX [] (gI (.tuple #[.slice none 0 0,vI ((Pb.told ((S.step c wd ep ws A).1)).2),.bool true]) [8,0,1,2,3,6,4,5] ⟨a_2,c_3,kR,rfl⟩)
theorem w_stepPDNK(c:Cfg)(x ba rb:Nat)(now:Int)(ka ma:Option Addr)(kc mc:Nat)(ps:List Nat)(many:List Int)(A:Ar)(i:Int)(pv sv rv:Value)(ra:Option Addr)(rc:Nat)(id_:Int)(ret:List Int)(y:Nat)(wd ep:Int)(ws:List Int)(S:Pb)(u1 u2:Value)(o_:Obj)(hi:0≤i∧i<4)(hps:ps.length=4)(hc:c.Ok)(hn:A.ws.length=A.n)(hs:0≤A.steps∧A.steps≤1000000)(hz:(A.n:Int)=sizeOfC c)(hR:RngW A.ws)(hwd:0≤wd∧wd<A.n)(hS:S.Ok c ws)(hd:(S.step c wd ep ws A).1.ph=0)(ho1:¬(Pb.told (S.step c wd ep ws A).1).1>0)(hk1:(Pb.told (S.step c wd ep ws A).1).2=0)(hl:ret.length≤1000)(ho:IsH o_):
  Ctr Tryz.prog 29 #[vP x,vI i] [.raw 0 o_,Ed2706 x c (vP ba) (vP rb) ka ps.length kc ma many.length mc now,.sl ka kc encP 0 1 ps 68,E80d79 (ps.getD i.toNat 0) (vP y) u1 u2 pv sv rv ra ret.length rc id_,Ee1326 ra rc ret,.res (PbR y c wd ep ws S),E3504b ba A,E35fb1 A] (Ret (.tuple #[.slice none 0 0,vI ((Pb.told (S.step c wd ep ws A).1).2),.bool true]) [.raw 0 o_,Ed2706 x c (vP ba) (vP rb) ka ps.length kc ma many.length mc id_,.sl ka kc encP 0 1 ps 68,Ec2fa4 (ps.getD i.toNat 0) u1 u2 pv sv rv ra ret.length rc id_,Ee1326 ra rc ret,.res (PbR y c wd ep ws ((S.step c wd ep ws A).1)),E3504b ba ((S.step c wd ep ws A).2),E35fb1 ((S.step c wd ep ws A).2)]):=by
 refine cB B29 128 Tryz.func29 ?_
 intro F
 refine gX [.e 1,.s 2,.j 2 i.toNat,.e 3,.z [0,0,1,0,1,1] 0 [0,7]] (gQ x (gO (ka=ka∧ps.length=ps.length) ⟨rfl,(by first | rfl | omega | (simp; done) | (simp; omega))⟩ (gO ((0:Int)≤i∧i<((ps.length:Nat):Int)) (by omega) (gQ (slAt ka i.toNat 1) (gO (i.toNat<ps.length) oW (gQ (ps.getD i.toNat 0) (gS [.c [0,0,1,0,1,1],.c [1,0,1,0,1,1],.c [1,1,1]] ?_)))))))
 refine tC (some 34) (kV 0 [.ww,.ww,.ww,.e 3,.ww,.ww,.ww,.e 1]) 8 (kV 9 [.ww]) [5,6,7] [0,7,8] Tryz.call15 (pub_Step y ba c wd ep ws S A hc hn (by omega) hz hR hwd hS) (.e (ps.getD i.toNat 0) (.e x .n)) .n ?_
 rintro v post ⟨rfl,rfl⟩
 refine tN .n ?_
 refine gX [.sp [36] [.dead] [.e 3,.z q86_0 4 [0,7,41]]] (gF (!((S.step c wd ep ws A).1.ph==0)) (by rw [beq_iff_eq.2 hd]; rfl) (gQ (ps.getD i.toNat 0) (gS [.o q86_0 4,.c q86_1,.c [1,1,1]] ?_)))
 refine gC (some 42) [5] Tryz.call10 (pub_Told y c wd ep ws ((S.step c wd ep ws A).1) (by omega)) ?_
 refine gX [.sp [46] [.dead] [.z q86_4 1 [0,7,10,57]]] (gF (decide (((Pb.told ((S.step c wd ep ws A).1)).1)>0)) (decide_eq_false ho1) (gS [.o q86_4 1,.c q86_5,.c q86_6,.c [1,1,1]] ?_))
 refine gC (some 58) [0] Tryz.call17 (cause_Top o_ ((Pb.told ((S.step c wd ep ws A).1)).2) ho) ?_
 refine gX [.sp [59] [.e 2,.e 0,.e 2,.z q86_7 1 [70]] [.dead]] (gT (((Pb.told ((S.step c wd ep ws A).1)).2)==0) (beq_iff_eq.2 hk1) (gQ (ps.getD i.toNat 0) (gQ x (gQ (ps.getD i.toNat 0) (gS [.o q86_7 1,.c q86_8,.c [1,1,1]] ?_)))))
 refine gC (some 71) [7] Tryz.call17 (cause_Top o_ ((Pb.told ((S.step c wd ep ws A).1)).2) ho) ?_
 exact gX [] (gI (.tuple #[.slice none 0 0,vI ((Pb.told ((S.step c wd ep ws A).1)).2),.bool true]) [7,0,1,2,3,6,4,5] ⟨kR,rfl⟩)
theorem w_stepPDNE(c:Cfg)(x ba rb:Nat)(now:Int)(ka ma:Option Addr)(kc mc:Nat)(ps:List Nat)(many:List Int)(A:Ar)(i:Int)(pv sv rv:Value)(ra:Option Addr)(rc:Nat)(id_:Int)(ret:List Int)(y:Nat)(wd ep:Int)(ws:List Int)(S:Pb)(u1 u2:Value)(o_:Obj)(hi:0≤i∧i<4)(hps:ps.length=4)(hc:c.Ok)(hn:A.ws.length=A.n)(hs:0≤A.steps∧A.steps≤1000000)(hz:(A.n:Int)=sizeOfC c)(hR:RngW A.ws)(hwd:0≤wd∧wd<A.n)(hS:S.Ok c ws)(hd:(S.step c wd ep ws A).1.ph=0)(ho1:¬(Pb.told (S.step c wd ep ws A).1).1>0)(hk1:(Pb.told (S.step c wd ep ws A).1).2≠0)(hl:ret.length≤1000)(ho:IsH o_):
  Ctr Tryz.prog 29 #[vP x,vI i] [.raw 0 o_,Ed2706 x c (vP ba) (vP rb) ka ps.length kc ma many.length mc now,.sl ka kc encP 0 1 ps 68,E80d79 (ps.getD i.toNat 0) (vP y) u1 u2 pv sv rv ra ret.length rc id_,Ee1326 ra rc ret,.res (PbR y c wd ep ws S),E3504b ba A,E35fb1 A] (Ret (.tuple #[.slice none 0 0,vI ((Pb.told (S.step c wd ep ws A).1).2),.bool true]) [.raw 0 o_,Ed2706 x c (vP ba) (vP rb) ka ps.length kc ma many.length mc now,.sl ka kc encP 0 1 ps 68,Ec2fa4 (ps.getD i.toNat 0) u1 u2 pv sv rv ra ret.length rc id_,Ee1326 ra rc ret,.res (PbR y c wd ep ws ((S.step c wd ep ws A).1)),E3504b ba ((S.step c wd ep ws A).2),E35fb1 ((S.step c wd ep ws A).2)]):=by
 refine cB B29 128 Tryz.func29 ?_
 intro F
 refine gX [.e 1,.s 2,.j 2 i.toNat,.e 3,.z [0,0,1,0,1,1] 0 [0,7]] (gQ x (gO (ka=ka∧ps.length=ps.length) ⟨rfl,(by first | rfl | omega | (simp; done) | (simp; omega))⟩ (gO ((0:Int)≤i∧i<((ps.length:Nat):Int)) (by omega) (gQ (slAt ka i.toNat 1) (gO (i.toNat<ps.length) oW (gQ (ps.getD i.toNat 0) (gS [.c [0,0,1,0,1,1],.c [1,0,1,0,1,1],.c [1,1,1]] ?_)))))))
 refine tC (some 34) (kV 0 [.ww,.ww,.ww,.e 3,.ww,.ww,.ww,.e 1]) 8 (kV 9 [.ww]) [5,6,7] [0,7,8] Tryz.call15 (pub_Step y ba c wd ep ws S A hc hn (by omega) hz hR hwd hS) (.e (ps.getD i.toNat 0) (.e x .n)) .n ?_
 rintro v post ⟨rfl,rfl⟩
 refine tN .n ?_
 refine gX [.sp [36] [.dead] [.e 3,.z q86_0 4 [0,7,41]]] (gF (!((S.step c wd ep ws A).1.ph==0)) (by rw [beq_iff_eq.2 hd]; rfl) (gQ (ps.getD i.toNat 0) (gS [.o q86_0 4,.c q86_1,.c [1,1,1]] ?_)))
 refine gC (some 42) [5] Tryz.call10 (pub_Told y c wd ep ws ((S.step c wd ep ws A).1) (by omega)) ?_
 refine gX [.sp [46] [.dead] [.z q86_4 1 [0,7,10,57]]] (gF (decide (((Pb.told ((S.step c wd ep ws A).1)).1)>0)) (decide_eq_false ho1) (gS [.o q86_4 1,.c q86_5,.c q86_6,.c [1,1,1]] ?_))
 refine gC (some 58) [0] Tryz.call17 (cause_Top o_ ((Pb.told ((S.step c wd ep ws A).1)).2) ho) ?_
 refine gX [.sp [59] [.dead] [.e 2,.z q86_7 1 [70]]] (gF (((Pb.told ((S.step c wd ep ws A).1)).2)==0) (beq_eq_false_iff_ne.2 hk1) (gQ (ps.getD i.toNat 0) (gS [.o q86_7 1,.c q86_8,.c [1,1,1]] ?_)))
 refine gC (some 71) [7] Tryz.call17 (cause_Top o_ ((Pb.told ((S.step c wd ep ws A).1)).2) ho) ?_
 exact gX [] (gI (.tuple #[.slice none 0 0,vI ((Pb.told ((S.step c wd ep ws A).1)).2),.bool true]) [7,0,1,2,3,6,4,5] ⟨kR,rfl⟩)
theorem w_stepSN(c:Cfg)(x ba rb:Nat)(now:Int)(ka ma:Option Addr)(kc mc:Nat)(ps:List Nat)(many:List Int)(A:Ar)(i:Int)(pv sv rv:Value)(ra:Option Addr)(rc:Nat)(id_:Int)(ret:List Int)(y:Nat)(S:Sc)(u2:Value)(hi:0≤i∧i<4)(hps:ps.length=4)(hc:c.Ok)(hS:S.Ok c A.n)(hA:A.Ok c)(hl:(S.step c A).1.kept.length+(S.step c A).1.left.length≤100)(hd:Sc.done c (S.step c A).1=false):
  Ctr Tryz.prog 29 #[vP x,vI i] [Ed2706 x c (vP ba) (vP rb) ka ps.length kc ma many.length mc now,.sl ka kc encP 0 1 ps 68,Ec2fa4 (ps.getD i.toNat 0) (vP y) u2 pv sv rv ra ret.length rc id_,.res (ScanR y c S),E3504b ba A,E35fb1 A] (fun v L => ∃(ra2:Option Addr) (rc2:Nat),v = .tuple #[.slice none 0 0,vI 0,.bool false]∧L=[Ed2706 x c (vP ba) (vP rb) ka ps.length kc ma many.length mc now,.sl ka kc encP 0 1 ps 68,Ec2fa4 (ps.getD i.toNat 0) (vP y) u2 pv sv rv ra2 (((S.step c A).1.kept++(S.step c A).1.left).length) rc2 id_,Ee1326 ra2 rc2 ((S.step c A).1.kept++(S.step c A).1.left),.res (ScanR y c ((S.step c A).1)),E3504b ba ((S.step c A).2),E35fb1 ((S.step c A).2)]):=by
 refine cB B29 128 Tryz.func29 ?_
 intro F
 refine gX [.e 0,.s 1,.j 1 i.toNat,.e 2,.e 2,.z q86_9 0 [0,7]] (gQ x (gO (ka=ka∧ps.length=ps.length) ⟨rfl,(by first | rfl | omega | (simp; done) | (simp; omega))⟩ (gO ((0:Int)≤i∧i<((ps.length:Nat):Int)) (by omega) (gQ (slAt ka i.toNat 1) (gO (i.toNat<ps.length) oW (gQ (ps.getD i.toNat 0) (gQ (ps.getD i.toNat 0) (gS [.c q86_9,.c q86_10,.c [1,1,1,1]] ?_))))))))
 refine tC (some 85) (kV 0 [.ww,.ww,.ww,.e 2,.ww,.ww,.ww,.e 0]) 8 (kV 9 [.ww]) [3,4,5] [7,11] Tryz.call75 (scan_Step c y ba S A hc hS hA) (.e (ps.getD i.toNat 0) (.e x .n)) .n ?_
 rintro v post ⟨rfl,rfl⟩
 refine tN .n ?_
 refine gX [.e 2,.z q86_11 5 [7,11,86,90]] (gQ (ps.getD i.toNat 0) (gS [.o q86_11 5,.c q86_12,.c [1,1,1,1]] ?_))
 refine go_call (some 91) [3] Tryz.call76 (scan_Kept c y ((S.step c A).1) hl) kR ?_
 rintro v post ⟨a2_1,c2_2,rfl,rfl⟩
 exact gX [.e 2,.sp [94,11] [.dead] []] (gQ (ps.getD i.toNat 0) (gQ (Sc.done c (S.step c A).1) (gF (Sc.done c (S.step c A).1) hd (gJ [0,1,2,6,5,3,4] ⟨a2_1,c2_2,rfl,rfl⟩))))
theorem w_stepSD(c:Cfg)(x ba rb:Nat)(now:Int)(ka ma:Option Addr)(kc mc:Nat)(ps:List Nat)(many:List Int)(A:Ar)(i:Int)(pv sv rv:Value)(ra:Option Addr)(rc:Nat)(id_:Int)(ret:List Int)(y:Nat)(S:Sc)(u2:Value)(hi:0≤i∧i<4)(hps:ps.length=4)(hc:c.Ok)(hS:S.Ok c A.n)(hA:A.Ok c)(hl:(S.step c A).1.kept.length+(S.step c A).1.left.length≤100)(hd:Sc.done c (S.step c A).1=true):
  Ctr Tryz.prog 29 #[vP x,vI i] [Ed2706 x c (vP ba) (vP rb) ka ps.length kc ma many.length mc now,.sl ka kc encP 0 1 ps 68,Ec2fa4 (ps.getD i.toNat 0) (vP y) u2 pv sv rv ra ret.length rc id_,.res (ScanR y c S),E3504b ba A,E35fb1 A] (fun v L => ∃(ra2:Option Addr) (rc2:Nat),v = .tuple #[.slice none 0 0,vI 0,.bool true]∧L=[Ed2706 x c (vP ba) (vP rb) ka ps.length kc ma many.length mc now,.sl ka kc encP 0 1 ps 68,E70a74 (ps.getD i.toNat 0) u2 pv sv rv ra2 (((S.step c A).1.kept++(S.step c A).1.left).length) rc2 id_,Ee1326 ra2 rc2 ((S.step c A).1.kept++(S.step c A).1.left),.res (ScanR y c ((S.step c A).1)),E3504b ba ((S.step c A).2),E35fb1 ((S.step c A).2)]):=by
 refine cB B29 128 Tryz.func29 ?_
 intro F
 refine gX [.e 0,.s 1,.j 1 i.toNat,.e 2,.e 2,.z q86_9 0 [0,7]] (gQ x (gO (ka=ka∧ps.length=ps.length) ⟨rfl,(by first | rfl | omega | (simp; done) | (simp; omega))⟩ (gO ((0:Int)≤i∧i<((ps.length:Nat):Int)) (by omega) (gQ (slAt ka i.toNat 1) (gO (i.toNat<ps.length) oW (gQ (ps.getD i.toNat 0) (gQ (ps.getD i.toNat 0) (gS [.c q86_9,.c q86_10,.c [1,1,1,1]] ?_))))))))
 refine tC (some 85) (kV 0 [.ww,.ww,.ww,.e 2,.ww,.ww,.ww,.e 0]) 8 (kV 9 [.ww]) [3,4,5] [7,11] Tryz.call75 (scan_Step c y ba S A hc hS hA) (.e (ps.getD i.toNat 0) (.e x .n)) .n ?_
 rintro v post ⟨rfl,rfl⟩
 refine tN .n ?_
 refine gX [.e 2,.z q86_11 5 [7,11,86,90]] (gQ (ps.getD i.toNat 0) (gS [.o q86_11 5,.c q86_12,.c [1,1,1,1]] ?_))
 refine go_call (some 91) [3] Tryz.call76 (scan_Kept c y ((S.step c A).1) hl) kR ?_
 rintro v post ⟨a2_1,c2_2,rfl,rfl⟩
 exact gX [.e 2,.sp [94,11] [.e 2] [.dead]] (gQ (ps.getD i.toNat 0) (gQ (Sc.done c (S.step c A).1) (gT (Sc.done c (S.step c A).1) hd (gQ (ps.getD i.toNat 0) (gJ [0,1,2,6,5,3,4] ⟨a2_1,c2_2,rfl,rfl⟩)))))
theorem w_stepRN(c:Cfg)(x ba rb:Nat)(now:Int)(ka ma:Option Addr)(kc mc:Nat)(ps:List Nat)(many:List Int)(A:Ar)(i:Int)(pv sv rv:Value)(ra:Option Addr)(rc:Nat)(id_:Int)(ret:List Int)(y:Nat)(cl tp ep:Int)(S:Rd)(o_:Obj)(hi:0≤i∧i<4)(hps:ps.length=4)(hc:c.Ok)(hn:A.ws.length=A.n)(hs:0≤A.steps∧A.steps≤1000000)(hz:(A.n:Int)=sizeOfC c)(hR:RngW A.ws)(htp:0≤tp∧tp<c.topics)(hC:CtlOk c A tp)(hS:S.Ok c cl tp A.n)(ho:IsH o_)(hd:(S.step c cl tp ep A).1.ph≠0):
  Ctr Tryz.prog 29 #[vP x,vI i] [.raw 0 o_,Ed2706 x c (vP ba) (vP rb) ka ps.length kc ma many.length mc now,.sl ka kc encP 0 1 ps 68,E70a74 (ps.getD i.toNat 0) (vP y) pv sv rv ra ret.length rc id_,.res (RdR y c cl tp ep S),E3504b ba A,E35fb1 A] (Ret (.tuple #[.slice none 0 0,vI 0,.bool false]) [.raw 0 o_,Ed2706 x c (vP ba) (vP rb) ka ps.length kc ma many.length mc now,.sl ka kc encP 0 1 ps 68,E70a74 (ps.getD i.toNat 0) (vP y) pv sv rv ra ret.length rc id_,.res (RdR y c cl tp ep ((S.step c cl tp ep A).1)),E3504b ba ((S.step c cl tp ep A).2),E35fb1 ((S.step c cl tp ep A).2)]):=by
 refine cB B29 128 Tryz.func29 ?_
 intro F
 refine gX [.e 1,.s 2,.j 2 i.toNat,.e 3,.e 3,.e 3,.z q86_13 0 [0,7]] (gQ x (gO (ka=ka∧ps.length=ps.length) ⟨rfl,(by first | rfl | omega | (simp; done) | (simp; omega))⟩ (gO ((0:Int)≤i∧i<((ps.length:Nat):Int)) (by omega) (gQ (slAt ka i.toNat 1) (gO (i.toNat<ps.length) oW (gQ (ps.getD i.toNat 0) (gQ (ps.getD i.toNat 0) (gQ (ps.getD i.toNat 0) (gS [.c q86_13,.c q86_14,.c [1,1,1,1,1,1]] ?_)))))))))
 refine tC (some 112) (kV 0 [.ww,.ww,.ww,.e 3,.ww,.ww,.ww,.e 1]) 8 (kV 9 [.ww]) [0,4,5,6] [7,113] Tryz.call20 (rd_Step o_ y ba c cl tp ep S A hc hn (by omega) hz hR htp hC hS ho) (.e (ps.getD i.toNat 0) (.e x .n)) .n ?_
 rintro v post ⟨rfl,rfl⟩
 refine tN .n ?_
 exact gX [.sp [113] [] [.dead]] (gT (!((S.step c cl tp ep A).1.ph==0)) (by rw [beq_eq_false_iff_ne.2 hd]; rfl) (gJ [3,0,1,2,4,5,6] ⟨rfl,rfl⟩))
theorem w_stepRD(c:Cfg)(x ba rb:Nat)(now:Int)(ka ma:Option Addr)(kc mc:Nat)(ps:List Nat)(many:List Int)(A:Ar)(i:Int)(pv sv rv:Value)(ra:Option Addr)(rc:Nat)(id_:Int)(ret:List Int)(y:Nat)(cl tp ep:Int)(S:Rd)(o_:Obj)(hi:0≤i∧i<4)(hps:ps.length=4)(hc:c.Ok)(hn:A.ws.length=A.n)(hs:0≤A.steps∧A.steps≤1000000)(hz:(A.n:Int)=sizeOfC c)(hR:RngW A.ws)(htp:0≤tp∧tp<c.topics)(hC:CtlOk c A tp)(hS:S.Ok c cl tp A.n)(ho:IsH o_)(hd:(S.step c cl tp ep A).1.ph=0)(hl:(S.step c cl tp ep A).1.words.length≤96):
  Ctr Tryz.prog 29 #[vP x,vI i] [.raw 0 o_,Ed2706 x c (vP ba) (vP rb) ka ps.length kc ma many.length mc now,.sl ka kc encP 0 1 ps 68,E70a74 (ps.getD i.toNat 0) (vP y) pv sv rv ra ret.length rc id_,.res (RdR y c cl tp ep S),E3504b ba A,E35fb1 A] (fun v L => ∃(a2:Option Addr) (c2:Nat),v = .tuple #[.slice a2 ((Rd.told (S.step c cl tp ep A).1).1.length) c2,vI ((Rd.told (S.step c cl tp ep A).1).2),.bool true]∧L=[.raw 0 o_,Ed2706 x c (vP ba) (vP rb) ka ps.length kc ma many.length mc now,.sl ka kc encP 0 1 ps 68,E4463d (ps.getD i.toNat 0) pv sv rv ra ret.length rc id_,.res (RdR y c cl tp ep ((S.step c cl tp ep A).1)),E54ea0 a2 c2 ((Rd.told (S.step c cl tp ep A).1).1),E3504b ba ((S.step c cl tp ep A).2),E35fb1 ((S.step c cl tp ep A).2)]):=by
 refine cB B29 128 Tryz.func29 ?_
 intro F
 refine gX [.e 1,.s 2,.j 2 i.toNat,.e 3,.e 3,.e 3,.z q86_13 0 [0,7]] (gQ x (gO (ka=ka∧ps.length=ps.length) ⟨rfl,(by first | rfl | omega | (simp; done) | (simp; omega))⟩ (gO ((0:Int)≤i∧i<((ps.length:Nat):Int)) (by omega) (gQ (slAt ka i.toNat 1) (gO (i.toNat<ps.length) oW (gQ (ps.getD i.toNat 0) (gQ (ps.getD i.toNat 0) (gQ (ps.getD i.toNat 0) (gS [.c q86_13,.c q86_14,.c [1,1,1,1,1,1]] ?_)))))))))
 refine tC (some 112) (kV 0 [.ww,.ww,.ww,.e 3,.ww,.ww,.ww,.e 1]) 8 (kV 9 [.ww]) [0,4,5,6] [7,113] Tryz.call20 (rd_Step o_ y ba c cl tp ep S A hc hn (by omega) hz hR htp hC hS ho) (.e (ps.getD i.toNat 0) (.e x .n)) .n ?_
 rintro v post ⟨rfl,rfl⟩
 refine tN .n ?_
 refine gX [.sp [113] [.dead] [.e 2,.z q86_15 4 [7,118]]] (gF (!((S.step c cl tp ep A).1.ph==0)) (by rw [beq_iff_eq.2 hd]; rfl) (gQ (ps.getD i.toNat 0) (gS [.o q86_15 4,.c [1,1,1,1,1,1,1]] ?_)))
 refine go_call (some 119) [4] Tryz.call11 (rd_Told y c cl tp ep ((S.step c cl tp ep A).1) (by omega) hl) kR ?_
 rintro v post ⟨a2_1,c2_2,rfl,rfl⟩
 refine gX [.e 2,.z q86_16 2 [125,126]] (gQ (ps.getD i.toNat 0) (gS [.o q86_16 2,.c [1,1,1,1,1,1,1,1,1]] ?_))
 refine gC (some 127) [3] Tryz.call17 (cause_Top o_ ((Rd.told ((S.step c cl tp ep A).1)).2) ho) ?_
 exact gX [] (gI (.tuple #[.slice a2_1 ((Rd.told ((S.step c cl tp ep A).1)).1.length) c2_2,vI ((Rd.told ((S.step c cl tp ep A).1)).2),.bool true]) [7,0,1,2,5,6,3,4] ⟨a2_1,c2_2,kR,rfl⟩)
end Go.Proofs.YtpcaijopodhdgaaGreatDoor
namespace Go.Proofs.YtpcaijopodhdgaaGreatDoor
open Go.Sx
abbrev Eb05f6(x0:Nat)(x1:Value)(x2:Value)(x3:Value)(x4:Value)(x5:Option Addr)(x6:Nat)(x7:Nat)(x8:Int): Ent:=.pts x0 [.pointer none,x1,.pointer none,x2,x3,x4,.slice x5 x6 x7,.int .u64 x8] 74
abbrev E2d34c(x0:Nat)(x1:Value)(x2:Value)(x3:Value)(x4:Value)(x5:Option Addr)(x6:Nat)(x7:Nat)(x8:Nat): Ent:=.pts x0 [x1,.pointer none,.pointer none,x2,x3,x4,.slice x5 x6 x7,.int .u64 ((x8:Nat):Int)] 74
abbrev E72be0(x0:Nat)(x1:Value)(x2:Value)(x3:Value)(x4:Option Addr)(x5:Nat)(x6:Nat)(x7:Nat): Ent:=.pts x0 [.pointer none,.pointer none,.pointer none,x1,x2,x3,.slice x4 x5 x6,.int .u64 ((x7:Nat):Int)] 74
abbrev q87_0: List Nat:=[0,0,1,0,1,1,1]
abbrev q87_1: List Nat:=[0,1,0,1,0,1,1,1]
abbrev q87_2: List Nat:=[0,0,1,0,1,1,1,1]
abbrev q87_3: List Nat:=[1,0,1,0,1,1,1,1]
abbrev q87_4: List Nat:=[0,1,0,1,0,1,1,1,1]
abbrev q87_5: List Nat:=[1,1,0,1,0,1,1,1,1]
abbrev q87_6: List Nat:=[0,1,1,1,1,1,1]
abbrev q87_7: List Nat:=[1,1,1,1,1,1,1]
abbrev q87_8: List Nat:=[0,1,1,1,1,1,1,1,1]
abbrev q87_9: List Nat:=[1,1,1,1,1,1,1,1,1]
abbrev q87_10: List Nat:=[0,1,0,1,1,1,1,1,1,1,1,1]
abbrev q87_11: List Nat:=[1,1,1,1,1,1,1,1,1,1]
abbrev q87_12: List Nat:=[0,1,1,1,1,1,1,1,1,1,1]
abbrev q87_13: List Nat:=[1,1,1,1,1,1,1,1,1,1,1]
noncomputable def B28: Code:=(Tryz.f28.body).getD .skip
theorem w_beginP(c:Cfg)(x ba rb:Nat)(now:Int)(ka ma:Option Addr)(kc mc:Nat)(ps:List Nat)(many:List Int)(B:Ar)(i n_:Int)(pv sv rv:Value)(ra:Option Addr)(rc:Nat)(id_:Int)(ret:List Int)(y:Nat)(u1 u2:Value)(hi:0≤i∧i<4)(hps:ps.length=4):
  Ctr Tryz.prog 28 #[vP x,vI i,vI n_] [Ed2706 x c (vP ba) (vP rb) ka ps.length kc ma many.length mc now,.sl ka kc encP 0 1 ps 68,E80d79 (ps.getD i.toNat 0) (vP y) u1 u2 pv sv rv ra ret.length rc id_] (Ret (undef) [Ed2706 x c (vP ba) (vP rb) ka ps.length kc ma many.length mc now,.sl ka kc encP 0 1 ps 68,E80d79 (ps.getD i.toNat 0) (vP y) u1 u2 pv sv rv ra ret.length rc id_]):=by
 refine cB B28 140 Tryz.func28 ?_
 intro F
 refine gX [.e 0,.s 1,.j 1 i.toNat,.z [0,0,1] 1 [0,1,2,6,18]] (gQ x (gO (ka=ka∧ps.length=ps.length) ⟨rfl,(by first | rfl | omega | (simp; done) | (simp; omega))⟩ (gO ((0:Int)≤i∧i<((ps.length:Nat):Int)) (by omega) (gQ (slAt ka i.toNat 1) (gO (i.toNat<ps.length) oW (gS [.o [0,0,1] 1,.c [1,0,1],.c [1,1]] ?_))))))
 refine gC (some 19) [2] Tryz.call32 (k_idleP (ps.getD i.toNat 0) pv sv rv ra rc ret.length id_ y u1 u2) ?_
 exact gX [] (gJ [0,1,2] ⟨rfl,rfl⟩)
theorem w_beginS(c:Cfg)(x ba rb:Nat)(now:Int)(ka ma:Option Addr)(kc mc:Nat)(ps:List Nat)(many:List Int)(B:Ar)(i n_:Int)(pv sv rv:Value)(ra:Option Addr)(rc:Nat)(id_:Int)(ret:List Int)(y:Nat)(u2:Value)(hi:0≤i∧i<4)(hps:ps.length=4):
  Ctr Tryz.prog 28 #[vP x,vI i,vI n_] [Ed2706 x c (vP ba) (vP rb) ka ps.length kc ma many.length mc now,.sl ka kc encP 0 1 ps 68,Ec2fa4 (ps.getD i.toNat 0) (vP y) u2 pv sv rv ra ret.length rc id_] (Ret (undef) [Ed2706 x c (vP ba) (vP rb) ka ps.length kc ma many.length mc now,.sl ka kc encP 0 1 ps 68,Ec2fa4 (ps.getD i.toNat 0) (vP y) u2 pv sv rv ra ret.length rc id_]):=by
 refine cB B28 140 Tryz.func28 ?_
 intro F
 refine gX [.e 0,.s 1,.j 1 i.toNat,.z [0,0,1] 1 [0,1,2,6,18]] (gQ x (gO (ka=ka∧ps.length=ps.length) ⟨rfl,(by first | rfl | omega | (simp; done) | (simp; omega))⟩ (gO ((0:Int)≤i∧i<((ps.length:Nat):Int)) (by omega) (gQ (slAt ka i.toNat 1) (gO (i.toNat<ps.length) oW (gS [.o [0,0,1] 1,.c [1,0,1],.c [1,1]] ?_))))))
 refine gC (some 19) [2] Tryz.call32 (k_idleS (ps.getD i.toNat 0) pv sv rv ra rc ret.length id_ y u2) ?_
 exact gX [] (gJ [0,1,2] ⟨rfl,rfl⟩)
theorem w_beginR(c:Cfg)(x ba rb:Nat)(now:Int)(ka ma:Option Addr)(kc mc:Nat)(ps:List Nat)(many:List Int)(B:Ar)(i n_:Int)(pv sv rv:Value)(ra:Option Addr)(rc:Nat)(id_:Int)(ret:List Int)(y:Nat)(hi:0≤i∧i<4)(hps:ps.length=4):
  Ctr Tryz.prog 28 #[vP x,vI i,vI n_] [Ed2706 x c (vP ba) (vP rb) ka ps.length kc ma many.length mc now,.sl ka kc encP 0 1 ps 68,E70a74 (ps.getD i.toNat 0) (vP y) pv sv rv ra ret.length rc id_] (Ret (undef) [Ed2706 x c (vP ba) (vP rb) ka ps.length kc ma many.length mc now,.sl ka kc encP 0 1 ps 68,E70a74 (ps.getD i.toNat 0) (vP y) pv sv rv ra ret.length rc id_]):=by
 refine cB B28 140 Tryz.func28 ?_
 intro F
 refine gX [.e 0,.s 1,.j 1 i.toNat,.z [0,0,1] 1 [0,1,2,6,18]] (gQ x (gO (ka=ka∧ps.length=ps.length) ⟨rfl,(by first | rfl | omega | (simp; done) | (simp; omega))⟩ (gO ((0:Int)≤i∧i<((ps.length:Nat):Int)) (by omega) (gQ (slAt ka i.toNat 1) (gO (i.toNat<ps.length) oW (gS [.o [0,0,1] 1,.c [1,0,1],.c [1,1]] ?_))))))
 refine gC (some 19) [2] Tryz.call32 (k_idleR (ps.getD i.toNat 0) pv sv rv ra rc ret.length id_ y) ?_
 exact gX [] (gJ [0,1,2] ⟨rfl,rfl⟩)
theorem w_beginNR(c:Cfg)(x ba rb:Nat)(now:Int)(ka ma:Option Addr)(kc mc:Nat)(ps:List Nat)(many:List Int)(B:Ar)(i n_:Int)(pv sv rv:Value)(ra:Option Addr)(rc:Nat)(id_:Int)(ret:List Int)(hi:0≤i∧i<4)(hps:ps.length=4)(hc:c.Ok)(hnB:B.ws.length=B.n)(hzB:(B.n:Int)=sizeOfC c)(hwB:U64 (B.ws.getD (ctlAt c 0).toNat 0))(hi2:i≥2)(hic:i<c.clients):
  Ctr Tryz.prog 28 #[vP x,vI i,vI n_] [Ed2706 x c (vP ba) (vP rb) ka ps.length kc ma many.length mc now,.sl ka kc encP 0 1 ps 68,E4463d (ps.getD i.toNat 0) pv sv rv ra ret.length rc id_,E99bbc rb B false 0,E35fb1 B] (fun v L => ∃(y:Nat) (k:Nat) (b1:Nat) (b2:Nat) (b3:Nat) (b4:Nat) (b5:Nat) (b6:Nat) (q:Nat) (k2:Nat),v=undef∧L=[Ed2706 x c (vP ba) (vP rb) ka ps.length kc ma many.length mc now,.sl ka kc encP 0 1 ps 68,E70a74 (ps.getD i.toNat 0) (vP y) pv sv (vP q) ra ret.length rc id_,E99bbc rb B false 0,E35fb1 B,E3c71c y (.iface 118 (vP k)) (.func (.func 55) #[] #[vP b1,vP b2,vP b3,vP b4,vP b5,vP b6]) 0 false c (-1),E03c2e k c i 0 (-1),.pts b1 [vP k] 118,.pts b2 [vP y] 24,Efdc04 b3 c,.pts b4 [vI i] 3,.pts b5 [vI 0] 3,.pts b6 [vI (ctlEpoch (B.ws.getD (ctlAt c 0).toNat 0))] 3,E4f1f6 q c i 0 (ctlEpoch (B.ws.getD (ctlAt c 0).toNat 0)) 1 (vP k2) (-1) 0 0,Ee6e88 k2 c i 0 (-1)]):=by
 refine cB B28 140 Tryz.func28 ?_
 intro F
 have h0:=ctl0_ok hc
 have hc':=hc
 simp only [Cfg.Ok] at hc'
 refine gX [.e 0,.s 1,.j 1 i.toNat,.z [0,0,1] 1 [0,1,2,6,18]] (gQ x (gO (ka=ka∧ps.length=ps.length) ⟨rfl,(by first | rfl | omega | (simp; done) | (simp; omega))⟩ (gO ((0:Int)≤i∧i<((ps.length:Nat):Int)) (by omega) (gQ (slAt ka i.toNat 1) (gO (i.toNat<ps.length) oW (gS [.o [0,0,1] 1,.c [1,0,1],.c [1,1]] ?_))))))
 refine gC (some 19) [2] Tryz.call32 (k_idleI (ps.getD i.toNat 0) pv sv rv ra rc ret.length id_) ?_
 refine gX [.z [0,1,1] 1 [0,1,2,6,21]] (gS [.o [0,1,1] 1,.c [1,1,1]] ?_)
 refine gC (some 22) [0,2,3] Tryz.call35 (w_word c x ba rb now (.slice ka ps.length kc) (.slice ma many.length mc) B hc hnB hzB) ?_
 refine gC (some 23) [] Tryz.call34 (r13_Unpack (B.ws.getD (ctlAt c 0).toNat 0) hwB) ?_
 refine gX [.sp [26] [.e 2,.z q87_0 7 [0,1,6,7,27,31,32,33]] [.dead]] (gT (decide (i≥2)) (decide_eq_true hi2) (gQ x (gS [.o q87_0 7,.c [1,0,1,0,1,1,1],.c [1,1,1,1]] ?_)))
 refine go_call (some 34) [] Tryz.call13 (new_Rd c i 0 (ctlEpoch (B.ws.getD (ctlAt c 0).toNat 0)) hc ⟨by omega,hic⟩ (by omega)) kR ?_
 rintro v post ⟨p_1,k_2,b1_3,b2_4,b3_5,b4_6,b5_7,b6_8,rfl,rfl⟩
 refine gX [.e 1,.e 2,.z q87_1 7 [37,41,42,43]] (gQ (ps.getD i.toNat 0) (gQ x (gS [.o q87_1 7,.c [1,1,0,1,0,1,1,1],.c [1,1,1,1]] ?_)))
 refine go_call (some 44) [] Tryz.call72 (rnew_Rd c i 0 (ctlEpoch (B.ws.getD (ctlAt c 0).toNat 0)) hc ⟨by omega,hic⟩ (by omega)) kR ?_
 rintro v post ⟨q_9,k_10,rfl,rfl⟩
 exact gX [.e 1] (gQ (ps.getD i.toNat 0) (gJ [2,0,1,3,4,5,6,7,8,9,10,11,12,13,14] ⟨p_1,k_2,b1_3,b2_4,b3_5,b4_6,b5_7,b6_8,q_9,k_10,rfl,rfl⟩))
theorem w_beginNSok(c:Cfg)(x ba rb:Nat)(now:Int)(ka ma:Option Addr)(kc mc:Nat)(ps:List Nat)(many:List Int)(B:Ar)(i n_:Int)(pv sv rv:Value)(ra:Option Addr)(rc:Nat)(id_:Int)(ret:List Int)(hi:0≤i∧i<4)(hps:ps.length=4)(hc:c.Ok)(hnB:B.ws.length=B.n)(hzB:(B.n:Int)=sizeOfC c)(hwB:U64 (B.ws.getD (ctlAt c 0).toNat 0))(hi2:¬i≥2)(h3:bAnd .i64 n_ 3=0)(hl0:((ret.length:Nat):Int)>0)(hl:ret.length≤100)(hin:∀j,InK .i64 (ret.getD j 0))(ho:newOk c (fun _=>none) ret=true)(hg:goodRow c ret):
  Ctr Tryz.prog 28 #[vP x,vI i,vI n_] [Ed2706 x c (vP ba) (vP rb) ka ps.length kc ma many.length mc now,.sl ka kc encP 0 1 ps 68,E4463d (ps.getD i.toNat 0) pv sv rv ra ret.length rc id_,Ee1326 ra rc ret,E99bbc rb B false 0,E35fb1 B] (fun v L => ∃(y:Nat) (q:Nat),v=undef∧L=[Ed2706 x c (vP ba) (vP rb) ka ps.length kc ma many.length mc now,.sl ka kc encP 0 1 ps 68,Eb05f6 (ps.getD i.toNat 0) (vP y) pv (vP q) rv ra ret.length rc id_,Ee1326 ra rc ret,E99bbc rb B false 0,E35fb1 B,.res (ScanR y c (newSc ret)),.res (RsR q c (newRs ret))]):=by
 refine cB B28 140 Tryz.func28 ?_
 intro F
 refine gX [.e 0,.s 1,.j 1 i.toNat,.z [0,0,1] 1 [0,1,2,6,18]] (gQ x (gO (ka=ka∧ps.length=ps.length) ⟨rfl,(by first | rfl | omega | (simp; done) | (simp; omega))⟩ (gO ((0:Int)≤i∧i<((ps.length:Nat):Int)) (by omega) (gQ (slAt ka i.toNat 1) (gO (i.toNat<ps.length) oW (gS [.o [0,0,1] 1,.c [1,0,1],.c [1,1]] ?_))))))
 refine gC (some 19) [2] Tryz.call32 (k_idleI (ps.getD i.toNat 0) pv sv rv ra rc ret.length id_) ?_
 refine gX [.z [0,1,1] 1 [0,1,2,6,21]] (gS [.o [0,1,1] 1,.c [1,1,1]] ?_)
 refine gC (some 22) [0,3,4] Tryz.call35 (w_word c x ba rb now (.slice ka ps.length kc) (.slice ma many.length mc) B hc hnB hzB) ?_
 refine gC (some 23) [] Tryz.call34 (r13_Unpack (B.ws.getD (ctlAt c 0).toNat 0) hwB) ?_
 refine gX [.sp [26] [.dead] [.sp [50,49] [.e 2,.sp [57,56] [.z q87_2 0 [0,6]] [.dead]] [.dead]]] (gF (decide (i≥2)) (decide_eq_false hi2) (gQ ((bAnd .i64 n_ 3)==0) (gT ((bAnd .i64 n_ 3)==0) (beq_iff_eq.2 h3) (gQ (ps.getD i.toNat 0) (gQ (decide (((ret.length:Nat):Int)>0)) (gT (decide (((ret.length:Nat):Int)>0)) (decide_eq_true hl0) (gS [.c q87_2,.c q87_3,.c [1,1,1,1,1]] ?_)))))))
 refine zG ?_
 refine zN [0,1,2,3,4,5,6,7,8] (kV 0 [.w,.w,.w,.w,.e 3,.w,.w,.w,.e 2]) [0,6,58,59,60,61,62,63,64,65,66] [9] (.e x (.e (ps.getD i.toNat 0) .n)) ⟨?_,trivial⟩
 refine zC (some 67) [1] Tryz.call33 (retire_New_ok c ra rc ret hc hl hin ho) ?_
 rintro v post ⟨s_9_1,rfl,rfl⟩
 refine zN [10,11] [(0,.w),(10,.w),(11,.w)] [67,0,6,58,68,69] [12] .n ⟨?_,trivial⟩
 refine zX (.e 1) (sQ (ps.getD i.toNat 0) (sK ?_))
 refine zE [] [] [0,6] .n ?_
 refine gX [.z q87_4 0 [0,6]] (gS [.c q87_4,.c q87_5,.c [1,1,1,1,1]] ?_)
 refine zG ?_
 refine zN [0,1,2,3,4,5,6,7,8] (kV 0 [.w,.w,.w,.w,.e 2,.w,.w,.w,.e 1]) [0,6,70,71,72,73,74,75,76,77,78] [9] (.e x (.e (ps.getD i.toNat 0) .n)) ⟨?_,trivial⟩
 refine zC (some 79) [5] Tryz.call73 (ref15_New_ok c ra rc ret hc hl hg) ?_
 rintro v post ⟨rs_9_1r1,rfl,rfl⟩
 refine zN [10,11] [(0,.w),(10,.w),(11,.w)] [79,6,70,80,81] [12] .n ⟨?_,trivial⟩
 refine zX (.e 1) (sQ (ps.getD i.toNat 0) (sK ?_))
 refine zE [] [] [] .n ?_
 exact gX [] (gJ [2,0,1,6,3,4,5,7] ⟨s_9_1,rs_9_1r1,rfl,rfl⟩)
theorem w_beginNPx(c:Cfg)(x ba rb:Nat)(now:Int)(ka ma:Option Addr)(kc mc:Nat)(ps:List Nat)(many:List Int)(B:Ar)(i n_:Int)(pv sv rv:Value)(ra:Option Addr)(rc:Nat)(id_:Int)(ret:List Int)(hi:0≤i∧i<4)(hps:ps.length=4)(hc:c.Ok)(hnB:B.ws.length=B.n)(hzB:(B.n:Int)=sizeOfC c)(hwB:U64 (B.ws.getD (ctlAt c 0).toNat 0))(hi2:¬i≥2)(h3:bAnd .i64 n_ 3≠0)(hml:many.length≤2000)(hf:fitK c (((List.replicate (1+(((n_.tmod 6)+6).tmod 6)).toNat ((((many++[(1+(((n_.tmod 6)+6).tmod 6))]).length):Nat):Int)).length:Nat):Int)≠-1):
  Ctr Tryz.prog 28 #[vP x,vI i,vI n_] [Ed2706 x c (vP ba) (vP rb) ka ps.length kc ma many.length mc now,.sl ka kc encP 0 1 ps 68,Ee1326 ma mc many,E4463d (ps.getD i.toNat 0) pv sv rv ra ret.length rc id_,E99bbc rb B false 0,E35fb1 B] (fun v L => ∃(ma2:Option Addr) (mc2:Nat) (la:Option Addr) (lc:Nat) (y:Nat) (k:Nat) (bp:Nat) (bt:Nat) (wa:Option Addr) (wc:Nat) (q:Nat) (k2:Nat),v=undef∧L=[Ed2706 x c (vP ba) (vP rb) ka ps.length kc ma2 ((many++[(1+(((n_.tmod 6)+6).tmod 6))]).length) mc2 now,.sl ka kc encP 0 1 ps 68,Ee1326 ma2 mc2 (many++[(1+(((n_.tmod 6)+6).tmod 6))]),E2d34c (ps.getD i.toNat 0) (vP y) (vP q) sv rv ra ret.length rc ((many++[(1+(((n_.tmod 6)+6).tmod 6))]).length),E99bbc rb B false 0,E35fb1 B,Ef60d6 y (.iface 114 (vP k)) (.func (.func 51) #[] #[vP bp,vP bt]) 0 false c (ctlAt c 0) (ctlEpoch (B.ws.getD (ctlAt c 0).toNat 0)) wa ((List.replicate (1+(((n_.tmod 6)+6).tmod 6)).toNat ((((many++[(1+(((n_.tmod 6)+6).tmod 6))]).length):Nat):Int)).length) wc 0 0 0 0 0,.pts bp [vP y] 23,.pts bt [vP k] 114,E65ea3 k c (newTk (fitK c (((List.replicate (1+(((n_.tmod 6)+6).tmod 6)).toNat ((((many++[(1+(((n_.tmod 6)+6).tmod 6))]).length):Nat):Int)).length:Nat):Int))) k,E54ea0 wa wc (List.replicate (1+(((n_.tmod 6)+6).tmod 6)).toNat ((((many++[(1+(((n_.tmod 6)+6).tmod 6))]).length):Nat):Int)),E54ea0 la lc (List.replicate (1+(((n_.tmod 6)+6).tmod 6)).toNat ((((many++[(1+(((n_.tmod 6)+6).tmod 6))]).length):Nat):Int)),Edf317 q c 0 (ctlEpoch (B.ws.getD (ctlAt c 0).toNat 0)) 1 0 0 la ((List.replicate (1+(((n_.tmod 6)+6).tmod 6)).toNat ((((many++[(1+(((n_.tmod 6)+6).tmod 6))]).length):Nat):Int)).length) lc (vP k2) 0 0 0 0 0,Ef692a k2 c (fitK c (((List.replicate (1+(((n_.tmod 6)+6).tmod 6)).toNat ((((many++[(1+(((n_.tmod 6)+6).tmod 6))]).length):Nat):Int)).length:Nat):Int)) 1 0 0 0]):=by
 refine cB B28 140 Tryz.func28 ?_
 intro F
 have h0:=ctl0_ok hc
 have hc':=hc
 simp only [Cfg.Ok] at hc'
 have hm7:1≤(1+(((n_.tmod 6)+6).tmod 6))∧(1+(((n_.tmod 6)+6).tmod 6))≤6:=msz_rng n_
 have hm6:=tm6_rng n_
 have hmn:(many++[(1+(((n_.tmod 6)+6).tmod 6))]).length=many.length+1:=by simp
 refine gX [.e 0,.s 1,.j 1 i.toNat,.z [0,0,1] 1 [0,1,2,6,18]] (gQ x (gO (ka=ka∧ps.length=ps.length) ⟨rfl,(by first | rfl | omega | (simp; done) | (simp; omega))⟩ (gO ((0:Int)≤i∧i<((ps.length:Nat):Int)) (by omega) (gQ (slAt ka i.toNat 1) (gO (i.toNat<ps.length) (by omega) (gS [.o [0,0,1] 1,.c [1,0,1],.c [1,1]] ?_))))))
 refine gC (some 19) [3] Tryz.call32 (k_idleI (ps.getD i.toNat 0) pv sv rv ra rc ret.length id_) ?_
 refine gX [.z [0,1,1] 1 [0,1,2,6,21]] (gS [.o [0,1,1] 1,.c [1,1,1]] ?_)
 refine gC (some 22) [0,3,4] Tryz.call35 (w_word c x ba rb now (.slice ka ps.length kc) (.slice ma many.length mc) B hc hnB hzB) ?_
 refine gC (some 23) [] Tryz.call34 (r13_Unpack (B.ws.getD (ctlAt c 0).toNat 0) hwB) ?_
 refine gX [.sp [26] [.dead] [.sp [50,49] [.dead] [.n,.n,.n,.n,.e 3,.z q87_6 7 [0,6,7,8,87,91,93]]]] (gF (decide (i≥2)) (decide_eq_false hi2) (gQ ((bAnd .i64 n_ 3)==0) (gF ((bAnd .i64 n_ 3)==0) (beq_eq_false_iff_ne.2 h3) (gO ((6:Int)≠0) (by decide) (gO (InK .i64 ((n_.tmod 6)+6)) (by simp only [InK]; omega) (gO ((6:Int)≠0) (by decide) (gO (InK .i64 (1+(((n_.tmod 6)+6).tmod 6))) (by simp only [InK]; omega) (gQ x (gN fun b_1=>gW (ks:=[.o q87_6 7,.c q87_7]) [(0,vP x),(6,vP (ps.getD i.toNat 0)),(7,vI (ctlEpoch (B.ws.getD (ctlAt c 0).toNat 0))),(8,vI (1+(((n_.tmod 6)+6).tmod 6))),(87,vP x),(91,.slice ma many.length mc),(93,.slice (some ⟨b_1,0,none⟩) 1 1)] [.sl ka kc encP 0 1 ps 68,Ee1326 ma mc many,E4463d (ps.getD i.toNat 0) pv sv rv ra ret.length rc id_,Ed2706 x c (vP ba) (vP rb) ka ps.length kc ma many.length mc now,E99bbc rb B false 0,E35fb1 B,.pts b_1 [vI (1+(((n_.tmod 6)+6).tmod 6))] 3] ?_)))))))))
 refine go_by (some 94) (appO Tryz.prog _) (some (.slice ma (many).length mc,.slice (some ⟨b_1,0,none⟩) 1 1,(3,1,8))) (R_append 1 (a:=ma) (c:=mc) (enc:=encI .i64) (d:=0) (sz:=1) (xs:=many) (te:=3) kR (.slice (some ⟨b_1,0,none⟩) 1 1) [(1+(((n_.tmod 6)+6).tmod 6))] (src_pts (i:=6) (t:=3) kR) (oneI _) 8 oW oW) kR ?_
 rintro v L2 ⟨a_2,c_3,rfl,rfl⟩
 refine gX [.e 3,.e 3,.n,.e 2,.z q87_8 1 [0,6,7,8,106]] (gQ x (gQ x (gO (InK .u64 (((many++[(1+(((n_.tmod 6)+6).tmod 6))]).length:Nat):Int)) (by simp only [InK]; omega) (gQ (ps.getD i.toNat 0) (gW (ks:=[.o q87_8 1,.c q87_9]) [(0,vP x),(6,vP (ps.getD i.toNat 0)),(7,vI (ctlEpoch (B.ws.getD (ctlAt c 0).toNat 0))),(8,vI (1+(((n_.tmod 6)+6).tmod 6))),(106,vI (1+(((n_.tmod 6)+6).tmod 6)))] [.sl ka kc encP 0 1 ps 68,Ee1326 a_2 c_3 (many++[(1+(((n_.tmod 6)+6).tmod 6))]),E72be0 (ps.getD i.toNat 0) pv sv rv ra ret.length rc ((many++[(1+(((n_.tmod 6)+6).tmod 6))]).length),Ed2706 x c (vP ba) (vP rb) ka ps.length kc a_2 ((many++[(1+(((n_.tmod 6)+6).tmod 6))]).length) c_3 now,E99bbc rb B false 0,E35fb1 B,.pts b_1 [vI (1+(((n_.tmod 6)+6).tmod 6))] 3] ?_)))))
 refine go_make (kl:=.i64) (kc:=.i64) (encI .u64) 0 (0:Int) 1 (sizedI _) 60 8 (some 107) (1+(((n_.tmod 6)+6).tmod 6)) (1+(((n_.tmod 6)+6).tmod 6)) kR (by omega) (by omega) (by omega) (by omega) ?_
 intro a_4 c_5
 refine gX [.z q87_10 0 [0,6,7,8,9,10]] (gW (ks:=[.c q87_10,.b 0,.c q87_11]) [(0,vP x),(6,vP (ps.getD i.toNat 0)),(7,vI (ctlEpoch (B.ws.getD (ctlAt c 0).toNat 0))),(8,vI (1+(((n_.tmod 6)+6).tmod 6))),(9,.slice a_4 ((List.replicate (1+(((n_.tmod 6)+6).tmod 6)).toNat (0:Int)).length) c_5),(10,vI 0)] [.sl ka kc encP 0 1 ps 68,Ee1326 a_2 c_3 (many++[(1+(((n_.tmod 6)+6).tmod 6))]),E72be0 (ps.getD i.toNat 0) pv sv rv ra ret.length rc ((many++[(1+(((n_.tmod 6)+6).tmod 6))]).length),Ed2706 x c (vP ba) (vP rb) ka ps.length kc a_2 ((many++[(1+(((n_.tmod 6)+6).tmod 6))]).length) c_3 now,E99bbc rb B false 0,E35fb1 B,.pts b_1 [vI (1+(((n_.tmod 6)+6).tmod 6))] 3,E54ea0 a_4 c_5 (List.replicate (1+(((n_.tmod 6)+6).tmod 6)).toNat (0:Int))] ?_)
 refine go_cast (tm':=[(0,vP x),(6,vP (ps.getD i.toNat 0)),(7,vI (ctlEpoch (B.ws.getD (ctlAt c 0).toNat 0))),(8,vI (1+(((n_.tmod 6)+6).tmod 6))),(9,.slice a_4 ((fillR (1+(((n_.tmod 6)+6).tmod 6)).toNat 0 ((((many++[(1+(((n_.tmod 6)+6).tmod 6))]).length):Nat):Int)).length) c_5),(10,vI 0)]) (L':=[.sl ka kc encP 0 1 ps 68,Ee1326 a_2 c_3 (many++[(1+(((n_.tmod 6)+6).tmod 6))]),E72be0 (ps.getD i.toNat 0) pv sv rv ra ret.length rc ((many++[(1+(((n_.tmod 6)+6).tmod 6))]).length),Ed2706 x c (vP ba) (vP rb) ka ps.length kc a_2 ((many++[(1+(((n_.tmod 6)+6).tmod 6))]).length) c_3 now,E99bbc rb B false 0,E35fb1 B,.pts b_1 [vI (1+(((n_.tmod 6)+6).tmod 6))] 3,E54ea0 a_4 c_5 (fillR (1+(((n_.tmod 6)+6).tmod 6)).toNat 0 ((((many++[(1+(((n_.tmod 6)+6).tmod 6))]).length):Nat):Int))]) (by rw [show(fillR (1+(((n_.tmod 6)+6).tmod 6)).toNat 0 ((((many++[(1+(((n_.tmod 6)+6).tmod 6))]).length):Nat):Int))=List.replicate (1+(((n_.tmod 6)+6).tmod 6)).toNat 0 from rfl]) ?_
 have hlen:∀j:Int,0≤j→j≤(1+(((n_.tmod 6)+6).tmod 6))→(fillR (1+(((n_.tmod 6)+6).tmod 6)).toNat j.toNat ((((many++[(1+(((n_.tmod 6)+6).tmod 6))]).length):Nat):Int)).length=(1+(((n_.tmod 6)+6).tmod 6)).toNat:=fun j h1 h2=>fillR_len (by omega)
 refine go_loop (ι := Int) (fun j=>[(0,vP x),(6,vP (ps.getD i.toNat 0)),(7,vI (ctlEpoch (B.ws.getD (ctlAt c 0).toNat 0))),(8,vI (1+(((n_.tmod 6)+6).tmod 6))),(9,.slice a_4 ((fillR (1+(((n_.tmod 6)+6).tmod 6)).toNat j.toNat ((((many++[(1+(((n_.tmod 6)+6).tmod 6))]).length):Nat):Int)).length) c_5),(10,vI j)]) (fun j=>[.sl ka kc encP 0 1 ps 68,Ee1326 a_2 c_3 (many++[(1+(((n_.tmod 6)+6).tmod 6))]),E72be0 (ps.getD i.toNat 0) pv sv rv ra ret.length rc ((many++[(1+(((n_.tmod 6)+6).tmod 6))]).length),Ed2706 x c (vP ba) (vP rb) ka ps.length kc a_2 ((many++[(1+(((n_.tmod 6)+6).tmod 6))]).length) c_3 now,E99bbc rb B false 0,E35fb1 B,.pts b_1 [vI (1+(((n_.tmod 6)+6).tmod 6))] 3,E54ea0 a_4 c_5 (fillR (1+(((n_.tmod 6)+6).tmod 6)).toNat j.toNat ((((many++[(1+(((n_.tmod 6)+6).tmod 6))]).length):Nat):Int))]) (fun j=>0≤j∧j≤(1+(((n_.tmod 6)+6).tmod 6))) (fun j=>((1+(((n_.tmod 6)+6).tmod 6))-j).toNat) 0 [0,6,7,8,9,10] [0,1,2,3,4,5,6,7] kR rfl rfl kR ⟨Int.le_refl 0,by omega⟩ ?_
 intro j J_6 hj hJ_6
 have hle:=hlen j hj.1 hj.2
 refine go_exec (rs:=[]) kR 4000 [.sp [110] [.e 2,.s 7,.j 7 j.toNat,.n,.z [] 0 [0,6,7,8,9,10]] [.z q87_12 0 [0,6,7,9]]] (o:=.br (decide (j<(1+(((n_.tmod 6)+6).tmod 6)))) (.obl ((ps.getD i.toNat 0)=(ps.getD i.toNat 0)) (.obl (a_4=a_4∧(fillR (1+(((n_.tmod 6)+6).tmod 6)).toNat j.toNat ((((many++[(1+(((n_.tmod 6)+6).tmod 6))]).length):Nat):Int)).length=(fillR (1+(((n_.tmod 6)+6).tmod 6)).toNat j.toNat ((((many++[(1+(((n_.tmod 6)+6).tmod 6))]).length):Nat):Int)).length) (.obl ((0:Int)≤j∧j<(((fillR (1+(((n_.tmod 6)+6).tmod 6)).toNat j.toNat ((((many++[(1+(((n_.tmod 6)+6).tmod 6))]).length):Nat):Int)).length:Nat):Int)) (.obl (slAt a_4 j.toNat 1=slAt a_4 j.toNat 1) (.obl (j.toNat<(fillR (1+(((n_.tmod 6)+6).tmod 6)).toNat j.toNat ((((many++[(1+(((n_.tmod 6)+6).tmod 6))]).length):Nat):Int)).length) (.ex fun x_7:Int=>.obl ([vU (((many++[(1+(((n_.tmod 6)+6).tmod 6))]).length:Nat):Int)]=(encI .u64) x_7) (.obl (InK .i64 (j+1)) (.stop [.j J_6,.b 0,.c q87_11] [(0,vP x),(6,vP (ps.getD i.toNat 0)),(7,vI (ctlEpoch (B.ws.getD (ctlAt c 0).toNat 0))),(8,vI (1+(((n_.tmod 6)+6).tmod 6))),(9,.slice a_4 ((fillR (1+(((n_.tmod 6)+6).tmod 6)).toNat j.toNat ((((many++[(1+(((n_.tmod 6)+6).tmod 6))]).length):Nat):Int)).length) c_5),(10,vI (j+1))] [.sl ka kc encP 0 1 ps 68,Ee1326 a_2 c_3 (many++[(1+(((n_.tmod 6)+6).tmod 6))]),E72be0 (ps.getD i.toNat 0) pv sv rv ra ret.length rc ((many++[(1+(((n_.tmod 6)+6).tmod 6))]).length),Ed2706 x c (vP ba) (vP rb) ka ps.length kc a_2 ((many++[(1+(((n_.tmod 6)+6).tmod 6))]).length) c_3 now,E99bbc rb B false 0,E35fb1 B,.pts b_1 [vI (1+(((n_.tmod 6)+6).tmod 6))] 3,E54ea0 a_4 c_5 ((fillR (1+(((n_.tmod 6)+6).tmod 6)).toNat j.toNat ((((many++[(1+(((n_.tmod 6)+6).tmod 6))]).length):Nat):Int)).set j.toNat x_7)])))))))) (.stop [.o q87_12 0,.c q87_13] [(0,vP x),(6,vP (ps.getD i.toNat 0)),(7,vI (ctlEpoch (B.ws.getD (ctlAt c 0).toNat 0))),(9,.slice a_4 ((fillR (1+(((n_.tmod 6)+6).tmod 6)).toNat j.toNat ((((many++[(1+(((n_.tmod 6)+6).tmod 6))]).length):Nat):Int)).length) c_5)] [.sl ka kc encP 0 1 ps 68,Ee1326 a_2 c_3 (many++[(1+(((n_.tmod 6)+6).tmod 6))]),E72be0 (ps.getD i.toNat 0) pv sv rv ra ret.length rc ((many++[(1+(((n_.tmod 6)+6).tmod 6))]).length),Ed2706 x c (vP ba) (vP rb) ka ps.length kc a_2 ((many++[(1+(((n_.tmod 6)+6).tmod 6))]).length) c_3 now,E99bbc rb B false 0,E35fb1 B,.pts b_1 [vI (1+(((n_.tmod 6)+6).tmod 6))] 3,E54ea0 a_4 c_5 (fillR (1+(((n_.tmod 6)+6).tmod 6)).toNat j.toNat ((((many++[(1+(((n_.tmod 6)+6).tmod 6))]).length):Nat):Int))])) kR ?_
 refine ok_br (fun h_8 => ?_) (fun h_8 => ?_)
 ·replace h_8:=decT h_8
  refine ok_obl rfl ?_
  refine ok_obl ⟨rfl,(by first | rfl | omega | (simp; done) | (simp; omega))⟩ ?_
  refine ok_obl (by omega) ?_
  refine ok_obl rfl ?_
  refine ok_obl (by omega) ?_
  refine ok_ex ((((many++[(1+(((n_.tmod 6)+6).tmod 6))]).length:Nat):Int):Int) ?_
  refine ok_obl rfl ?_
  refine ok_obl (by simp only [InK]; omega) ?_
  refine ok_stop ?_
  have hset:((fillR (1+(((n_.tmod 6)+6).tmod 6)).toNat j.toNat ((((many++[(1+(((n_.tmod 6)+6).tmod 6))]).length):Nat):Int))).set j.toNat ((((many++[(1+(((n_.tmod 6)+6).tmod 6))]).length):Nat):Int)=fillR (1+(((n_.tmod 6)+6).tmod 6)).toNat (j+1).toNat ((((many++[(1+(((n_.tmod 6)+6).tmod 6))]).length):Nat):Int):=by rw [fillR_set (by omega)]; congr 1; omega
  refine go_weak (tm':=[(0,vP x),(6,vP (ps.getD i.toNat 0)),(7,vI (ctlEpoch (B.ws.getD (ctlAt c 0).toNat 0))),(8,vI (1+(((n_.tmod 6)+6).tmod 6))),(9,.slice a_4 ((fillR (1+(((n_.tmod 6)+6).tmod 6)).toNat j.toNat ((((many++[(1+(((n_.tmod 6)+6).tmod 6))]).length):Nat):Int)).length) c_5),(10,vI (j+1))]) (L':=[.sl ka kc encP 0 1 ps 68,Ee1326 a_2 c_3 (many++[(1+(((n_.tmod 6)+6).tmod 6))]),E72be0 (ps.getD i.toNat 0) pv sv rv ra ret.length rc ((many++[(1+(((n_.tmod 6)+6).tmod 6))]).length),Ed2706 x c (vP ba) (vP rb) ka ps.length kc a_2 ((many++[(1+(((n_.tmod 6)+6).tmod 6))]).length) c_3 now,E99bbc rb B false 0,E35fb1 B,.pts b_1 [vI (1+(((n_.tmod 6)+6).tmod 6))] 3,E54ea0 a_4 c_5 ((fillR (1+(((n_.tmod 6)+6).tmod 6)).toNat j.toNat ((((many++[(1+(((n_.tmod 6)+6).tmod 6))]).length):Nat):Int)).set j.toNat (((many++[(1+(((n_.tmod 6)+6).tmod 6))]).length:Nat):Int))]) [0,6,7,8,9,10] [0,1,2,3,4,5,6,7] kR ?_
  refine go_cast (tm':=[(0,vP x),(6,vP (ps.getD i.toNat 0)),(7,vI (ctlEpoch (B.ws.getD (ctlAt c 0).toNat 0))),(8,vI (1+(((n_.tmod 6)+6).tmod 6))),(9,.slice a_4 ((fillR (1+(((n_.tmod 6)+6).tmod 6)).toNat (j+1).toNat ((((many++[(1+(((n_.tmod 6)+6).tmod 6))]).length):Nat):Int)).length) c_5),(10,vI (j+1))]) (L':=[.sl ka kc encP 0 1 ps 68,Ee1326 a_2 c_3 (many++[(1+(((n_.tmod 6)+6).tmod 6))]),E72be0 (ps.getD i.toNat 0) pv sv rv ra ret.length rc ((many++[(1+(((n_.tmod 6)+6).tmod 6))]).length),Ed2706 x c (vP ba) (vP rb) ka ps.length kc a_2 ((many++[(1+(((n_.tmod 6)+6).tmod 6))]).length) c_3 now,E99bbc rb B false 0,E35fb1 B,.pts b_1 [vI (1+(((n_.tmod 6)+6).tmod 6))] 3,E54ea0 a_4 c_5 (fillR (1+(((n_.tmod 6)+6).tmod 6)).toNat (j+1).toNat ((((many++[(1+(((n_.tmod 6)+6).tmod 6))]).length):Nat):Int))]) (by rw [hlen (j+1) (by omega) (by omega),←hset,hle]) ?_
  exact go_back hJ_6 (j+1) [0,1,2,3,4,5,6,7] kR kR kR ⟨by omega,by omega⟩ (by omega)
 ·replace h_8:=decF h_8
  refine ok_stop ?_
  have hfull:(fillR (1+(((n_.tmod 6)+6).tmod 6)).toNat j.toNat ((((many++[(1+(((n_.tmod 6)+6).tmod 6))]).length):Nat):Int))=(List.replicate (1+(((n_.tmod 6)+6).tmod 6)).toNat ((((many++[(1+(((n_.tmod 6)+6).tmod 6))]).length):Nat):Int)):=by rw [show j.toNat=(1+(((n_.tmod 6)+6).tmod 6)).toNat by omega]; exact fillR_all _ _
  refine go_cast (tm':=[(0,vP x),(6,vP (ps.getD i.toNat 0)),(7,vI (ctlEpoch (B.ws.getD (ctlAt c 0).toNat 0))),(9,.slice a_4 ((List.replicate (1+(((n_.tmod 6)+6).tmod 6)).toNat ((((many++[(1+(((n_.tmod 6)+6).tmod 6))]).length):Nat):Int)).length) c_5)]) (L':=[.sl ka kc encP 0 1 ps 68,Ee1326 a_2 c_3 (many++[(1+(((n_.tmod 6)+6).tmod 6))]),E72be0 (ps.getD i.toNat 0) pv sv rv ra ret.length rc ((many++[(1+(((n_.tmod 6)+6).tmod 6))]).length),Ed2706 x c (vP ba) (vP rb) ka ps.length kc a_2 ((many++[(1+(((n_.tmod 6)+6).tmod 6))]).length) c_3 now,E99bbc rb B false 0,E35fb1 B,.pts b_1 [vI (1+(((n_.tmod 6)+6).tmod 6))] 3,E54ea0 a_4 c_5 (List.replicate (1+(((n_.tmod 6)+6).tmod 6)).toNat ((((many++[(1+(((n_.tmod 6)+6).tmod 6))]).length):Nat):Int))]) (by rw [hfull]) ?_
  refine gX [.e 3,.z q87_12 7 [0,6,7,9,120,124,125,126]] (gQ x (gS [.o q87_12 7,.c q87_13] ?_))
  refine go_call (some 127) [7] Tryz.call12 (new_Pub c 0 (ctlEpoch (B.ws.getD (ctlAt c 0).toNat 0)) a_4 c_5 (List.replicate (1+(((n_.tmod 6)+6).tmod 6)).toNat ((((many++[(1+(((n_.tmod 6)+6).tmod 6))]).length):Nat):Int)) hc (by rw [List.length_replicate]; omega) hf (by omega)) kR ?_
  rintro v post ⟨p_9,k_10,bp_11,bt_12,wa_13,wc_14,rfl,rfl⟩
  refine gX [.e 2,.e 3,.z q87_13 7 [130,134,135,136]] (gQ (ps.getD i.toNat 0) (gQ x (gS [.o q87_13 7] ?_)))
  refine go_call (some 137) [] Tryz.call74 (rnew_Pub c 0 (ctlEpoch (B.ws.getD (ctlAt c 0).toNat 0)) a_4 ((List.replicate (1+(((n_.tmod 6)+6).tmod 6)).toNat ((((many++[(1+(((n_.tmod 6)+6).tmod 6))]).length):Nat):Int)).length) c_5 hc hf (by omega)) kR ?_
  rintro v post ⟨q_15,k_16,rfl,rfl⟩
  exact gX [.e 2] (gQ (ps.getD i.toNat 0) (gJ [3,0,1,2,4,5,8,9,10,11,12,7,13,14] ⟨a_2,c_3,a_4,c_5,p_9,k_10,bp_11,bt_12,wa_13,wc_14,q_15,k_16,rfl,rfl⟩))
theorem w_beginNPe(c:Cfg)(x ba rb:Nat)(now:Int)(ka ma:Option Addr)(kc mc:Nat)(ps:List Nat)(many:List Int)(B:Ar)(i n_:Int)(pv sv rv:Value)(ra:Option Addr)(rc:Nat)(id_:Int)(ret:List Int)(hi:0≤i∧i<4)(hps:ps.length=4)(hc:c.Ok)(hnB:B.ws.length=B.n)(hzB:(B.n:Int)=sizeOfC c)(hwB:U64 (B.ws.getD (ctlAt c 0).toNat 0))(hi2:¬i≥2)(h3:bAnd .i64 n_ 3=0)(hl0:¬((ret.length:Nat):Int)>0)(hml:many.length≤2000)(hf:fitK c (((List.replicate (1+(((n_.tmod 6)+6).tmod 6)).toNat ((((many++[(1+(((n_.tmod 6)+6).tmod 6))]).length):Nat):Int)).length:Nat):Int)≠-1):
  Ctr Tryz.prog 28 #[vP x,vI i,vI n_] [Ed2706 x c (vP ba) (vP rb) ka ps.length kc ma many.length mc now,.sl ka kc encP 0 1 ps 68,Ee1326 ma mc many,E4463d (ps.getD i.toNat 0) pv sv rv ra ret.length rc id_,E99bbc rb B false 0,E35fb1 B] (fun v L => ∃(ma2:Option Addr) (mc2:Nat) (la:Option Addr) (lc:Nat) (y:Nat) (k:Nat) (bp:Nat) (bt:Nat) (wa:Option Addr) (wc:Nat) (q:Nat) (k2:Nat),v=undef∧L=[Ed2706 x c (vP ba) (vP rb) ka ps.length kc ma2 ((many++[(1+(((n_.tmod 6)+6).tmod 6))]).length) mc2 now,.sl ka kc encP 0 1 ps 68,Ee1326 ma2 mc2 (many++[(1+(((n_.tmod 6)+6).tmod 6))]),E2d34c (ps.getD i.toNat 0) (vP y) (vP q) sv rv ra ret.length rc ((many++[(1+(((n_.tmod 6)+6).tmod 6))]).length),E99bbc rb B false 0,E35fb1 B,Ef60d6 y (.iface 114 (vP k)) (.func (.func 51) #[] #[vP bp,vP bt]) 0 false c (ctlAt c 0) (ctlEpoch (B.ws.getD (ctlAt c 0).toNat 0)) wa ((List.replicate (1+(((n_.tmod 6)+6).tmod 6)).toNat ((((many++[(1+(((n_.tmod 6)+6).tmod 6))]).length):Nat):Int)).length) wc 0 0 0 0 0,.pts bp [vP y] 23,.pts bt [vP k] 114,E65ea3 k c (newTk (fitK c (((List.replicate (1+(((n_.tmod 6)+6).tmod 6)).toNat ((((many++[(1+(((n_.tmod 6)+6).tmod 6))]).length):Nat):Int)).length:Nat):Int))) k,E54ea0 wa wc (List.replicate (1+(((n_.tmod 6)+6).tmod 6)).toNat ((((many++[(1+(((n_.tmod 6)+6).tmod 6))]).length):Nat):Int)),E54ea0 la lc (List.replicate (1+(((n_.tmod 6)+6).tmod 6)).toNat ((((many++[(1+(((n_.tmod 6)+6).tmod 6))]).length):Nat):Int)),Edf317 q c 0 (ctlEpoch (B.ws.getD (ctlAt c 0).toNat 0)) 1 0 0 la ((List.replicate (1+(((n_.tmod 6)+6).tmod 6)).toNat ((((many++[(1+(((n_.tmod 6)+6).tmod 6))]).length):Nat):Int)).length) lc (vP k2) 0 0 0 0 0,Ef692a k2 c (fitK c (((List.replicate (1+(((n_.tmod 6)+6).tmod 6)).toNat ((((many++[(1+(((n_.tmod 6)+6).tmod 6))]).length):Nat):Int)).length:Nat):Int)) 1 0 0 0]):=by
 refine cB B28 140 Tryz.func28 ?_
 intro F
 have h0:=ctl0_ok hc
 have hc':=hc
 simp only [Cfg.Ok] at hc'
 have hm7:1≤(1+(((n_.tmod 6)+6).tmod 6))∧(1+(((n_.tmod 6)+6).tmod 6))≤6:=msz_rng n_
 have hm6:=tm6_rng n_
 have hmn:(many++[(1+(((n_.tmod 6)+6).tmod 6))]).length=many.length+1:=by simp
 refine gX [.e 0,.s 1,.j 1 i.toNat,.z [0,0,1] 1 [0,1,2,6,18]] (gQ x (gO (ka=ka∧ps.length=ps.length) ⟨rfl,(by first | rfl | omega | (simp; done) | (simp; omega))⟩ (gO ((0:Int)≤i∧i<((ps.length:Nat):Int)) (by omega) (gQ (slAt ka i.toNat 1) (gO (i.toNat<ps.length) (by omega) (gS [.o [0,0,1] 1,.c [1,0,1],.c [1,1]] ?_))))))
 refine gC (some 19) [3] Tryz.call32 (k_idleI (ps.getD i.toNat 0) pv sv rv ra rc ret.length id_) ?_
 refine gX [.z [0,1,1] 1 [0,1,2,6,21]] (gS [.o [0,1,1] 1,.c [1,1,1]] ?_)
 refine gC (some 22) [0,3,4] Tryz.call35 (w_word c x ba rb now (.slice ka ps.length kc) (.slice ma many.length mc) B hc hnB hzB) ?_
 refine gC (some 23) [] Tryz.call34 (r13_Unpack (B.ws.getD (ctlAt c 0).toNat 0) hwB) ?_
 refine gX [.sp [26] [.dead] [.sp [50,49] [.e 2,.sp [57,56] [.dead] [.n,.n,.n,.n,.e 3,.z q87_6 7 [0,6,7,8,87,91,93]]] [.dead]]] (gF (decide (i≥2)) (decide_eq_false hi2) (gQ ((bAnd .i64 n_ 3)==0) (gT ((bAnd .i64 n_ 3)==0) (beq_iff_eq.2 h3) (gQ (ps.getD i.toNat 0) (gQ (decide (((ret.length:Nat):Int)>0)) (gF (decide (((ret.length:Nat):Int)>0)) (decide_eq_false hl0) (gO ((6:Int)≠0) (by decide) (gO (InK .i64 ((n_.tmod 6)+6)) (by simp only [InK]; omega) (gO ((6:Int)≠0) (by decide) (gO (InK .i64 (1+(((n_.tmod 6)+6).tmod 6))) (by simp only [InK]; omega) (gQ x (gN fun b_1=>gW (ks:=[.o q87_6 7,.c q87_7]) [(0,vP x),(6,vP (ps.getD i.toNat 0)),(7,vI (ctlEpoch (B.ws.getD (ctlAt c 0).toNat 0))),(8,vI (1+(((n_.tmod 6)+6).tmod 6))),(87,vP x),(91,.slice ma many.length mc),(93,.slice (some ⟨b_1,0,none⟩) 1 1)] [.sl ka kc encP 0 1 ps 68,Ee1326 ma mc many,E4463d (ps.getD i.toNat 0) pv sv rv ra ret.length rc id_,Ed2706 x c (vP ba) (vP rb) ka ps.length kc ma many.length mc now,E99bbc rb B false 0,E35fb1 B,.pts b_1 [vI (1+(((n_.tmod 6)+6).tmod 6))] 3] ?_))))))))))))
 refine go_by (some 94) (appO Tryz.prog _) (some (.slice ma (many).length mc,.slice (some ⟨b_1,0,none⟩) 1 1,(3,1,8))) (R_append 1 (a:=ma) (c:=mc) (enc:=encI .i64) (d:=0) (sz:=1) (xs:=many) (te:=3) kR (.slice (some ⟨b_1,0,none⟩) 1 1) [(1+(((n_.tmod 6)+6).tmod 6))] (src_pts (i:=6) (t:=3) kR) (oneI _) 8 oW oW) kR ?_
 rintro v L2 ⟨a_2,c_3,rfl,rfl⟩
 refine gX [.e 3,.e 3,.n,.e 2,.z q87_8 1 [0,6,7,8,106]] (gQ x (gQ x (gO (InK .u64 (((many++[(1+(((n_.tmod 6)+6).tmod 6))]).length:Nat):Int)) (by simp only [InK]; omega) (gQ (ps.getD i.toNat 0) (gW (ks:=[.o q87_8 1,.c q87_9]) [(0,vP x),(6,vP (ps.getD i.toNat 0)),(7,vI (ctlEpoch (B.ws.getD (ctlAt c 0).toNat 0))),(8,vI (1+(((n_.tmod 6)+6).tmod 6))),(106,vI (1+(((n_.tmod 6)+6).tmod 6)))] [.sl ka kc encP 0 1 ps 68,Ee1326 a_2 c_3 (many++[(1+(((n_.tmod 6)+6).tmod 6))]),E72be0 (ps.getD i.toNat 0) pv sv rv ra ret.length rc ((many++[(1+(((n_.tmod 6)+6).tmod 6))]).length),Ed2706 x c (vP ba) (vP rb) ka ps.length kc a_2 ((many++[(1+(((n_.tmod 6)+6).tmod 6))]).length) c_3 now,E99bbc rb B false 0,E35fb1 B,.pts b_1 [vI (1+(((n_.tmod 6)+6).tmod 6))] 3] ?_)))))
 refine go_make (kl:=.i64) (kc:=.i64) (encI .u64) 0 (0:Int) 1 (sizedI _) 60 8 (some 107) (1+(((n_.tmod 6)+6).tmod 6)) (1+(((n_.tmod 6)+6).tmod 6)) kR (by omega) (by omega) (by omega) (by omega) ?_
 intro a_4 c_5
 refine gX [.z q87_10 0 [0,6,7,8,9,10]] (gW (ks:=[.c q87_10,.b 0,.c q87_11]) [(0,vP x),(6,vP (ps.getD i.toNat 0)),(7,vI (ctlEpoch (B.ws.getD (ctlAt c 0).toNat 0))),(8,vI (1+(((n_.tmod 6)+6).tmod 6))),(9,.slice a_4 ((List.replicate (1+(((n_.tmod 6)+6).tmod 6)).toNat (0:Int)).length) c_5),(10,vI 0)] [.sl ka kc encP 0 1 ps 68,Ee1326 a_2 c_3 (many++[(1+(((n_.tmod 6)+6).tmod 6))]),E72be0 (ps.getD i.toNat 0) pv sv rv ra ret.length rc ((many++[(1+(((n_.tmod 6)+6).tmod 6))]).length),Ed2706 x c (vP ba) (vP rb) ka ps.length kc a_2 ((many++[(1+(((n_.tmod 6)+6).tmod 6))]).length) c_3 now,E99bbc rb B false 0,E35fb1 B,.pts b_1 [vI (1+(((n_.tmod 6)+6).tmod 6))] 3,E54ea0 a_4 c_5 (List.replicate (1+(((n_.tmod 6)+6).tmod 6)).toNat (0:Int))] ?_)
 refine go_cast (tm':=[(0,vP x),(6,vP (ps.getD i.toNat 0)),(7,vI (ctlEpoch (B.ws.getD (ctlAt c 0).toNat 0))),(8,vI (1+(((n_.tmod 6)+6).tmod 6))),(9,.slice a_4 ((fillR (1+(((n_.tmod 6)+6).tmod 6)).toNat 0 ((((many++[(1+(((n_.tmod 6)+6).tmod 6))]).length):Nat):Int)).length) c_5),(10,vI 0)]) (L':=[.sl ka kc encP 0 1 ps 68,Ee1326 a_2 c_3 (many++[(1+(((n_.tmod 6)+6).tmod 6))]),E72be0 (ps.getD i.toNat 0) pv sv rv ra ret.length rc ((many++[(1+(((n_.tmod 6)+6).tmod 6))]).length),Ed2706 x c (vP ba) (vP rb) ka ps.length kc a_2 ((many++[(1+(((n_.tmod 6)+6).tmod 6))]).length) c_3 now,E99bbc rb B false 0,E35fb1 B,.pts b_1 [vI (1+(((n_.tmod 6)+6).tmod 6))] 3,E54ea0 a_4 c_5 (fillR (1+(((n_.tmod 6)+6).tmod 6)).toNat 0 ((((many++[(1+(((n_.tmod 6)+6).tmod 6))]).length):Nat):Int))]) (by rw [show(fillR (1+(((n_.tmod 6)+6).tmod 6)).toNat 0 ((((many++[(1+(((n_.tmod 6)+6).tmod 6))]).length):Nat):Int))=List.replicate (1+(((n_.tmod 6)+6).tmod 6)).toNat 0 from rfl]) ?_
 have hlen:∀j:Int,0≤j→j≤(1+(((n_.tmod 6)+6).tmod 6))→(fillR (1+(((n_.tmod 6)+6).tmod 6)).toNat j.toNat ((((many++[(1+(((n_.tmod 6)+6).tmod 6))]).length):Nat):Int)).length=(1+(((n_.tmod 6)+6).tmod 6)).toNat:=fun j h1 h2=>fillR_len (by omega)
 refine go_loop (ι := Int) (fun j=>[(0,vP x),(6,vP (ps.getD i.toNat 0)),(7,vI (ctlEpoch (B.ws.getD (ctlAt c 0).toNat 0))),(8,vI (1+(((n_.tmod 6)+6).tmod 6))),(9,.slice a_4 ((fillR (1+(((n_.tmod 6)+6).tmod 6)).toNat j.toNat ((((many++[(1+(((n_.tmod 6)+6).tmod 6))]).length):Nat):Int)).length) c_5),(10,vI j)]) (fun j=>[.sl ka kc encP 0 1 ps 68,Ee1326 a_2 c_3 (many++[(1+(((n_.tmod 6)+6).tmod 6))]),E72be0 (ps.getD i.toNat 0) pv sv rv ra ret.length rc ((many++[(1+(((n_.tmod 6)+6).tmod 6))]).length),Ed2706 x c (vP ba) (vP rb) ka ps.length kc a_2 ((many++[(1+(((n_.tmod 6)+6).tmod 6))]).length) c_3 now,E99bbc rb B false 0,E35fb1 B,.pts b_1 [vI (1+(((n_.tmod 6)+6).tmod 6))] 3,E54ea0 a_4 c_5 (fillR (1+(((n_.tmod 6)+6).tmod 6)).toNat j.toNat ((((many++[(1+(((n_.tmod 6)+6).tmod 6))]).length):Nat):Int))]) (fun j=>0≤j∧j≤(1+(((n_.tmod 6)+6).tmod 6))) (fun j=>((1+(((n_.tmod 6)+6).tmod 6))-j).toNat) 0 [0,6,7,8,9,10] [0,1,2,3,4,5,6,7] kR rfl rfl kR ⟨Int.le_refl 0,by omega⟩ ?_
 intro j J_6 hj hJ_6
 have hle:=hlen j hj.1 hj.2
 refine go_exec (rs:=[]) kR 4000 [.sp [110] [.e 2,.s 7,.j 7 j.toNat,.n,.z [] 0 [0,6,7,8,9,10]] [.z q87_12 0 [0,6,7,9]]] (o:=.br (decide (j<(1+(((n_.tmod 6)+6).tmod 6)))) (.obl ((ps.getD i.toNat 0)=(ps.getD i.toNat 0)) (.obl (a_4=a_4∧(fillR (1+(((n_.tmod 6)+6).tmod 6)).toNat j.toNat ((((many++[(1+(((n_.tmod 6)+6).tmod 6))]).length):Nat):Int)).length=(fillR (1+(((n_.tmod 6)+6).tmod 6)).toNat j.toNat ((((many++[(1+(((n_.tmod 6)+6).tmod 6))]).length):Nat):Int)).length) (.obl ((0:Int)≤j∧j<(((fillR (1+(((n_.tmod 6)+6).tmod 6)).toNat j.toNat ((((many++[(1+(((n_.tmod 6)+6).tmod 6))]).length):Nat):Int)).length:Nat):Int)) (.obl (slAt a_4 j.toNat 1=slAt a_4 j.toNat 1) (.obl (j.toNat<(fillR (1+(((n_.tmod 6)+6).tmod 6)).toNat j.toNat ((((many++[(1+(((n_.tmod 6)+6).tmod 6))]).length):Nat):Int)).length) (.ex fun x_7:Int=>.obl ([vU (((many++[(1+(((n_.tmod 6)+6).tmod 6))]).length:Nat):Int)]=(encI .u64) x_7) (.obl (InK .i64 (j+1)) (.stop [.j J_6,.b 0,.c q87_11] [(0,vP x),(6,vP (ps.getD i.toNat 0)),(7,vI (ctlEpoch (B.ws.getD (ctlAt c 0).toNat 0))),(8,vI (1+(((n_.tmod 6)+6).tmod 6))),(9,.slice a_4 ((fillR (1+(((n_.tmod 6)+6).tmod 6)).toNat j.toNat ((((many++[(1+(((n_.tmod 6)+6).tmod 6))]).length):Nat):Int)).length) c_5),(10,vI (j+1))] [.sl ka kc encP 0 1 ps 68,Ee1326 a_2 c_3 (many++[(1+(((n_.tmod 6)+6).tmod 6))]),E72be0 (ps.getD i.toNat 0) pv sv rv ra ret.length rc ((many++[(1+(((n_.tmod 6)+6).tmod 6))]).length),Ed2706 x c (vP ba) (vP rb) ka ps.length kc a_2 ((many++[(1+(((n_.tmod 6)+6).tmod 6))]).length) c_3 now,E99bbc rb B false 0,E35fb1 B,.pts b_1 [vI (1+(((n_.tmod 6)+6).tmod 6))] 3,E54ea0 a_4 c_5 ((fillR (1+(((n_.tmod 6)+6).tmod 6)).toNat j.toNat ((((many++[(1+(((n_.tmod 6)+6).tmod 6))]).length):Nat):Int)).set j.toNat x_7)])))))))) (.stop [.o q87_12 0,.c q87_13] [(0,vP x),(6,vP (ps.getD i.toNat 0)),(7,vI (ctlEpoch (B.ws.getD (ctlAt c 0).toNat 0))),(9,.slice a_4 ((fillR (1+(((n_.tmod 6)+6).tmod 6)).toNat j.toNat ((((many++[(1+(((n_.tmod 6)+6).tmod 6))]).length):Nat):Int)).length) c_5)] [.sl ka kc encP 0 1 ps 68,Ee1326 a_2 c_3 (many++[(1+(((n_.tmod 6)+6).tmod 6))]),E72be0 (ps.getD i.toNat 0) pv sv rv ra ret.length rc ((many++[(1+(((n_.tmod 6)+6).tmod 6))]).length),Ed2706 x c (vP ba) (vP rb) ka ps.length kc a_2 ((many++[(1+(((n_.tmod 6)+6).tmod 6))]).length) c_3 now,E99bbc rb B false 0,E35fb1 B,.pts b_1 [vI (1+(((n_.tmod 6)+6).tmod 6))] 3,E54ea0 a_4 c_5 (fillR (1+(((n_.tmod 6)+6).tmod 6)).toNat j.toNat ((((many++[(1+(((n_.tmod 6)+6).tmod 6))]).length):Nat):Int))])) kR ?_
 refine ok_br (fun h_8 => ?_) (fun h_8 => ?_)
 ·replace h_8:=decT h_8
  refine ok_obl rfl ?_
  refine ok_obl ⟨rfl,(by first | rfl | omega | (simp; done) | (simp; omega))⟩ ?_
  refine ok_obl (by omega) ?_
  refine ok_obl rfl ?_
  refine ok_obl (by omega) ?_
  refine ok_ex ((((many++[(1+(((n_.tmod 6)+6).tmod 6))]).length:Nat):Int):Int) ?_
  refine ok_obl rfl ?_
  refine ok_obl (by simp only [InK]; omega) ?_
  refine ok_stop ?_
  have hset:((fillR (1+(((n_.tmod 6)+6).tmod 6)).toNat j.toNat ((((many++[(1+(((n_.tmod 6)+6).tmod 6))]).length):Nat):Int))).set j.toNat ((((many++[(1+(((n_.tmod 6)+6).tmod 6))]).length):Nat):Int)=fillR (1+(((n_.tmod 6)+6).tmod 6)).toNat (j+1).toNat ((((many++[(1+(((n_.tmod 6)+6).tmod 6))]).length):Nat):Int):=by rw [fillR_set (by omega)]; congr 1; omega
  refine go_weak (tm':=[(0,vP x),(6,vP (ps.getD i.toNat 0)),(7,vI (ctlEpoch (B.ws.getD (ctlAt c 0).toNat 0))),(8,vI (1+(((n_.tmod 6)+6).tmod 6))),(9,.slice a_4 ((fillR (1+(((n_.tmod 6)+6).tmod 6)).toNat j.toNat ((((many++[(1+(((n_.tmod 6)+6).tmod 6))]).length):Nat):Int)).length) c_5),(10,vI (j+1))]) (L':=[.sl ka kc encP 0 1 ps 68,Ee1326 a_2 c_3 (many++[(1+(((n_.tmod 6)+6).tmod 6))]),E72be0 (ps.getD i.toNat 0) pv sv rv ra ret.length rc ((many++[(1+(((n_.tmod 6)+6).tmod 6))]).length),Ed2706 x c (vP ba) (vP rb) ka ps.length kc a_2 ((many++[(1+(((n_.tmod 6)+6).tmod 6))]).length) c_3 now,E99bbc rb B false 0,E35fb1 B,.pts b_1 [vI (1+(((n_.tmod 6)+6).tmod 6))] 3,E54ea0 a_4 c_5 ((fillR (1+(((n_.tmod 6)+6).tmod 6)).toNat j.toNat ((((many++[(1+(((n_.tmod 6)+6).tmod 6))]).length):Nat):Int)).set j.toNat (((many++[(1+(((n_.tmod 6)+6).tmod 6))]).length:Nat):Int))]) [0,6,7,8,9,10] [0,1,2,3,4,5,6,7] kR ?_
  refine go_cast (tm':=[(0,vP x),(6,vP (ps.getD i.toNat 0)),(7,vI (ctlEpoch (B.ws.getD (ctlAt c 0).toNat 0))),(8,vI (1+(((n_.tmod 6)+6).tmod 6))),(9,.slice a_4 ((fillR (1+(((n_.tmod 6)+6).tmod 6)).toNat (j+1).toNat ((((many++[(1+(((n_.tmod 6)+6).tmod 6))]).length):Nat):Int)).length) c_5),(10,vI (j+1))]) (L':=[.sl ka kc encP 0 1 ps 68,Ee1326 a_2 c_3 (many++[(1+(((n_.tmod 6)+6).tmod 6))]),E72be0 (ps.getD i.toNat 0) pv sv rv ra ret.length rc ((many++[(1+(((n_.tmod 6)+6).tmod 6))]).length),Ed2706 x c (vP ba) (vP rb) ka ps.length kc a_2 ((many++[(1+(((n_.tmod 6)+6).tmod 6))]).length) c_3 now,E99bbc rb B false 0,E35fb1 B,.pts b_1 [vI (1+(((n_.tmod 6)+6).tmod 6))] 3,E54ea0 a_4 c_5 (fillR (1+(((n_.tmod 6)+6).tmod 6)).toNat (j+1).toNat ((((many++[(1+(((n_.tmod 6)+6).tmod 6))]).length):Nat):Int))]) (by rw [hlen (j+1) (by omega) (by omega),←hset,hle]) ?_
  exact go_back hJ_6 (j+1) [0,1,2,3,4,5,6,7] kR kR kR ⟨by omega,by omega⟩ (by omega)
 ·replace h_8:=decF h_8
  refine ok_stop ?_
  have hfull:(fillR (1+(((n_.tmod 6)+6).tmod 6)).toNat j.toNat ((((many++[(1+(((n_.tmod 6)+6).tmod 6))]).length):Nat):Int))=(List.replicate (1+(((n_.tmod 6)+6).tmod 6)).toNat ((((many++[(1+(((n_.tmod 6)+6).tmod 6))]).length):Nat):Int)):=by rw [show j.toNat=(1+(((n_.tmod 6)+6).tmod 6)).toNat by omega]; exact fillR_all _ _
  refine go_cast (tm':=[(0,vP x),(6,vP (ps.getD i.toNat 0)),(7,vI (ctlEpoch (B.ws.getD (ctlAt c 0).toNat 0))),(9,.slice a_4 ((List.replicate (1+(((n_.tmod 6)+6).tmod 6)).toNat ((((many++[(1+(((n_.tmod 6)+6).tmod 6))]).length):Nat):Int)).length) c_5)]) (L':=[.sl ka kc encP 0 1 ps 68,Ee1326 a_2 c_3 (many++[(1+(((n_.tmod 6)+6).tmod 6))]),E72be0 (ps.getD i.toNat 0) pv sv rv ra ret.length rc ((many++[(1+(((n_.tmod 6)+6).tmod 6))]).length),Ed2706 x c (vP ba) (vP rb) ka ps.length kc a_2 ((many++[(1+(((n_.tmod 6)+6).tmod 6))]).length) c_3 now,E99bbc rb B false 0,E35fb1 B,.pts b_1 [vI (1+(((n_.tmod 6)+6).tmod 6))] 3,E54ea0 a_4 c_5 (List.replicate (1+(((n_.tmod 6)+6).tmod 6)).toNat ((((many++[(1+(((n_.tmod 6)+6).tmod 6))]).length):Nat):Int))]) (by rw [hfull]) ?_
  refine gX [.e 3,.z q87_12 7 [0,6,7,9,120,124,125,126]] (gQ x (gS [.o q87_12 7,.c q87_13] ?_))
  refine go_call (some 127) [7] Tryz.call12 (new_Pub c 0 (ctlEpoch (B.ws.getD (ctlAt c 0).toNat 0)) a_4 c_5 (List.replicate (1+(((n_.tmod 6)+6).tmod 6)).toNat ((((many++[(1+(((n_.tmod 6)+6).tmod 6))]).length):Nat):Int)) hc (by rw [List.length_replicate]; omega) hf (by omega)) kR ?_
  rintro v post ⟨p_9,k_10,bp_11,bt_12,wa_13,wc_14,rfl,rfl⟩
  refine gX [.e 2,.e 3,.z q87_13 7 [130,134,135,136]] (gQ (ps.getD i.toNat 0) (gQ x (gS [.o q87_13 7] ?_)))
  refine go_call (some 137) [] Tryz.call74 (rnew_Pub c 0 (ctlEpoch (B.ws.getD (ctlAt c 0).toNat 0)) a_4 ((List.replicate (1+(((n_.tmod 6)+6).tmod 6)).toNat ((((many++[(1+(((n_.tmod 6)+6).tmod 6))]).length):Nat):Int)).length) c_5 hc hf (by omega)) kR ?_
  rintro v post ⟨q_15,k_16,rfl,rfl⟩
  exact gX [.e 2] (gQ (ps.getD i.toNat 0) (gJ [3,0,1,2,4,5,8,9,10,11,12,7,13,14] ⟨a_2,c_3,a_4,c_5,p_9,k_10,bp_11,bt_12,wa_13,wc_14,q_15,k_16,rfl,rfl⟩))
end Go.Proofs.YtpcaijopodhdgaaGreatDoor

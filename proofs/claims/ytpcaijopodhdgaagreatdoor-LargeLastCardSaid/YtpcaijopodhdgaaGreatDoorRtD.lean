/- Walks: what functions of the program and of the document compute, part 4 of those on which LargeLast rests. -/
import Derived.Test.YtpcaijopodhdgaaGreatDoorRtC

set_option linter.unusedVariables false
set_option linter.unusedSimpArgs false
namespace Go.Proofs.YtpcaijopodhdgaaGreatDoor
open Go.Sx
abbrev Eff665(x0:Nat)(x1:Value)(x2:Value)(x3:Value)(x4:Value)(x5:Option Addr)(x6:Nat)(x7:Nat)(x8:Int): Ent:=.pts x0 [x1,.pointer none,.pointer none,x2,x3,x4,.slice x5 x6 x7,.int .u64 x8] 74
structure KlH where
 pv:Value
 sv:Value
 rv:Value
 ra:Option Addr
 rc:Nat
 y:Nat
noncomputable def klL(c:Cfg)(p:Nat)(k:Kc)(h:KlH): List Ent:=match k.d with
 | .idle=>[E4463d p h.pv h.sv h.rv h.ra k.ret.length h.rc k.id,Ee1326 h.ra h.rc k.ret]
 | .pub ep ws S=>[Eff665 p (vP h.y) h.pv h.sv h.rv h.ra k.ret.length h.rc k.id,Ee1326 h.ra h.rc k.ret,.res (PbR h.y c (ctlAt c 0) ep ws S)]
 | .scan S=>[Eb05f6 p (vP h.y) h.pv h.sv h.rv h.ra k.ret.length h.rc k.id,Ee1326 h.ra h.rc k.ret,.res (ScanR h.y c S)]
 | .read cl ep S=>[E70a74 p (vP h.y) h.pv h.sv h.rv h.ra k.ret.length h.rc k.id,Ee1326 h.ra h.rc k.ret,.res (RdR h.y c cl 0 ep S)]
noncomputable def KlR(c:Cfg)(p:Nat)(k:Kc): Res:=Box (fun _:KlH=>True) (klL c p k)
noncomputable abbrev KsR(ps:List Nat)(ks:List Kc)(c:Cfg): Res:=AllR (KlR c) (ps.zip ks)
noncomputable abbrev KsX(ps:List Nat)(ks:List Kc)(n:Nat)(c:Cfg): Res:=AllR (KlR c) ((ps.zip ks).eraseIdx n)
theorem zip_at{ps:List Nat}{ks:List Kc}(n:Nat)(h1:n<ps.length)(h2:n<ks.length): (ps.zip ks).getD n (0,dK)=(ps.getD n 0,ks.getD n dK):=by
 have h:n<(ps.zip ks).length:=by rw [List.length_zip]; omega
 simp [List.getD_eq_getElem?_getD,h1,h2,List.getElem?_eq_getElem h]
theorem zip_put{ps:List Nat}{ks:List Kc}(n:Nat)(k:Kc): (ps.zip ks).set n (ps.getD n 0,k)=ps.zip (ks.set n k):=by
 induction ps generalizing ks n with
 | nil=>simp
 | cons p ps ih=>
  cases ks with
  | nil=>simp
  | cons q ks=>
   cases n with
   | zero=>simp
   | succ n=>simpa using ih n
theorem ks_focus{L:List Ent}{ps:List Nat}{ks:List Kc}{c:Cfg}(j n:Nat)(h1:n<ps.length)(h2:n<ks.length)(h:(pick L [j],places L.length [j])=([.res (KsR ps ks c)],true):=by kernel_rfl):
  View L (dropAt L [j]++[.res (KlR c (ps.getD n 0) (ks.getD n dK)),.res (KsX ps ks n c)]):=by
 have hv:=view_focus (M:=dropAt L [j]) (pred:=KlR c) (qs:=ps.zip ks) j n (0,dK) (by rw [List.length_zip]; omega) (by rw [Prod.mk.injEq] at h; rw [h.1,h.2])
 rw [zip_at n h1 h2] at hv
 exact hv
theorem ks_unfocus{L:List Ent}{ps:List Nat}{ks:List Kc}{c:Cfg}(i j n:Nat)(k:Kc)(h1:n<ps.length)(h2:n<ks.length)(h:(pick L [i,j],places L.length [i,j])=([.res (KlR c (ps.getD n 0) k),.res (KsX ps ks n c)],true):=by kernel_rfl):
  View L (dropAt L [i,j]++[.res (KsR ps (ks.set n k) c)]):=by
 have hv:=view_unfocus (M:=dropAt L [i,j]) (pred:=KlR c) (qs:=ps.zip ks) i j n (ps.getD n 0) k (by rw [List.length_zip]; omega) (by rw [Prod.mk.injEq] at h; rw [h.1,h.2])
 rw [zip_put] at hv
 exact hv
theorem ks_back{L:List Ent}{ps:List Nat}{ks:List Kc}{c:Cfg}(i j n:Nat)(k:Kc)(hk:ks.getD n dK=k)(h1:n<ps.length)(h2:n<ks.length)(h:(pick L [i,j],places L.length [i,j])=([.res (KlR c (ps.getD n 0) k),.res (KsX ps ks n c)],true):=by kernel_rfl):
  View L (dropAt L [i,j]++[.res (KsR ps ks c)]):=by
 have hv:=ks_unfocus i j n k h1 h2 h
 have e:ks.set n k=ks:=by
  rw [←hk,List.getD_eq_getElem?_getD,List.getElem?_eq_getElem h2]
  exact List.set_getElem_self h2
 rw [e] at hv
 exact hv
theorem w_step(o_:Obj)(c:Cfg)(x ba rb:Nat)(now:Int)(ka ma:Option Addr)(kc mc:Nat)(ps:List Nat)(many:List Int)(A:Ar)(i:Int)(ks:List Kc)(ho:IsH o_)(hc:c.Ok)(hn:A.ws.length=A.n)(hs:0≤A.steps∧A.steps≤1000000)(hz:(A.n:Int)=sizeOfC c)(hR:RngW A.ws)(hi:0≤i∧i<4)(hps:ps.length=4)(hks:ks.length=4)(hK:Kc.Ok c A i (ks.getD i.toNat dK)):
  Ctr Tryz.prog 29 #[vP x,vI i] [.raw 0 o_,Ed2706 x c (vP ba) (vP rb) ka ps.length kc ma many.length mc now,.sl ka kc encP 0 1 ps 68,E3504b ba A,E35fb1 A,.res (KsR ps ks c)] (fun v L => ∃(a2:Option Addr) (c2:Nat),v = .tuple #[.slice a2 (((ks.getD i.toNat dK).step c now A).t.l.length) c2,vI (((ks.getD i.toNat dK).step c now A).t.e),.bool (((ks.getD i.toNat dK).step c now A).t.done)]∧L=[.raw 0 o_,Ed2706 x c (vP ba) (vP rb) ka ps.length kc ma many.length mc (((ks.getD i.toNat dK).step c now A).now),.sl ka kc encP 0 1 ps 68,E3504b ba (((ks.getD i.toNat dK).step c now A).A),E35fb1 (((ks.getD i.toNat dK).step c now A).A),.res (KsR ps (ks.set i.toNat ((ks.getD i.toNat dK).step c now A).k) c),E54ea0 a2 c2 (((ks.getD i.toNat dK).step c now A).t.l)]):=by
 have hc':=hc
 simp only [Cfg.Ok] at hc'
 have hsz:=sizeOfC_ok hc
 have htp:(0:Int)≤0∧(0:Int)<c.topics:=by omega
 refine ctr_view (ks_focus 5 i.toNat (ps:=ps) (ks:=ks) (c:=c) (by omega) (by omega)) ?_
 generalize hk:ks.getD i.toNat dK=k at hK
 refine oC (I:=fun _:KlH=>True) (LL:=klL c (ps.getD i.toNat 0) k) 5 ?_
 rintro⟨pv,sv,rv,ra,rc,y⟩ -
 obtain⟨d,ret,id_⟩:=k
 have hl:=hK.1
 have hK2:=hK.2
 cases d with
 | idle=>
  have e:Kc.step c now ⟨.idle,ret,id_⟩ A=⟨⟨.idle,ret,id_⟩,A,now,⟨[],1,true⟩⟩:=by rfl
  rw [e]
  refine cP [1,2,6] (w_stepI c x ba rb now ka ma kc mc ps many A i pv sv rv ra rc id_ ret hi hps) ?_
  rintro v post ⟨rfl,rfl⟩
  exact⟨_,(((vK (fun _:KlH=>True) (klL c (ps.getD i.toNat 0) ⟨.idle,ret,id_⟩) ⟨pv,sv,rv,ra,rc,y⟩ [7,4] trivial).trans (ks_unfocus (ps:=ps) (ks:=ks) (c:=c) 6 3 i.toNat ⟨.idle,ret,id_⟩ (by omega) (by omega))).trans (view_nil (encI .u64) 0 1 60 (sizedI _))).trans (vQ [0,3,4,1,2,5,6]),none,0,rfl,rfl⟩
 | pub ep ws S=>
  have hS:=hK2.1
  by_cases hd:(S.step c (ctlAt c 0) ep ws A).1.ph=0
  ·have hcd:0≤(S.step c (ctlAt c 0) ep ws A).1.code:=((pb_step (k:=A.steps) (at_:=ctlAt c 0) (ep:=ep) hc hK2.2.1 hS ⟨hn,hz,hR,hs.1,Int.le_refl _⟩).1).c0
   by_cases ho1:(Pb.told (S.step c (ctlAt c 0) ep ws A).1).1>0
   ·by_cases hk1:(Pb.told (S.step c (ctlAt c 0) ep ws A).1).2=0
    ·skip
     have e:Kc.step c now ⟨.pub ep ws S,ret,id_⟩ A=⟨⟨.idle,ret++[(Pb.told (S.step c (ctlAt c 0) ep ws A).1).1],id_⟩,(S.step c (ctlAt c 0) ep ws A).2,id_,⟨[],(Pb.told (S.step c (ctlAt c 0) ep ws A).1).2,true⟩⟩:=by unfold Kc.step; simp only; rw [if_pos hd,if_pos ho1,if_pos hk1]
     rw [e]
     refine cP [0,1,2,6,7,8,3,4] (w_stepPDYK c x ba rb now ka ma kc mc ps many A i pv sv rv ra rc id_ ret y (ctlAt c 0) ep ws S (.pointer none) (.pointer none) o_ hi hps hc hn (by omega) hz hR (by have:=ctl0_ok hc; omega) hS hd ho1 hk1 hl ho) ?_
     rintro v post ⟨ra2_1,rc2_2,rfl,rfl⟩
     exact⟨_,(((vK (fun _:KlH=>True) (klL c (ps.getD i.toNat 0) ⟨.idle,ret++[(Pb.told (S.step c (ctlAt c 0) ep ws A).1).1],id_⟩) ⟨pv,sv,rv,ra2_1,rc2_2,y⟩ [4,5] trivial).trans (ks_unfocus (ps:=ps) (ks:=ks) (c:=c) 7 0 i.toNat ⟨.idle,ret++[(Pb.told (S.step c (ctlAt c 0) ep ws A).1).1],id_⟩ (by omega) (by omega))).trans (view_nil (encI .u64) 0 1 60 (sizedI _))).trans (vQ [0,1,2,4,5,6,7]),none,0,rfl,rfl⟩
    ·skip
     have e:Kc.step c now ⟨.pub ep ws S,ret,id_⟩ A=⟨⟨.idle,ret++[(Pb.told (S.step c (ctlAt c 0) ep ws A).1).1],id_⟩,(S.step c (ctlAt c 0) ep ws A).2,now,⟨[],(Pb.told (S.step c (ctlAt c 0) ep ws A).1).2,true⟩⟩:=by unfold Kc.step; simp only; rw [if_pos hd,if_pos ho1,if_neg hk1]
     rw [e]
     refine cP [0,1,2,6,7,8,3,4] (w_stepPDYE c x ba rb now ka ma kc mc ps many A i pv sv rv ra rc id_ ret y (ctlAt c 0) ep ws S (.pointer none) (.pointer none) o_ hi hps hc hn (by omega) hz hR (by have:=ctl0_ok hc; omega) hS hd ho1 hk1 hl ho) ?_
     rintro v post ⟨ra2_1,rc2_2,rfl,rfl⟩
     exact⟨_,(((vK (fun _:KlH=>True) (klL c (ps.getD i.toNat 0) ⟨.idle,ret++[(Pb.told (S.step c (ctlAt c 0) ep ws A).1).1],id_⟩) ⟨pv,sv,rv,ra2_1,rc2_2,y⟩ [4,5] trivial).trans (ks_unfocus (ps:=ps) (ks:=ks) (c:=c) 7 0 i.toNat ⟨.idle,ret++[(Pb.told (S.step c (ctlAt c 0) ep ws A).1).1],id_⟩ (by omega) (by omega))).trans (view_nil (encI .u64) 0 1 60 (sizedI _))).trans (vQ [0,1,2,4,5,6,7]),none,0,rfl,rfl⟩
   ·by_cases hk1:(Pb.told (S.step c (ctlAt c 0) ep ws A).1).2=0
    ·skip
     have e:Kc.step c now ⟨.pub ep ws S,ret,id_⟩ A=⟨⟨.idle,ret,id_⟩,(S.step c (ctlAt c 0) ep ws A).2,id_,⟨[],(Pb.told (S.step c (ctlAt c 0) ep ws A).1).2,true⟩⟩:=by unfold Kc.step; simp only; rw [if_pos hd,if_neg ho1,if_pos hk1]
     rw [e]
     refine cP [0,1,2,6,7,8,3,4] (w_stepPDNK c x ba rb now ka ma kc mc ps many A i pv sv rv ra rc id_ ret y (ctlAt c 0) ep ws S (.pointer none) (.pointer none) o_ hi hps hc hn (by omega) hz hR (by have:=ctl0_ok hc; omega) hS hd ho1 hk1 hl ho) ?_
     rintro v post ⟨rfl,rfl⟩
     exact⟨_,(((vK (fun _:KlH=>True) (klL c (ps.getD i.toNat 0) ⟨.idle,ret,id_⟩) ⟨pv,sv,rv,ra,rc,y⟩ [4,5] trivial).trans (ks_unfocus (ps:=ps) (ks:=ks) (c:=c) 7 0 i.toNat ⟨.idle,ret,id_⟩ (by omega) (by omega))).trans (view_nil (encI .u64) 0 1 60 (sizedI _))).trans (vQ [0,1,2,4,5,6,7]),none,0,rfl,rfl⟩
    ·skip
     have e:Kc.step c now ⟨.pub ep ws S,ret,id_⟩ A=⟨⟨.idle,ret,id_⟩,(S.step c (ctlAt c 0) ep ws A).2,now,⟨[],(Pb.told (S.step c (ctlAt c 0) ep ws A).1).2,true⟩⟩:=by unfold Kc.step; simp only; rw [if_pos hd,if_neg ho1,if_neg hk1]
     rw [e]
     refine cP [0,1,2,6,7,8,3,4] (w_stepPDNE c x ba rb now ka ma kc mc ps many A i pv sv rv ra rc id_ ret y (ctlAt c 0) ep ws S (.pointer none) (.pointer none) o_ hi hps hc hn (by omega) hz hR (by have:=ctl0_ok hc; omega) hS hd ho1 hk1 hl ho) ?_
     rintro v post ⟨rfl,rfl⟩
     exact⟨_,(((vK (fun _:KlH=>True) (klL c (ps.getD i.toNat 0) ⟨.idle,ret,id_⟩) ⟨pv,sv,rv,ra,rc,y⟩ [4,5] trivial).trans (ks_unfocus (ps:=ps) (ks:=ks) (c:=c) 7 0 i.toNat ⟨.idle,ret,id_⟩ (by omega) (by omega))).trans (view_nil (encI .u64) 0 1 60 (sizedI _))).trans (vQ [0,1,2,4,5,6,7]),none,0,rfl,rfl⟩
  ·skip
   have e:Kc.step c now ⟨.pub ep ws S,ret,id_⟩ A=⟨⟨.pub ep ws (S.step c (ctlAt c 0) ep ws A).1,ret,id_⟩,(S.step c (ctlAt c 0) ep ws A).2,now,⟨[],0,false⟩⟩:=by unfold Kc.step; simp only; rw [if_neg hd]
   rw [e]
   refine cP [1,2,6,8,3,4] (w_stepPN c x ba rb now ka ma kc mc ps many A i pv sv rv ra rc id_ ret y (ctlAt c 0) ep ws S (.pointer none) (.pointer none) hi hps hc hn (by omega) hz hR (by have:=ctl0_ok hc; omega) hS hd) ?_
   rintro v post ⟨rfl,rfl⟩
   exact⟨_,(((vK (fun _:KlH=>True) (klL c (ps.getD i.toNat 0) ⟨.pub ep ws (S.step c (ctlAt c 0) ep ws A).1,ret,id_⟩) ⟨pv,sv,rv,ra,rc,y⟩ [5,2,6] trivial).trans (ks_unfocus (ps:=ps) (ks:=ks) (c:=c) 6 1 i.toNat ⟨.pub ep ws (S.step c (ctlAt c 0) ep ws A).1,ret,id_⟩ (by omega) (by omega))).trans (view_nil (encI .u64) 0 1 60 (sizedI _))).trans (vQ [0,1,2,3,4,5,6]),none,0,rfl,rfl⟩
 | scan S=>
  have hA:A.Ok c:=ArW.ok ⟨hn,hz,hR,hs.1,Int.le_refl _⟩ (by omega)
  have hS:=hK2.1.ok hc hz
  have hl:=(sc_step hc hK2.1 (k:=A.steps) ⟨hn,hz,hR,hs.1,Int.le_refl _⟩).1.len
  have hl:(S.step c A).1.kept.length+(S.step c A).1.left.length≤100:=by omega
  cases hd:Sc.done c (S.step c A).1 with
  | true=>
   have e:Kc.step c now ⟨.scan S,ret,id_⟩ A=⟨⟨.idle,((S.step c A).1.kept++(S.step c A).1.left),id_⟩,(S.step c A).2,now,⟨[],0,true⟩⟩:=by unfold Kc.step; simp only; rw [hd]; rfl
   rw [e]
   refine cP [1,2,6,8,3,4] (w_stepSD c x ba rb now ka ma kc mc ps many A i pv sv rv ra rc id_ ret y S (.pointer none) hi hps hc hS hA hl hd) ?_
   rintro v post ⟨ra2_1,rc2_2,rfl,rfl⟩
   exact⟨_,(((vK (fun _:KlH=>True) (klL c (ps.getD i.toNat 0) ⟨.idle,((S.step c A).1.kept++(S.step c A).1.left),id_⟩) ⟨pv,sv,rv,ra2_1,rc2_2,y⟩ [5,6] trivial).trans (ks_unfocus (ps:=ps) (ks:=ks) (c:=c) 8 1 i.toNat ⟨.idle,((S.step c A).1.kept++(S.step c A).1.left),id_⟩ (by omega) (by omega))).trans (view_nil (encI .u64) 0 1 60 (sizedI _))).trans (vQ [0,2,3,5,6,7,8]),none,0,rfl,rfl⟩
  | false=>
   have e:Kc.step c now ⟨.scan S,ret,id_⟩ A=⟨⟨.scan (S.step c A).1,((S.step c A).1.kept++(S.step c A).1.left),id_⟩,(S.step c A).2,now,⟨[],0,false⟩⟩:=by unfold Kc.step; simp only; rw [hd]; rfl
   rw [e]
   refine cP [1,2,6,8,3,4] (w_stepSN c x ba rb now ka ma kc mc ps many A i pv sv rv ra rc id_ ret y S (.pointer none) hi hps hc hS hA hl hd) ?_
   rintro v post ⟨ra2_1,rc2_2,rfl,rfl⟩
   exact⟨_,(((vK (fun _:KlH=>True) (klL c (ps.getD i.toNat 0) ⟨.scan (S.step c A).1,((S.step c A).1.kept++(S.step c A).1.left),id_⟩) ⟨pv,sv,rv,ra2_1,rc2_2,y⟩ [5,6,7] trivial).trans (ks_unfocus (ps:=ps) (ks:=ks) (c:=c) 7 1 i.toNat ⟨.scan (S.step c A).1,((S.step c A).1.kept++(S.step c A).1.left),id_⟩ (by omega) (by omega))).trans (view_nil (encI .u64) 0 1 60 (sizedI _))).trans (vQ [0,2,3,4,5,6,7]),none,0,rfl,rfl⟩
 | read cl ep S=>
  have hS:=hK2.1
  have hC:=hK2.2.2.1
  by_cases hd:(S.step c cl 0 ep A).1.ph=0
  ·have hl:=(rd_step (ep:=ep) hc hS (k:=A.steps) ⟨hn,hz,hR,hs.1,Int.le_refl _⟩ htp hC).1.wl
   have e:Kc.step c now ⟨.read cl ep S,ret,id_⟩ A=⟨⟨.idle,ret,id_⟩,(S.step c cl 0 ep A).2,now,⟨(Rd.told (S.step c cl 0 ep A).1).1,(Rd.told (S.step c cl 0 ep A).1).2,true⟩⟩:=by unfold Kc.step; simp only; rw [if_pos hd]
   rw [e]
   refine cP [0,1,2,6,8,3,4] (w_stepRD c x ba rb now ka ma kc mc ps many A i pv sv rv ra rc id_ ret y cl 0 ep S o_ hi hps hc hn (by omega) hz hR htp hC hS ho hd hl) ?_
   rintro v post ⟨a2_1,c2_2,rfl,rfl⟩
   exact⟨_,((vK (fun _:KlH=>True) (klL c (ps.getD i.toNat 0) ⟨.idle,ret,id_⟩) ⟨pv,sv,rv,ra,rc,y⟩ [5,1] trivial).trans (ks_unfocus (ps:=ps) (ks:=ks) (c:=c) 8 0 i.toNat ⟨.idle,ret,id_⟩ (by omega) (by omega))).trans (vQ [0,1,2,5,6,7,4]),a2_1,c2_2,rfl,rfl⟩
  ·skip
   have e:Kc.step c now ⟨.read cl ep S,ret,id_⟩ A=⟨⟨.read cl ep (S.step c cl 0 ep A).1,ret,id_⟩,(S.step c cl 0 ep A).2,now,⟨[],0,false⟩⟩:=by unfold Kc.step; simp only; rw [if_neg hd]
   rw [e]
   refine cP [0,1,2,6,8,3,4] (w_stepRN c x ba rb now ka ma kc mc ps many A i pv sv rv ra rc id_ ret y cl 0 ep S o_ hi hps hc hn (by omega) hz hR htp hC hS ho hd) ?_
   rintro v post ⟨rfl,rfl⟩
   exact⟨_,(((vK (fun _:KlH=>True) (klL c (ps.getD i.toNat 0) ⟨.read cl ep (S.step c cl 0 ep A).1,ret,id_⟩) ⟨pv,sv,rv,ra,rc,y⟩ [5,1,6] trivial).trans (ks_unfocus (ps:=ps) (ks:=ks) (c:=c) 6 0 i.toNat ⟨.read cl ep (S.step c cl 0 ep A).1,ret,id_⟩ (by omega) (by omega))).trans (view_nil (encI .u64) 0 1 60 (sizedI _))).trans (vQ [0,1,2,3,4,5,6]),none,0,rfl,rfl⟩
theorem w_begin(c:Cfg)(x ba rb:Nat)(now:Int)(ka ma:Option Addr)(kc mc:Nat)(ps:List Nat)(many:List Int)(B:Ar)(i n_:Int)(ks:List Kc)(hi:0≤i∧i<4)(hps:ps.length=4)(hc:c.Ok)(hnB:B.ws.length=B.n)(hzB:(B.n:Int)=sizeOfC c)(hwB:U64 (B.ws.getD (ctlAt c 0).toNat 0))(hml:many.length≤2000)(hcl:c.clients=4∧c.s0=4∧c.s1=6)(hks:ks.length=4)(hG:goodRow c (ks.getD i.toNat dK).ret∧(ks.getD i.toNat dK).ret.length≤100):
  Ctr Tryz.prog 28 #[vP x,vI i,vI n_] [Ed2706 x c (vP ba) (vP rb) ka ps.length kc ma many.length mc now,.sl ka kc encP 0 1 ps 68,Ee1326 ma mc many,E99bbc rb B false 0,E35fb1 B,.res (KsR ps ks c)] (fun v L => ∃(ma2:Option Addr) (mc2:Nat),v=undef∧L=[Ed2706 x c (vP ba) (vP rb) ka ps.length kc ma2 (((ks.getD i.toNat dK).beginD c (ctlEpoch (B.ws.getD (ctlAt c 0).toNat 0)) many i n_).2.length) mc2 now,.sl ka kc encP 0 1 ps 68,Ee1326 ma2 mc2 (((ks.getD i.toNat dK).beginD c (ctlEpoch (B.ws.getD (ctlAt c 0).toNat 0)) many i n_).2),E99bbc rb B false 0,E35fb1 B,.res (KsR ps (ks.set i.toNat ((ks.getD i.toNat dK).beginD c (ctlEpoch (B.ws.getD (ctlAt c 0).toNat 0)) many i n_).1) c)]):=by
 refine ctr_view (ks_focus 5 i.toNat (ps:=ps) (ks:=ks) (c:=c) (by omega) (by omega)) ?_
 generalize hk:ks.getD i.toNat dK=k at hG
 refine oC (I:=fun _:KlH=>True) (LL:=klL c (ps.getD i.toNat 0) k) 5 ?_
 rintro⟨pv,sv,rv,ra,rc,y⟩ -
 obtain⟨d,ret,id_⟩:=k
 simp only at hG
 cases d with
 | idle=>
  by_cases hi2:i≥2
  ·skip
   have e:Kc.beginD c (ctlEpoch (B.ws.getD (ctlAt c 0).toNat 0)) many i n_ ⟨.idle,ret,id_⟩=(⟨.read i (ctlEpoch (B.ws.getD (ctlAt c 0).toNat 0)) (newRd i),ret,id_⟩,many):=by unfold Kc.beginD; simp only; rw [if_pos hi2]
   rw [e]
   refine cP [0,1,6,3,4] (w_beginNR c x ba rb now ka ma kc mc ps many B i n_ pv sv rv ra rc id_ ret hi hps hc hnB hzB hwB hi2 (by omega)) ?_
   rintro v post ⟨y_1,k_2,b1_3,b2_4,b3_5,b4_6,b5_7,b6_8,q_9,k2_10,rfl,rfl⟩
   exact⟨_,(((((view_nil (encI .u64) 0 1 60 (sizedI _)).trans (vC [9,10,11,12,13,14,15])).trans (vK (fun _:RdH=>True) (rdL y_1 c i 0 (ctlEpoch (B.ws.getD (ctlAt c 0).toNat 0)) (newRd i)) ⟨.nilFunc,.nilFunc,none,0,k_2,b1_3,b2_4,b3_5,b4_6,b5_7,b6_8,0,0,0,0,0,0⟩ [8,11,12] trivial)).trans (vK (fun _:KlH=>True) (klL c (ps.getD i.toNat 0) ⟨.read i (ctlEpoch (B.ws.getD (ctlAt c 0).toNat 0)) (newRd i),ret,id_⟩) ⟨pv,sv,vP q_9,ra,rc,y_1⟩ [5,2,10] trivial)).trans (ks_unfocus (ps:=ps) (ks:=ks) (c:=c) 8 1 i.toNat ⟨.read i (ctlEpoch (B.ws.getD (ctlAt c 0).toNat 0)) (newRd i),ret,id_⟩ (by omega) (by omega))).trans (vQ [1,2,0,3,4,7]),ma,mc,rfl,rfl⟩
  ·have hm7:=msz_rng n_
   have hf:fitK c (((List.replicate (1+(((n_.tmod 6)+6).tmod 6)).toNat ((((many++[(1+(((n_.tmod 6)+6).tmod 6))]).length):Nat):Int)).length:Nat):Int)≠-1:=by
    have e:(((List.replicate (1+(((n_.tmod 6)+6).tmod 6)).toNat ((((many++[(1+(((n_.tmod 6)+6).tmod 6))]).length):Nat):Int)).length:Nat):Int)=msz n_:=by rw [List.length_replicate]; show((msz n_).toNat:Int)=msz n_; omega
    rw [e]; unfold fitK; rw [if_neg (by omega)]; split
    ·omega
    ·rw [if_pos (by omega)]; omega
   by_cases h3:bAnd .i64 n_ 3=0
   ·by_cases hl0:((ret.length:Nat):Int)>0
    ·have hin:=good_in hc hG.1
     have e:Kc.beginD c (ctlEpoch (B.ws.getD (ctlAt c 0).toNat 0)) many i n_ ⟨.idle,ret,id_⟩=(⟨.scan (newSc ret),ret,id_⟩,many):=by unfold Kc.beginD; simp only; rw [if_neg hi2,if_pos ⟨h3,fun h=>by rw [h] at hl0; simp at hl0⟩]
     rw [e]
     refine cP [0,1,6,7,3,4] (w_beginNSok c x ba rb now ka ma kc mc ps many B i n_ pv sv rv ra rc id_ ret hi hps hc hnB hzB hwB hi2 h3 hl0 hG.2 hin (newOk_iff.2 hG.1) hG.1) ?_
     rintro v post ⟨y_1,q_2,rfl,rfl⟩
     exact⟨_,((vK (fun _:KlH=>True) (klL c (ps.getD i.toNat 0) ⟨.scan (newSc ret),ret,id_⟩) ⟨pv,vP q_2,rv,ra,rc,y_1⟩ [4,5,8] trivial).trans (ks_unfocus (ps:=ps) (ks:=ks) (c:=c) 7 1 i.toNat ⟨.scan (newSc ret),ret,id_⟩ (by omega) (by omega))).trans (vQ [1,2,0,3,4,6]),ma,mc,rfl,rfl⟩
    ·skip
     have e:Kc.beginD c (ctlEpoch (B.ws.getD (ctlAt c 0).toNat 0)) many i n_ ⟨.idle,ret,id_⟩=(⟨.pub (ctlEpoch (B.ws.getD (ctlAt c 0).toNat 0)) (List.replicate (1+(((n_.tmod 6)+6).tmod 6)).toNat ((((many++[(1+(((n_.tmod 6)+6).tmod 6))]).length):Nat):Int)) (newPb (fitK c (((List.replicate (1+(((n_.tmod 6)+6).tmod 6)).toNat ((((many++[(1+(((n_.tmod 6)+6).tmod 6))]).length):Nat):Int)).length:Nat):Int))),ret,((((many++[(1+(((n_.tmod 6)+6).tmod 6))]).length):Nat):Int)⟩,many++[(1+(((n_.tmod 6)+6).tmod 6))]):=by unfold Kc.beginD; simp only; rw [if_neg hi2,if_neg (fun h=>h.2 (List.eq_nil_of_length_eq_zero (by omega)))]; rfl
     rw [e]
     refine cP [0,1,2,6,3,4] (w_beginNPe c x ba rb now ka ma kc mc ps many B i n_ pv sv rv ra rc id_ ret hi hps hc hnB hzB hwB hi2 h3 hl0 hml hf) ?_
     rintro v post ⟨ma2_1,mc2_2,la_3,lc_4,y_5,k_6,bp_7,bt_8,wa_9,wc_10,q_11,k2_12,rfl,rfl⟩
     exact⟨_,((((vC [9,10,11]).trans (vK (fun _:PbH=>True) (pbL y_5 c (ctlAt c 0) (ctlEpoch (B.ws.getD (ctlAt c 0).toNat 0)) (List.replicate (1+(((n_.tmod 6)+6).tmod 6)).toNat ((((many++[(1+(((n_.tmod 6)+6).tmod 6))]).length):Nat):Int)) (newPb (fitK c (((List.replicate (1+(((n_.tmod 6)+6).tmod 6)).toNat ((((many++[(1+(((n_.tmod 6)+6).tmod 6))]).length):Nat):Int)).length:Nat):Int)))) ⟨.nilFunc,.nilFunc,wa_9,wc_10,k_6,bp_7,bt_8,0,0,0,0,0,0,0⟩ [8,9,13] trivial)).trans (vK (fun _:KlH=>True) (klL c (ps.getD i.toNat 0) ⟨.pub (ctlEpoch (B.ws.getD (ctlAt c 0).toNat 0)) (List.replicate (1+(((n_.tmod 6)+6).tmod 6)).toNat ((((many++[(1+(((n_.tmod 6)+6).tmod 6))]).length):Nat):Int)) (newPb (fitK c (((List.replicate (1+(((n_.tmod 6)+6).tmod 6)).toNat ((((many++[(1+(((n_.tmod 6)+6).tmod 6))]).length):Nat):Int)).length:Nat):Int))),ret,((((many++[(1+(((n_.tmod 6)+6).tmod 6))]).length):Nat):Int)⟩) ⟨vP q_11,sv,rv,ra,rc,y_5⟩ [5,1,11] trivial)).trans (ks_unfocus (ps:=ps) (ks:=ks) (c:=c) 9 0 i.toNat ⟨.pub (ctlEpoch (B.ws.getD (ctlAt c 0).toNat 0)) (List.replicate (1+(((n_.tmod 6)+6).tmod 6)).toNat ((((many++[(1+(((n_.tmod 6)+6).tmod 6))]).length):Nat):Int)) (newPb (fitK c (((List.replicate (1+(((n_.tmod 6)+6).tmod 6)).toNat ((((many++[(1+(((n_.tmod 6)+6).tmod 6))]).length):Nat):Int)).length:Nat):Int))),ret,((((many++[(1+(((n_.tmod 6)+6).tmod 6))]).length):Nat):Int)⟩ (by omega) (by omega))).trans (vQ [0,1,2,3,4,8]),ma2_1,mc2_2,rfl,rfl⟩
   ·skip
    have e:Kc.beginD c (ctlEpoch (B.ws.getD (ctlAt c 0).toNat 0)) many i n_ ⟨.idle,ret,id_⟩=(⟨.pub (ctlEpoch (B.ws.getD (ctlAt c 0).toNat 0)) (List.replicate (1+(((n_.tmod 6)+6).tmod 6)).toNat ((((many++[(1+(((n_.tmod 6)+6).tmod 6))]).length):Nat):Int)) (newPb (fitK c (((List.replicate (1+(((n_.tmod 6)+6).tmod 6)).toNat ((((many++[(1+(((n_.tmod 6)+6).tmod 6))]).length):Nat):Int)).length:Nat):Int))),ret,((((many++[(1+(((n_.tmod 6)+6).tmod 6))]).length):Nat):Int)⟩,many++[(1+(((n_.tmod 6)+6).tmod 6))]):=by unfold Kc.beginD; simp only; rw [if_neg hi2,if_neg (fun h=>h3 h.1)]; rfl
    rw [e]
    refine cP [0,1,2,6,3,4] (w_beginNPx c x ba rb now ka ma kc mc ps many B i n_ pv sv rv ra rc id_ ret hi hps hc hnB hzB hwB hi2 h3 hml hf) ?_
    rintro v post ⟨ma2_1,mc2_2,la_3,lc_4,y_5,k_6,bp_7,bt_8,wa_9,wc_10,q_11,k2_12,rfl,rfl⟩
    exact⟨_,((((vC [9,10,11]).trans (vK (fun _:PbH=>True) (pbL y_5 c (ctlAt c 0) (ctlEpoch (B.ws.getD (ctlAt c 0).toNat 0)) (List.replicate (1+(((n_.tmod 6)+6).tmod 6)).toNat ((((many++[(1+(((n_.tmod 6)+6).tmod 6))]).length):Nat):Int)) (newPb (fitK c (((List.replicate (1+(((n_.tmod 6)+6).tmod 6)).toNat ((((many++[(1+(((n_.tmod 6)+6).tmod 6))]).length):Nat):Int)).length:Nat):Int)))) ⟨.nilFunc,.nilFunc,wa_9,wc_10,k_6,bp_7,bt_8,0,0,0,0,0,0,0⟩ [8,9,13] trivial)).trans (vK (fun _:KlH=>True) (klL c (ps.getD i.toNat 0) ⟨.pub (ctlEpoch (B.ws.getD (ctlAt c 0).toNat 0)) (List.replicate (1+(((n_.tmod 6)+6).tmod 6)).toNat ((((many++[(1+(((n_.tmod 6)+6).tmod 6))]).length):Nat):Int)) (newPb (fitK c (((List.replicate (1+(((n_.tmod 6)+6).tmod 6)).toNat ((((many++[(1+(((n_.tmod 6)+6).tmod 6))]).length):Nat):Int)).length:Nat):Int))),ret,((((many++[(1+(((n_.tmod 6)+6).tmod 6))]).length):Nat):Int)⟩) ⟨vP q_11,sv,rv,ra,rc,y_5⟩ [5,1,11] trivial)).trans (ks_unfocus (ps:=ps) (ks:=ks) (c:=c) 9 0 i.toNat ⟨.pub (ctlEpoch (B.ws.getD (ctlAt c 0).toNat 0)) (List.replicate (1+(((n_.tmod 6)+6).tmod 6)).toNat ((((many++[(1+(((n_.tmod 6)+6).tmod 6))]).length):Nat):Int)) (newPb (fitK c (((List.replicate (1+(((n_.tmod 6)+6).tmod 6)).toNat ((((many++[(1+(((n_.tmod 6)+6).tmod 6))]).length):Nat):Int)).length:Nat):Int))),ret,((((many++[(1+(((n_.tmod 6)+6).tmod 6))]).length):Nat):Int)⟩ (by omega) (by omega))).trans (vQ [0,1,2,3,4,8]),ma2_1,mc2_2,rfl,rfl⟩
 | pub ep ws S=>
  have e:Kc.beginD c (ctlEpoch (B.ws.getD (ctlAt c 0).toNat 0)) many i n_ ⟨.pub ep ws S,ret,id_⟩=(⟨.pub ep ws S,ret,id_⟩,many):=by rfl
  rw [e]
  refine cP [0,1,6] (w_beginP c x ba rb now ka ma kc mc ps many B i n_ pv sv rv ra rc id_ ret y (.pointer none) (.pointer none) hi hps) ?_
  rintro v post ⟨rfl,rfl⟩
  exact⟨_,((vK (fun _:KlH=>True) (klL c (ps.getD i.toNat 0) ⟨.pub ep ws S,ret,id_⟩) ⟨pv,sv,rv,ra,rc,y⟩ [8,4,5] trivial).trans (ks_unfocus (ps:=ps) (ks:=ks) (c:=c) 6 3 i.toNat ⟨.pub ep ws S,ret,id_⟩ (by omega) (by omega))).trans (vQ [3,4,0,1,2,5]),ma,mc,rfl,rfl⟩
 | scan S=>
  have e:Kc.beginD c (ctlEpoch (B.ws.getD (ctlAt c 0).toNat 0)) many i n_ ⟨.scan S,ret,id_⟩=(⟨.scan S,ret,id_⟩,many):=by rfl
  rw [e]
  refine cP [0,1,6] (w_beginS c x ba rb now ka ma kc mc ps many B i n_ pv sv rv ra rc id_ ret y (.pointer none) hi hps) ?_
  rintro v post ⟨rfl,rfl⟩
  exact⟨_,((vK (fun _:KlH=>True) (klL c (ps.getD i.toNat 0) ⟨.scan S,ret,id_⟩) ⟨pv,sv,rv,ra,rc,y⟩ [8,4,5] trivial).trans (ks_unfocus (ps:=ps) (ks:=ks) (c:=c) 6 3 i.toNat ⟨.scan S,ret,id_⟩ (by omega) (by omega))).trans (vQ [3,4,0,1,2,5]),ma,mc,rfl,rfl⟩
 | read cl ep S=>
  have e:Kc.beginD c (ctlEpoch (B.ws.getD (ctlAt c 0).toNat 0)) many i n_ ⟨.read cl ep S,ret,id_⟩=(⟨.read cl ep S,ret,id_⟩,many):=by rfl
  rw [e]
  refine cP [0,1,6] (w_beginR c x ba rb now ka ma kc mc ps many B i n_ pv sv rv ra rc id_ ret y hi hps) ?_
  rintro v post ⟨rfl,rfl⟩
  exact⟨_,((vK (fun _:KlH=>True) (klL c (ps.getD i.toNat 0) ⟨.read cl ep S,ret,id_⟩) ⟨pv,sv,rv,ra,rc,y⟩ [8,4,5] trivial).trans (ks_unfocus (ps:=ps) (ks:=ks) (c:=c) 6 3 i.toNat ⟨.read cl ep S,ret,id_⟩ (by omega) (by omega))).trans (vQ [3,4,0,1,2,5]),ma,mc,rfl,rfl⟩
theorem w_who(c:Cfg)(x ba rb:Nat)(now:Int)(ka ma:Option Addr)(kc mc:Nat)(ps:List Nat)(many:List Int)(A B:Ar)(wh n_:Int)(ks:List Kc)(hc:c.Ok)(hnB:B.ws.length=B.n)(hzB:(B.n:Int)=sizeOfC c)(hnA:A.ws.length=A.n)(hzA:(A.n:Int)=sizeOfC c)(hsA:0≤A.steps∧A.steps≤900000)(hsB:0≤B.steps∧B.steps≤900000)(hwB:U64 (B.ws.getD (ctlAt c 0).toNat 0))(hps:ps.length=4)(hks:ks.length=4)(hl:(ks.getD 0 dK).ret.length≤1000):
  Ctr Tryz.prog 27 #[vP x,.agg #[vI wh,vI n_]] [Ed2706 x c (vP ba) (vP rb) ka ps.length kc ma many.length mc now,.sl ka kc encP 0 1 ps 68,E3504b ba A,E35fb1 A,E99bbc rb B false 0,E35fb1 B,.res (KsR ps ks c)] (Ret (vI (((ks.getD 0 dK).whoD (B.ws.getD (ctlAt c 0).toNat 0) wh n_).1)) [Ed2706 x c (vP ba) (vP rb) ka ps.length kc ma many.length mc (bif ((ks.getD 0 dK).whoD (B.ws.getD (ctlAt c 0).toNat 0) wh n_).2.1 then 0 else now),.sl ka kc encP 0 1 ps 68,E3504b ba (bif ((ks.getD 0 dK).whoD (B.ws.getD (ctlAt c 0).toNat 0) wh n_).2.1 then(anewW c (B.ws.getD (ctlAt c 0).toNat 0) A) else A),E35fb1 (bif ((ks.getD 0 dK).whoD (B.ws.getD (ctlAt c 0).toNat 0) wh n_).2.1 then(anewW c (B.ws.getD (ctlAt c 0).toNat 0) A) else A),E99bbc rb (bif ((ks.getD 0 dK).whoD (B.ws.getD (ctlAt c 0).toNat 0) wh n_).2.1 then(anewW c (B.ws.getD (ctlAt c 0).toNat 0) B) else B) false 0,E35fb1 (bif ((ks.getD 0 dK).whoD (B.ws.getD (ctlAt c 0).toNat 0) wh n_).2.1 then(anewW c (B.ws.getD (ctlAt c 0).toNat 0) B) else B),.res (KsR ps (ks.set 0 ((ks.getD 0 dK).whoD (B.ws.getD (ctlAt c 0).toNat 0) wh n_).2.2) c)]):=by
 refine ctr_view (ks_focus 6 0 (ps:=ps) (ks:=ks) (c:=c) (by omega) (by omega)) ?_
 generalize hk:ks.getD 0 dK=k at hl
 refine oC (I:=fun _:KlH=>True) (LL:=klL c (ps.getD 0 0) k) 6 ?_
 rintro⟨pv,sv,rv,ra,rc,y⟩ -
 obtain⟨d,ret,id_⟩:=k
 simp only at hl
 cases d with
 | idle=>
  by_cases h4:bAnd .i64 wh 4=0
  ·skip
   have e:Kc.whoD (B.ws.getD (ctlAt c 0).toNat 0) ⟨.idle,ret,id_⟩ wh n_ = (bAnd .i64 wh 3,false,⟨.idle,ret,id_⟩):=by unfold Kc.whoD; simp only; rw [if_pos (.inl h4)]
   rw [e]
   refine cP [0] (w_whoa c x ba rb now (.slice ka ps.length kc) (.slice ma many.length mc) wh n_ h4) ?_
   rintro v post ⟨rfl,rfl⟩
   exact⟨_,((vK (fun _:KlH=>True) (klL c (ps.getD 0 0) ⟨.idle,ret,id_⟩) ⟨pv,sv,rv,ra,rc,y⟩ [6,7] trivial).trans (ks_unfocus (ps:=ps) (ks:=ks) (c:=c) 7 5 0 ⟨.idle,ret,id_⟩ (by omega) (by omega))).trans (vQ [5,0,1,2,3,4,6]),rfl,rfl⟩
  ·by_cases h15:bAnd .i64 n_ 15=0
   ·by_cases hbp:ctlBlock (B.ws.getD (ctlAt c 0).toNat 0)>0
    ·skip
     have e:Kc.whoD (B.ws.getD (ctlAt c 0).toNat 0) ⟨.idle,ret,id_⟩ wh n_ = (-1,true,⟨.idle,ret++[ctlBlock (B.ws.getD (ctlAt c 0).toNat 0)],id_⟩):=by unfold Kc.whoD; simp only; rw [if_neg (fun h=>h.elim h4 (fun h=>h h15)),if_pos hbp]; rfl
     rw [e]
     refine cP [0,1,7,8,2,3,4,5] (w_whoR c x ba rb now ka ma kc mc ps many A B wh n_ (.pointer none) (.pointer none) pv sv rv ra rc id_ ret hc hnB hzB hnA hzA hsA hsB hwB hps hl h4 h15 hbp) ?_
     rintro v post ⟨ra2_1,rc2_2,rfl,rfl⟩
     exact⟨_,((vK (fun _:KlH=>True) (klL c (ps.getD 0 0) ⟨.idle,ret++[ctlBlock (B.ws.getD (ctlAt c 0).toNat 0)],id_⟩) ⟨pv,sv,rv,ra2_1,rc2_2,y⟩ [3,4] trivial).trans (ks_unfocus (ps:=ps) (ks:=ks) (c:=c) 7 0 0 ⟨.idle,ret++[ctlBlock (B.ws.getD (ctlAt c 0).toNat 0)],id_⟩ (by omega) (by omega))).trans (vQ [0,1,2,3,4,5,6]),rfl,rfl⟩
    ·skip
     have e:Kc.whoD (B.ws.getD (ctlAt c 0).toNat 0) ⟨.idle,ret,id_⟩ wh n_ = (-1,true,⟨.idle,ret,id_⟩):=by unfold Kc.whoD; simp only; rw [if_neg (fun h=>h.elim h4 (fun h=>h h15)),if_neg hbp]
     rw [e]
     refine cP [0,2,3,4,5] (w_whoN c x ba rb now ka ma kc mc ps many A B wh n_ hc hnB hzB hnA hzA hsA hsB hwB h4 h15 hbp) ?_
     rintro v post ⟨rfl,rfl⟩
     exact⟨_,((vK (fun _:KlH=>True) (klL c (ps.getD 0 0) ⟨.idle,ret,id_⟩) ⟨pv,sv,rv,ra,rc,y⟩ [2,3] trivial).trans (ks_unfocus (ps:=ps) (ks:=ks) (c:=c) 7 1 0 ⟨.idle,ret,id_⟩ (by omega) (by omega))).trans (vQ [1,0,2,3,4,5,6]),rfl,rfl⟩
   ·skip
    have e:Kc.whoD (B.ws.getD (ctlAt c 0).toNat 0) ⟨.idle,ret,id_⟩ wh n_ = (bAnd .i64 wh 3,false,⟨.idle,ret,id_⟩):=by unfold Kc.whoD; simp only; rw [if_pos (.inr h15)]
    rw [e]
    refine cP [0] (w_whob c x ba rb now (.slice ka ps.length kc) (.slice ma many.length mc) wh n_ h4 h15) ?_
    rintro v post ⟨rfl,rfl⟩
    exact⟨_,((vK (fun _:KlH=>True) (klL c (ps.getD 0 0) ⟨.idle,ret,id_⟩) ⟨pv,sv,rv,ra,rc,y⟩ [6,7] trivial).trans (ks_unfocus (ps:=ps) (ks:=ks) (c:=c) 7 5 0 ⟨.idle,ret,id_⟩ (by omega) (by omega))).trans (vQ [5,0,1,2,3,4,6]),rfl,rfl⟩
 | pub ep ws S=>
  by_cases h4:bAnd .i64 wh 4=0
  ·skip
   have e:Kc.whoD (B.ws.getD (ctlAt c 0).toNat 0) ⟨.pub ep ws S,ret,id_⟩ wh n_ = (bAnd .i64 wh 3,false,⟨.pub ep ws S,ret,id_⟩):=by unfold Kc.whoD; simp only; rw [if_pos (.inl h4)]
   rw [e]
   refine cP [0] (w_whoa c x ba rb now (.slice ka ps.length kc) (.slice ma many.length mc) wh n_ h4) ?_
   rintro v post ⟨rfl,rfl⟩
   exact⟨_,((vK (fun _:KlH=>True) (klL c (ps.getD 0 0) ⟨.pub ep ws S,ret,id_⟩) ⟨pv,sv,rv,ra,rc,y⟩ [6,7,8] trivial).trans (ks_unfocus (ps:=ps) (ks:=ks) (c:=c) 7 5 0 ⟨.pub ep ws S,ret,id_⟩ (by omega) (by omega))).trans (vQ [5,0,1,2,3,4,6]),rfl,rfl⟩
  ·by_cases h15:bAnd .i64 n_ 15=0
   ·by_cases hbp:ctlBlock (B.ws.getD (ctlAt c 0).toNat 0)>0
    ·skip
     have e:Kc.whoD (B.ws.getD (ctlAt c 0).toNat 0) ⟨.pub ep ws S,ret,id_⟩ wh n_ = (-1,true,⟨.pub ep ws S,ret++[ctlBlock (B.ws.getD (ctlAt c 0).toNat 0)],id_⟩):=by unfold Kc.whoD; simp only; rw [if_neg (fun h=>h.elim h4 (fun h=>h h15)),if_pos hbp]; rfl
     rw [e]
     refine cP [0,1,7,8,2,3,4,5] (w_whoR c x ba rb now ka ma kc mc ps many A B wh n_ (vP y) (.pointer none) pv sv rv ra rc id_ ret hc hnB hzB hnA hzA hsA hsB hwB hps hl h4 h15 hbp) ?_
     rintro v post ⟨ra2_1,rc2_2,rfl,rfl⟩
     exact⟨_,((vK (fun _:KlH=>True) (klL c (ps.getD 0 0) ⟨.pub ep ws S,ret++[ctlBlock (B.ws.getD (ctlAt c 0).toNat 0)],id_⟩) ⟨pv,sv,rv,ra2_1,rc2_2,y⟩ [4,5,1] trivial).trans (ks_unfocus (ps:=ps) (ks:=ks) (c:=c) 7 0 0 ⟨.pub ep ws S,ret++[ctlBlock (B.ws.getD (ctlAt c 0).toNat 0)],id_⟩ (by omega) (by omega))).trans (vQ [0,1,2,3,4,5,6]),rfl,rfl⟩
    ·skip
     have e:Kc.whoD (B.ws.getD (ctlAt c 0).toNat 0) ⟨.pub ep ws S,ret,id_⟩ wh n_ = (-1,true,⟨.pub ep ws S,ret,id_⟩):=by unfold Kc.whoD; simp only; rw [if_neg (fun h=>h.elim h4 (fun h=>h h15)),if_neg hbp]
     rw [e]
     refine cP [0,2,3,4,5] (w_whoN c x ba rb now ka ma kc mc ps many A B wh n_ hc hnB hzB hnA hzA hsA hsB hwB h4 h15 hbp) ?_
     rintro v post ⟨rfl,rfl⟩
     exact⟨_,((vK (fun _:KlH=>True) (klL c (ps.getD 0 0) ⟨.pub ep ws S,ret,id_⟩) ⟨pv,sv,rv,ra,rc,y⟩ [2,3,4] trivial).trans (ks_unfocus (ps:=ps) (ks:=ks) (c:=c) 7 1 0 ⟨.pub ep ws S,ret,id_⟩ (by omega) (by omega))).trans (vQ [1,0,2,3,4,5,6]),rfl,rfl⟩
   ·skip
    have e:Kc.whoD (B.ws.getD (ctlAt c 0).toNat 0) ⟨.pub ep ws S,ret,id_⟩ wh n_ = (bAnd .i64 wh 3,false,⟨.pub ep ws S,ret,id_⟩):=by unfold Kc.whoD; simp only; rw [if_pos (.inr h15)]
    rw [e]
    refine cP [0] (w_whob c x ba rb now (.slice ka ps.length kc) (.slice ma many.length mc) wh n_ h4 h15) ?_
    rintro v post ⟨rfl,rfl⟩
    exact⟨_,((vK (fun _:KlH=>True) (klL c (ps.getD 0 0) ⟨.pub ep ws S,ret,id_⟩) ⟨pv,sv,rv,ra,rc,y⟩ [6,7,8] trivial).trans (ks_unfocus (ps:=ps) (ks:=ks) (c:=c) 7 5 0 ⟨.pub ep ws S,ret,id_⟩ (by omega) (by omega))).trans (vQ [5,0,1,2,3,4,6]),rfl,rfl⟩
 | scan S=>
  by_cases h4:bAnd .i64 wh 4=0
  ·skip
   have e:Kc.whoD (B.ws.getD (ctlAt c 0).toNat 0) ⟨.scan S,ret,id_⟩ wh n_ = (bAnd .i64 wh 3,false,⟨.scan S,ret,id_⟩):=by unfold Kc.whoD; simp only; rw [if_pos (.inl h4)]
   rw [e]
   refine cP [0] (w_whoa c x ba rb now (.slice ka ps.length kc) (.slice ma many.length mc) wh n_ h4) ?_
   rintro v post ⟨rfl,rfl⟩
   exact⟨_,((vK (fun _:KlH=>True) (klL c (ps.getD 0 0) ⟨.scan S,ret,id_⟩) ⟨pv,sv,rv,ra,rc,y⟩ [6,7,8] trivial).trans (ks_unfocus (ps:=ps) (ks:=ks) (c:=c) 7 5 0 ⟨.scan S,ret,id_⟩ (by omega) (by omega))).trans (vQ [5,0,1,2,3,4,6]),rfl,rfl⟩
  ·by_cases h15:bAnd .i64 n_ 15=0
   ·by_cases hbp:ctlBlock (B.ws.getD (ctlAt c 0).toNat 0)>0
    ·skip
     have e:Kc.whoD (B.ws.getD (ctlAt c 0).toNat 0) ⟨.scan S,ret,id_⟩ wh n_ = (bAnd .i64 wh 3,false,⟨.scan S,ret,id_⟩):=by unfold Kc.whoD; simp only; rw [if_neg (fun h=>h.elim h4 (fun h=>h h15)),if_pos hbp]; rfl
     rw [e]
     refine cP [0,1,7,4,5] (w_whoS c x ba rb now ka ma kc mc ps many wh n_ B y (.pointer none) (.pointer none) pv sv rv ra rc id_ ret hc hnB hzB hps hwB h4 h15 hbp) ?_
     rintro v post ⟨rfl,rfl⟩
     exact⟨_,((vK (fun _:KlH=>True) (klL c (ps.getD 0 0) ⟨.scan S,ret,id_⟩) ⟨pv,sv,rv,ra,rc,y⟩ [7,3,4] trivial).trans (ks_unfocus (ps:=ps) (ks:=ks) (c:=c) 7 2 0 ⟨.scan S,ret,id_⟩ (by omega) (by omega))).trans (vQ [2,3,0,1,4,5,6]),rfl,rfl⟩
    ·skip
     have e:Kc.whoD (B.ws.getD (ctlAt c 0).toNat 0) ⟨.scan S,ret,id_⟩ wh n_ = (-1,true,⟨.scan S,ret,id_⟩):=by unfold Kc.whoD; simp only; rw [if_neg (fun h=>h.elim h4 (fun h=>h h15)),if_neg hbp]
     rw [e]
     refine cP [0,2,3,4,5] (w_whoN c x ba rb now ka ma kc mc ps many A B wh n_ hc hnB hzB hnA hzA hsA hsB hwB h4 h15 hbp) ?_
     rintro v post ⟨rfl,rfl⟩
     exact⟨_,((vK (fun _:KlH=>True) (klL c (ps.getD 0 0) ⟨.scan S,ret,id_⟩) ⟨pv,sv,rv,ra,rc,y⟩ [2,3,4] trivial).trans (ks_unfocus (ps:=ps) (ks:=ks) (c:=c) 7 1 0 ⟨.scan S,ret,id_⟩ (by omega) (by omega))).trans (vQ [1,0,2,3,4,5,6]),rfl,rfl⟩
   ·skip
    have e:Kc.whoD (B.ws.getD (ctlAt c 0).toNat 0) ⟨.scan S,ret,id_⟩ wh n_ = (bAnd .i64 wh 3,false,⟨.scan S,ret,id_⟩):=by unfold Kc.whoD; simp only; rw [if_pos (.inr h15)]
    rw [e]
    refine cP [0] (w_whob c x ba rb now (.slice ka ps.length kc) (.slice ma many.length mc) wh n_ h4 h15) ?_
    rintro v post ⟨rfl,rfl⟩
    exact⟨_,((vK (fun _:KlH=>True) (klL c (ps.getD 0 0) ⟨.scan S,ret,id_⟩) ⟨pv,sv,rv,ra,rc,y⟩ [6,7,8] trivial).trans (ks_unfocus (ps:=ps) (ks:=ks) (c:=c) 7 5 0 ⟨.scan S,ret,id_⟩ (by omega) (by omega))).trans (vQ [5,0,1,2,3,4,6]),rfl,rfl⟩
 | read cl ep S=>
  by_cases h4:bAnd .i64 wh 4=0
  ·skip
   have e:Kc.whoD (B.ws.getD (ctlAt c 0).toNat 0) ⟨.read cl ep S,ret,id_⟩ wh n_ = (bAnd .i64 wh 3,false,⟨.read cl ep S,ret,id_⟩):=by unfold Kc.whoD; simp only; rw [if_pos (.inl h4)]
   rw [e]
   refine cP [0] (w_whoa c x ba rb now (.slice ka ps.length kc) (.slice ma many.length mc) wh n_ h4) ?_
   rintro v post ⟨rfl,rfl⟩
   exact⟨_,((vK (fun _:KlH=>True) (klL c (ps.getD 0 0) ⟨.read cl ep S,ret,id_⟩) ⟨pv,sv,rv,ra,rc,y⟩ [6,7,8] trivial).trans (ks_unfocus (ps:=ps) (ks:=ks) (c:=c) 7 5 0 ⟨.read cl ep S,ret,id_⟩ (by omega) (by omega))).trans (vQ [5,0,1,2,3,4,6]),rfl,rfl⟩
  ·by_cases h15:bAnd .i64 n_ 15=0
   ·by_cases hbp:ctlBlock (B.ws.getD (ctlAt c 0).toNat 0)>0
    ·skip
     have e:Kc.whoD (B.ws.getD (ctlAt c 0).toNat 0) ⟨.read cl ep S,ret,id_⟩ wh n_ = (-1,true,⟨.read cl ep S,ret++[ctlBlock (B.ws.getD (ctlAt c 0).toNat 0)],id_⟩):=by unfold Kc.whoD; simp only; rw [if_neg (fun h=>h.elim h4 (fun h=>h h15)),if_pos hbp]; rfl
     rw [e]
     refine cP [0,1,7,8,2,3,4,5] (w_whoR c x ba rb now ka ma kc mc ps many A B wh n_ (.pointer none) (vP y) pv sv rv ra rc id_ ret hc hnB hzB hnA hzA hsA hsB hwB hps hl h4 h15 hbp) ?_
     rintro v post ⟨ra2_1,rc2_2,rfl,rfl⟩
     exact⟨_,((vK (fun _:KlH=>True) (klL c (ps.getD 0 0) ⟨.read cl ep S,ret++[ctlBlock (B.ws.getD (ctlAt c 0).toNat 0)],id_⟩) ⟨pv,sv,rv,ra2_1,rc2_2,y⟩ [4,5,1] trivial).trans (ks_unfocus (ps:=ps) (ks:=ks) (c:=c) 7 0 0 ⟨.read cl ep S,ret++[ctlBlock (B.ws.getD (ctlAt c 0).toNat 0)],id_⟩ (by omega) (by omega))).trans (vQ [0,1,2,3,4,5,6]),rfl,rfl⟩
    ·skip
     have e:Kc.whoD (B.ws.getD (ctlAt c 0).toNat 0) ⟨.read cl ep S,ret,id_⟩ wh n_ = (-1,true,⟨.read cl ep S,ret,id_⟩):=by unfold Kc.whoD; simp only; rw [if_neg (fun h=>h.elim h4 (fun h=>h h15)),if_neg hbp]
     rw [e]
     refine cP [0,2,3,4,5] (w_whoN c x ba rb now ka ma kc mc ps many A B wh n_ hc hnB hzB hnA hzA hsA hsB hwB h4 h15 hbp) ?_
     rintro v post ⟨rfl,rfl⟩
     exact⟨_,((vK (fun _:KlH=>True) (klL c (ps.getD 0 0) ⟨.read cl ep S,ret,id_⟩) ⟨pv,sv,rv,ra,rc,y⟩ [2,3,4] trivial).trans (ks_unfocus (ps:=ps) (ks:=ks) (c:=c) 7 1 0 ⟨.read cl ep S,ret,id_⟩ (by omega) (by omega))).trans (vQ [1,0,2,3,4,5,6]),rfl,rfl⟩
   ·skip
    have e:Kc.whoD (B.ws.getD (ctlAt c 0).toNat 0) ⟨.read cl ep S,ret,id_⟩ wh n_ = (bAnd .i64 wh 3,false,⟨.read cl ep S,ret,id_⟩):=by unfold Kc.whoD; simp only; rw [if_pos (.inr h15)]
    rw [e]
    refine cP [0] (w_whob c x ba rb now (.slice ka ps.length kc) (.slice ma many.length mc) wh n_ h4 h15) ?_
    rintro v post ⟨rfl,rfl⟩
    exact⟨_,((vK (fun _:KlH=>True) (klL c (ps.getD 0 0) ⟨.read cl ep S,ret,id_⟩) ⟨pv,sv,rv,ra,rc,y⟩ [6,7,8] trivial).trans (ks_unfocus (ps:=ps) (ks:=ks) (c:=c) 7 5 0 ⟨.read cl ep S,ret,id_⟩ (by omega) (by omega))).trans (vQ [5,0,1,2,3,4,6]),rfl,rfl⟩
end Go.Proofs.YtpcaijopodhdgaaGreatDoor
namespace Go.Proofs.YtpcaijopodhdgaaGreatDoor
open Go.Sx
abbrev E0b46c(x0:Nat)(x1:Int): Ent:=.pts x0 [.pointer none,.pointer none,.pointer none,.pointer none,.pointer none,.pointer none,.slice none 0 0,.int .u64 x1] 74
abbrev E9e911(x0:Nat)(x1:Value)(x2:Value)(x3:Value)(x4:Value): Ent:=.pts x0 [x1,x2,x3,x4] 68
abbrev E6e29b(x0:Nat)(c1:Cfg)(x2:Value)(x3:Value)(x4:Value)(x5:Int): Ent:=.pts x0 [.int .i64 c1.topics,.int .i64 c1.small,.int .i64 c1.slots,.int .i64 c1.clients,.int .i64 c1.s0,.int .i64 c1.n0,.int .i64 c1.s1,.int .i64 c1.n1,.int .i64 c1.retry,x2,x3,x4,.slice none 0 0,.int .u64 x5] 62
abbrev zK: Value:=.agg #[.pointer none,.pointer none,.pointer none,.pointer none,.pointer none,.pointer none,.slice none 0 0,vU 0]
theorem law17_configC(c:Cfg)(q0 q1 q2:Int)(hq:c=cfgL q0 q1 q2):
  Ctr Tryz.prog 9 #[.agg #[vI q0,vI q1,vI q2]] [] (Ret (cfgV c) []):=by
 subst hq
 exact law17_config q0 q1 q2
noncomputable def B26: Code:=(Tryz.f26.body).getD .skip
abbrev Ylaw17_begun(c:Cfg): Value→List Ent→Prop:=(fun v L => ∃(x:Nat) (ba:Nat) (rb:Nat) (ka:Option Addr) (kc:Nat) (ps:List Nat) (aw:Option Addr) (cw:Nat) (aw2:Option Addr) (cw2:Nat),v=vP x∧L=[Ed2706 x c (vP ba) (vP rb) ka ps.length kc none 0 0 0,.sl ka kc encP 0 1 ps 68,Ee1326 none 0 ([]:List Int),E3504b ba ((mkAr c aw cw).store (ctlAt c 0) (bornW 0)),E35fb1 ((mkAr c aw cw).store (ctlAt c 0) (bornW 0)),E99bbc rb ((rmAr c (rpackW c) aw2 cw2).store (ctlAt c 0) (bornW 0)) false 0,E35fb1 ((rmAr c (rpackW c) aw2 cw2).store (ctlAt c 0) (bornW 0)),.res (KsR ps four c)]∧(ps.length=4))
set_option maxHeartbeats 4000000 in
theorem law17_begun(c:Cfg)(q0 q1 q2:Int)(hq:c=cfgL q0 q1 q2):
  Ctr Tryz.prog 26 #[.agg #[vI q0,vI q1,vI q2]] [] (Ylaw17_begun c):=by
 refine cB B26 35 Tryz.func26 ?_
 intro F
 have hc:c.Ok:=hq▸cfgL_ok q0 q1 q2
 refine gX [.e 0,.z [0,1] 1 [7]] (gN fun b_1=>gQ b_1 (gS [.o [0,1] 1,.c [1,1]] ?_))
 refine gC (some 8) [] Tryz.call9 (law17_configC c q0 q1 q2 hq) ?_
 refine gX [.e 1,.e 1,.z [0,1,1] 1 [3,10]] (gN fun b_3=>gQ b_3 (gQ b_3 (gS [.o [0,1,1] 1,.c [1,1,1]] ?_)))
 refine go_call (some 11) [] Tryz.call60 (plan_Make c hc) kR ?_
 rintro v post ⟨ba_4,aw_5,cw_6,rfl,rfl⟩
 refine gX [.z [0,1,1,1,1] 0 [3,4]] (gS [.c [0,1,1,1,1],.c [1,1,1,1,1]] ?_)
 refine zG ?_
 have aS_154:∀(ra_3_1:Nat) (aw_3_1:Option Addr) (cw_3_1:Nat) (b_5_1:Nat) (b_7_1:Nat) (b_9_1:Nat) (b_11_1:Nat) (b_12_1:Nat) (b_14_1:Nat),Lz Tryz.prog Tryz.f26 B26 35 F (RetR F (Ylaw17_begun c)) (regOps B26 [0,1,1,1,1]) [.c [1,1,1,1,1]] (mk 16 [0,1,2,3,4,5,6,7,8,9,10,11,12,13,14]) [] [(30,vP b_14_1)] [.pts b_1 [vI q0,vI q1,vI q2] 22,Efdc04 b_3 c,E3504b ba_4 (mkAr c aw_5 cw_6),E35fb1 (mkAr c aw_5 cw_6),E99bbc ra_3_1 (rmAr c (rpackW c) aw_3_1 cw_3_1) false 0,E35fb1 (rmAr c (rpackW c) aw_3_1 cw_3_1),E0b46c b_5_1 0,E0b46c b_7_1 0,E0b46c b_9_1 0,E0b46c b_11_1 0,E9e911 b_12_1 (vP b_5_1) (vP b_7_1) (vP b_9_1) (vP b_11_1),E6e29b b_14_1 c (vP ba_4) (vP ra_3_1) (.slice (some ⟨b_12_1,0,none⟩) 4 4) 0]:=by
  intro ra_3_1 aw_3_1 cw_3_1 b_5_1 b_7_1 b_9_1 b_11_1 b_12_1 b_14_1
  refine zE [15] (kV 15 [.w]) [6] .n ?_
  refine gX [.z [0,1,1,1,1,1] 0 [6]] (gW (ks:=[.o [0,1,1,1,1,1] 0,.c [1,1,1,1,1,1]]) [(6,vP b_14_1)] [.pts b_1 [vI q0,vI q1,vI q2] 22,Efdc04 b_3 c,E3504b ba_4 (mkAr c aw_5 cw_6),E35fb1 (mkAr c aw_5 cw_6),E99bbc ra_3_1 (rmAr c (rpackW c) aw_3_1 cw_3_1) false 0,E35fb1 (rmAr c (rpackW c) aw_3_1 cw_3_1),E0b46c b_5_1 0,E0b46c b_7_1 0,E0b46c b_9_1 0,E0b46c b_11_1 0,E9e911 b_12_1 (vP b_5_1) (vP b_7_1) (vP b_9_1) (vP b_11_1),E6e29b b_14_1 c (vP ba_4) (vP ra_3_1) (.slice (some ⟨b_12_1,0,none⟩) 4 4) 0] ?_)
  have hA0:=mkAr_ok hc aw_5 cw_6
  have hT0:Go.Sx.Twin (mkAr c aw_5 cw_6) (rmAr c (rpackW c) aw_3_1 cw_3_1) 0:=by rw [hq]; exact L_twinQ q0 q1 q2 aw_5 aw_3_1 cw_6 cw_3_1
  have hB0:=rm_arW hc hA0 hT0
  have hA1:=hA0.1
  have hA2:=hA0.2.1
  have hA3:=hA0.2.2.2
  have hB1:=hB0.1
  have hB2:=hB0.2.1
  have hB3:=hB0.2.2.2
  have hU0:U64 0:=by unfold U64; decide
  refine gX [.z [0,1,1,1,1,1] 1 [6,31]] (gS [.o [0,1,1,1,1,1] 1,.c [1,1,1,1,1,1]] ?_)
  refine gC (some 32) [] Tryz.call70 (r13_Born 0 hU0) ?_
  refine gC (some 33) [11,2,3,4,5] Tryz.call69 (w_put c b_14_1 ba_4 ra_3_1 0 (.slice (some ⟨b_12_1,0,none⟩) 4 4) (.slice none 0 0) (mkAr c aw_5 cw_6) (rmAr c (rpackW c) aw_3_1 cw_3_1) (bornW 0) hc hB1 hB2 hA1 hA2 (by omega) (by omega)) ?_
  refine gX [] (gW0 (vP b_14_1) [.pts b_1 [vI q0,vI q1,vI q2] 22,Efdc04 b_3 c,E0b46c b_5_1 0,E0b46c b_7_1 0,E0b46c b_9_1 0,E0b46c b_11_1 0,E9e911 b_12_1 (vP b_5_1) (vP b_7_1) (vP b_9_1) (vP b_11_1),E6e29b b_14_1 c (vP ba_4) (vP ra_3_1) (.slice (some ⟨b_12_1,0,none⟩) 4 4) 0,E3504b ba_4 ((mkAr c aw_5 cw_6).store (ctlAt c 0) (bornW 0)),E35fb1 ((mkAr c aw_5 cw_6).store (ctlAt c 0) (bornW 0)),E99bbc ra_3_1 ((rmAr c (rpackW c) aw_3_1 cw_3_1).store (ctlAt c 0) (bornW 0)) false 0,E35fb1 ((rmAr c (rpackW c) aw_3_1 cw_3_1).store (ctlAt c 0) (bornW 0))] ?_)
  refine ret_view (L':=[.pts b_1 [vI q0,vI q1,vI q2] 22,Efdc04 b_3 c,E0b46c b_5_1 0,E0b46c b_7_1 0,E0b46c b_9_1 0,E0b46c b_11_1 0,.sl (some ⟨b_12_1,0,none⟩) 4 encP 0 1 ([b_5_1,b_7_1,b_9_1,b_11_1]:List Nat) 68,E6e29b b_14_1 c (vP ba_4) (vP ra_3_1) (.slice (some ⟨b_12_1,0,none⟩) 4 4) 0,E3504b ba_4 ((mkAr c aw_5 cw_6).store (ctlAt c 0) (bornW 0)),E35fb1 ((mkAr c aw_5 cw_6).store (ctlAt c 0) (bornW 0)),E99bbc ra_3_1 ((rmAr c (rpackW c) aw_3_1 cw_3_1).store (ctlAt c 0) (bornW 0)) false 0,E35fb1 ((rmAr c (rpackW c) aw_3_1 cw_3_1).store (ctlAt c 0) (bornW 0))]) (view_row 6 (b:=b_12_1) encP 0 1 ([b_5_1,b_7_1,b_9_1,b_11_1]:List Nat) 68 sized_encP (by simp [maxLen]) kR) ?_
  refine ret_view (L':=[.pts b_1 [vI q0,vI q1,vI q2] 22,Efdc04 b_3 c,E0b46c b_5_1 0,E0b46c b_7_1 0,E0b46c b_9_1 0,E0b46c b_11_1 0,.sl (some ⟨b_12_1,0,none⟩) 4 encP 0 1 ([b_5_1,b_7_1,b_9_1,b_11_1]:List Nat) 68,E6e29b b_14_1 c (vP ba_4) (vP ra_3_1) (.slice (some ⟨b_12_1,0,none⟩) 4 4) 0,E3504b ba_4 ((mkAr c aw_5 cw_6).store (ctlAt c 0) (bornW 0)),E35fb1 ((mkAr c aw_5 cw_6).store (ctlAt c 0) (bornW 0)),E99bbc ra_3_1 ((rmAr c (rpackW c) aw_3_1 cw_3_1).store (ctlAt c 0) (bornW 0)) false 0,E35fb1 ((rmAr c (rpackW c) aw_3_1 cw_3_1).store (ctlAt c 0) (bornW 0)),Ee1326 none 0 ([]:List Int)]) (view_nil (encI .i64) 0 1 3 (sizedI _)) ?_
  refine ret_view (L':=[.pts b_1 [vI q0,vI q1,vI q2] 22,Efdc04 b_3 c,E0b46c b_7_1 0,E0b46c b_9_1 0,E0b46c b_11_1 0,.sl (some ⟨b_12_1,0,none⟩) 4 encP 0 1 ([b_5_1,b_7_1,b_9_1,b_11_1]:List Nat) 68,E6e29b b_14_1 c (vP ba_4) (vP ra_3_1) (.slice (some ⟨b_12_1,0,none⟩) 4 4) 0,E3504b ba_4 ((mkAr c aw_5 cw_6).store (ctlAt c 0) (bornW 0)),E35fb1 ((mkAr c aw_5 cw_6).store (ctlAt c 0) (bornW 0)),E99bbc ra_3_1 ((rmAr c (rpackW c) aw_3_1 cw_3_1).store (ctlAt c 0) (bornW 0)) false 0,E35fb1 ((rmAr c (rpackW c) aw_3_1 cw_3_1).store (ctlAt c 0) (bornW 0)),.res (KlR c b_5_1 dK)]) (vK (fun _:KlH=>True) (klL c b_5_1 dK) ⟨.pointer none,.pointer none,.pointer none,none,0,0⟩ [2,12] trivial) ?_
  refine ret_view (L':=[.pts b_1 [vI q0,vI q1,vI q2] 22,Efdc04 b_3 c,E0b46c b_7_1 0,E0b46c b_9_1 0,E0b46c b_11_1 0,.sl (some ⟨b_12_1,0,none⟩) 4 encP 0 1 ([b_5_1,b_7_1,b_9_1,b_11_1]:List Nat) 68,E6e29b b_14_1 c (vP ba_4) (vP ra_3_1) (.slice (some ⟨b_12_1,0,none⟩) 4 4) 0,E3504b ba_4 ((mkAr c aw_5 cw_6).store (ctlAt c 0) (bornW 0)),E35fb1 ((mkAr c aw_5 cw_6).store (ctlAt c 0) (bornW 0)),E99bbc ra_3_1 ((rmAr c (rpackW c) aw_3_1 cw_3_1).store (ctlAt c 0) (bornW 0)) false 0,E35fb1 ((rmAr c (rpackW c) aw_3_1 cw_3_1).store (ctlAt c 0) (bornW 0)),.res (KlR c b_5_1 dK),Ee1326 none 0 ([]:List Int)]) (view_nil (encI .i64) 0 1 3 (sizedI _)) ?_
  refine ret_view (L':=[.pts b_1 [vI q0,vI q1,vI q2] 22,Efdc04 b_3 c,E0b46c b_9_1 0,E0b46c b_11_1 0,.sl (some ⟨b_12_1,0,none⟩) 4 encP 0 1 ([b_5_1,b_7_1,b_9_1,b_11_1]:List Nat) 68,E6e29b b_14_1 c (vP ba_4) (vP ra_3_1) (.slice (some ⟨b_12_1,0,none⟩) 4 4) 0,E3504b ba_4 ((mkAr c aw_5 cw_6).store (ctlAt c 0) (bornW 0)),E35fb1 ((mkAr c aw_5 cw_6).store (ctlAt c 0) (bornW 0)),E99bbc ra_3_1 ((rmAr c (rpackW c) aw_3_1 cw_3_1).store (ctlAt c 0) (bornW 0)) false 0,E35fb1 ((rmAr c (rpackW c) aw_3_1 cw_3_1).store (ctlAt c 0) (bornW 0)),.res (KlR c b_5_1 dK),.res (KlR c b_7_1 dK)]) (vK (fun _:KlH=>True) (klL c b_7_1 dK) ⟨.pointer none,.pointer none,.pointer none,none,0,0⟩ [2,12] trivial) ?_
  refine ret_view (L':=[.pts b_1 [vI q0,vI q1,vI q2] 22,Efdc04 b_3 c,E0b46c b_9_1 0,E0b46c b_11_1 0,.sl (some ⟨b_12_1,0,none⟩) 4 encP 0 1 ([b_5_1,b_7_1,b_9_1,b_11_1]:List Nat) 68,E6e29b b_14_1 c (vP ba_4) (vP ra_3_1) (.slice (some ⟨b_12_1,0,none⟩) 4 4) 0,E3504b ba_4 ((mkAr c aw_5 cw_6).store (ctlAt c 0) (bornW 0)),E35fb1 ((mkAr c aw_5 cw_6).store (ctlAt c 0) (bornW 0)),E99bbc ra_3_1 ((rmAr c (rpackW c) aw_3_1 cw_3_1).store (ctlAt c 0) (bornW 0)) false 0,E35fb1 ((rmAr c (rpackW c) aw_3_1 cw_3_1).store (ctlAt c 0) (bornW 0)),.res (KlR c b_5_1 dK),.res (KlR c b_7_1 dK),Ee1326 none 0 ([]:List Int)]) (view_nil (encI .i64) 0 1 3 (sizedI _)) ?_
  refine ret_view (L':=[.pts b_1 [vI q0,vI q1,vI q2] 22,Efdc04 b_3 c,E0b46c b_11_1 0,.sl (some ⟨b_12_1,0,none⟩) 4 encP 0 1 ([b_5_1,b_7_1,b_9_1,b_11_1]:List Nat) 68,E6e29b b_14_1 c (vP ba_4) (vP ra_3_1) (.slice (some ⟨b_12_1,0,none⟩) 4 4) 0,E3504b ba_4 ((mkAr c aw_5 cw_6).store (ctlAt c 0) (bornW 0)),E35fb1 ((mkAr c aw_5 cw_6).store (ctlAt c 0) (bornW 0)),E99bbc ra_3_1 ((rmAr c (rpackW c) aw_3_1 cw_3_1).store (ctlAt c 0) (bornW 0)) false 0,E35fb1 ((rmAr c (rpackW c) aw_3_1 cw_3_1).store (ctlAt c 0) (bornW 0)),.res (KlR c b_5_1 dK),.res (KlR c b_7_1 dK),.res (KlR c b_9_1 dK)]) (vK (fun _:KlH=>True) (klL c b_9_1 dK) ⟨.pointer none,.pointer none,.pointer none,none,0,0⟩ [2,12] trivial) ?_
  refine ret_view (L':=[.pts b_1 [vI q0,vI q1,vI q2] 22,Efdc04 b_3 c,E0b46c b_11_1 0,.sl (some ⟨b_12_1,0,none⟩) 4 encP 0 1 ([b_5_1,b_7_1,b_9_1,b_11_1]:List Nat) 68,E6e29b b_14_1 c (vP ba_4) (vP ra_3_1) (.slice (some ⟨b_12_1,0,none⟩) 4 4) 0,E3504b ba_4 ((mkAr c aw_5 cw_6).store (ctlAt c 0) (bornW 0)),E35fb1 ((mkAr c aw_5 cw_6).store (ctlAt c 0) (bornW 0)),E99bbc ra_3_1 ((rmAr c (rpackW c) aw_3_1 cw_3_1).store (ctlAt c 0) (bornW 0)) false 0,E35fb1 ((rmAr c (rpackW c) aw_3_1 cw_3_1).store (ctlAt c 0) (bornW 0)),.res (KlR c b_5_1 dK),.res (KlR c b_7_1 dK),.res (KlR c b_9_1 dK),Ee1326 none 0 ([]:List Int)]) (view_nil (encI .i64) 0 1 3 (sizedI _)) ?_
  refine ret_view (L':=[.pts b_1 [vI q0,vI q1,vI q2] 22,Efdc04 b_3 c,.sl (some ⟨b_12_1,0,none⟩) 4 encP 0 1 ([b_5_1,b_7_1,b_9_1,b_11_1]:List Nat) 68,E6e29b b_14_1 c (vP ba_4) (vP ra_3_1) (.slice (some ⟨b_12_1,0,none⟩) 4 4) 0,E3504b ba_4 ((mkAr c aw_5 cw_6).store (ctlAt c 0) (bornW 0)),E35fb1 ((mkAr c aw_5 cw_6).store (ctlAt c 0) (bornW 0)),E99bbc ra_3_1 ((rmAr c (rpackW c) aw_3_1 cw_3_1).store (ctlAt c 0) (bornW 0)) false 0,E35fb1 ((rmAr c (rpackW c) aw_3_1 cw_3_1).store (ctlAt c 0) (bornW 0)),.res (KlR c b_5_1 dK),.res (KlR c b_7_1 dK),.res (KlR c b_9_1 dK),.res (KlR c b_11_1 dK)]) (vK (fun _:KlH=>True) (klL c b_11_1 dK) ⟨.pointer none,.pointer none,.pointer none,none,0,0⟩ [2,12] trivial) ?_
  refine ret_view (L':=[.pts b_1 [vI q0,vI q1,vI q2] 22,Efdc04 b_3 c,.sl (some ⟨b_12_1,0,none⟩) 4 encP 0 1 ([b_5_1,b_7_1,b_9_1,b_11_1]:List Nat) 68,E6e29b b_14_1 c (vP ba_4) (vP ra_3_1) (.slice (some ⟨b_12_1,0,none⟩) 4 4) 0,E3504b ba_4 ((mkAr c aw_5 cw_6).store (ctlAt c 0) (bornW 0)),E35fb1 ((mkAr c aw_5 cw_6).store (ctlAt c 0) (bornW 0)),E99bbc ra_3_1 ((rmAr c (rpackW c) aw_3_1 cw_3_1).store (ctlAt c 0) (bornW 0)) false 0,E35fb1 ((rmAr c (rpackW c) aw_3_1 cw_3_1).store (ctlAt c 0) (bornW 0)),.res (KsR ([b_5_1,b_7_1,b_9_1,b_11_1]:List Nat) four c)]) (vC [8,9,10,11]) ?_
  refine ret_view (L':=[.pts b_1 [vI q0,vI q1,vI q2] 22,Efdc04 b_3 c,.sl (some ⟨b_12_1,0,none⟩) 4 encP 0 1 ([b_5_1,b_7_1,b_9_1,b_11_1]:List Nat) 68,E6e29b b_14_1 c (vP ba_4) (vP ra_3_1) (.slice (some ⟨b_12_1,0,none⟩) 4 4) 0,E3504b ba_4 ((mkAr c aw_5 cw_6).store (ctlAt c 0) (bornW 0)),E35fb1 ((mkAr c aw_5 cw_6).store (ctlAt c 0) (bornW 0)),E99bbc ra_3_1 ((rmAr c (rpackW c) aw_3_1 cw_3_1).store (ctlAt c 0) (bornW 0)) false 0,E35fb1 ((rmAr c (rpackW c) aw_3_1 cw_3_1).store (ctlAt c 0) (bornW 0)),.res (KsR ([b_5_1,b_7_1,b_9_1,b_11_1]:List Nat) four c),Ee1326 none 0 ([]:List Int)]) (view_nil (encI .i64) 0 1 3 (sizedI _)) ?_
  exact ret_ok (post:=[E6e29b b_14_1 c (vP ba_4) (vP ra_3_1) (.slice (some ⟨b_12_1,0,none⟩) 4 4) 0,.sl (some ⟨b_12_1,0,none⟩) 4 encP 0 1 ([b_5_1,b_7_1,b_9_1,b_11_1]:List Nat) 68,Ee1326 none 0 ([]:List Int),E3504b ba_4 ((mkAr c aw_5 cw_6).store (ctlAt c 0) (bornW 0)),E35fb1 ((mkAr c aw_5 cw_6).store (ctlAt c 0) (bornW 0)),E99bbc ra_3_1 ((rmAr c (rpackW c) aw_3_1 cw_3_1).store (ctlAt c 0) (bornW 0)) false 0,E35fb1 ((rmAr c (rpackW c) aw_3_1 cw_3_1).store (ctlAt c 0) (bornW 0)),.res (KsR ([b_5_1,b_7_1,b_9_1,b_11_1]:List Nat) four c)]) [3,2,9,4,5,6,7,8] kR ⟨b_14_1,ba_4,ra_3_1,(some ⟨b_12_1,0,none⟩),4,[b_5_1,b_7_1,b_9_1,b_11_1],aw_5,cw_6,aw_3_1,cw_3_1,rfl,kR,rfl⟩
 have aS_155:∀(ra_3_1:Nat) (aw_3_1:Option Addr) (cw_3_1:Nat) (b_5_1:Nat) (b_7_1:Nat) (b_9_1:Nat) (b_11_1:Nat) (b_12_1:Nat),Lz Tryz.prog Tryz.f26 B26 35 F (RetR F (Ylaw17_begun c)) (regOps B26 [0,1,1,1,1]) [.c [1,1,1,1,1]] (mk 16 [0,1,2,3,4,5,6,7,8,9,10,11,12]) [0,1] [(28,.slice (some ⟨b_12_1,0,none⟩) 4 4),(19,vP ra_3_1),(3,vP b_3),(4,vP ba_4),(16,cfgV c),(17,vP ba_4)] [.pts b_1 [vI q0,vI q1,vI q2] 22,Efdc04 b_3 c,E3504b ba_4 (mkAr c aw_5 cw_6),E35fb1 (mkAr c aw_5 cw_6),E99bbc ra_3_1 (rmAr c (rpackW c) aw_3_1 cw_3_1) false 0,E35fb1 (rmAr c (rpackW c) aw_3_1 cw_3_1),E0b46c b_5_1 0,E0b46c b_7_1 0,E0b46c b_9_1 0,E0b46c b_11_1 0,E9e911 b_12_1 (vP b_5_1) (vP b_7_1) (vP b_9_1) (vP b_11_1)]:=by
  intro ra_3_1 aw_3_1 cw_3_1 b_5_1 b_7_1 b_9_1 b_11_1 b_12_1
  refine zN [13] [(0,.e 1),(1,.w),(13,.w)] [28,19,3,4,16,17,29] [14] (.e b_3 .n) ⟨?_,trivial⟩
  refine zX .w (sN fun b_14_1=>(sV ?_))
  exact zW [30] [0,1,2,3,4,5,6,7,8,9,10,11] (aS_154 ra_3_1 aw_3_1 cw_3_1 b_5_1 b_7_1 b_9_1 b_11_1 b_12_1 b_14_1)
 have aS_156:∀(ra_3_1:Nat) (aw_3_1:Option Addr) (cw_3_1:Nat) (b_5_1:Nat) (b_7_1:Nat) (b_9_1:Nat) (b_11_1:Nat),Lz Tryz.prog Tryz.f26 B26 35 F (RetR F (Ylaw17_begun c)) (regOps B26 [0,1,1,1,1]) [.c [1,1,1,1,1]] (mk 16 [0,1,2,3,4,5,6,7,8,9,10,11]) [0,1] [(27,vP b_11_1),(25,vP b_9_1),(23,vP b_7_1),(21,vP b_5_1),(19,vP ra_3_1),(3,vP b_3),(4,vP ba_4),(16,cfgV c),(17,vP ba_4)] [.pts b_1 [vI q0,vI q1,vI q2] 22,Efdc04 b_3 c,E3504b ba_4 (mkAr c aw_5 cw_6),E35fb1 (mkAr c aw_5 cw_6),E99bbc ra_3_1 (rmAr c (rpackW c) aw_3_1 cw_3_1) false 0,E35fb1 (rmAr c (rpackW c) aw_3_1 cw_3_1),E0b46c b_5_1 0,E0b46c b_7_1 0,E0b46c b_9_1 0,E0b46c b_11_1 0]:=by
  intro ra_3_1 aw_3_1 cw_3_1 b_5_1 b_7_1 b_9_1 b_11_1
  refine zN [] (kV 0 [.e 1,.w]) [27,25,23,21,19,3,4,16,17] [12] (.e b_3 .n) ⟨?_,trivial⟩
  refine zX .w (sN fun b_12_1=>(sV ?_))
  exact zW [28,19,3,4,16,17] [0,1,2,3,4,5,6,7,8,9,10] (aS_155 ra_3_1 aw_3_1 cw_3_1 b_5_1 b_7_1 b_9_1 b_11_1 b_12_1)
 have aS_157:∀(b_5_1:Nat) (b_7_1:Nat) (b_9_1:Nat) (b_11_1:Nat) (b_12_1:Nat),Lz Tryz.prog Tryz.f26 B26 35 F (RetR F (Ylaw17_begun c)) (regOps B26 [0,1,1,1,1]) [.c [1,1,1,1,1]] (mk 16 [0,1,2,4,5,6,7,8,9,10,11,12]) [0,1,2] [(28,.slice (some ⟨b_12_1,0,none⟩) 4 4),(3,vP b_3),(4,vP ba_4),(16,cfgV c),(17,vP ba_4),(18,cfgV c)] [.pts b_1 [vI q0,vI q1,vI q2] 22,Efdc04 b_3 c,E3504b ba_4 (mkAr c aw_5 cw_6),E35fb1 (mkAr c aw_5 cw_6),E0b46c b_5_1 0,E0b46c b_7_1 0,E0b46c b_9_1 0,E0b46c b_11_1 0,E9e911 b_12_1 (vP b_5_1) (vP b_7_1) (vP b_9_1) (vP b_11_1)]:=by
  intro b_5_1 b_7_1 b_9_1 b_11_1 b_12_1
  refine zN [] (kV 0 [.e 1,.w,.e 1]) [28,3,4,16,17,18] [3] (.e b_3 (.e b_3 .n)) ⟨?_,trivial⟩
  refine zC (some 19) [] Tryz.call68 (ref_MakeX c hc) ?_
  rintro v post ⟨ra_3_1,aw_3_1,cw_3_1,rfl,rfl⟩
  exact zW [28,19,3,4,16,17] [0,1,2,3,9,10,4,5,6,7,8] (aS_155 ra_3_1 aw_3_1 cw_3_1 b_5_1 b_7_1 b_9_1 b_11_1 b_12_1)
 have aS_158:∀(ra_3_1:Nat) (aw_3_1:Option Addr) (cw_3_1:Nat) (b_5_1:Nat) (b_7_1:Nat) (b_9_1:Nat),Lz Tryz.prog Tryz.f26 B26 35 F (RetR F (Ylaw17_begun c)) (regOps B26 [0,1,1,1,1]) [.c [1,1,1,1,1]] (mk 16 [0,1,2,3,4,5,6,7,8,9,10]) [0,1,10] [(25,vP b_9_1),(23,vP b_7_1),(21,vP b_5_1),(19,vP ra_3_1),(3,vP b_3),(4,vP ba_4),(16,cfgV c),(17,vP ba_4),(26,zK)] [.pts b_1 [vI q0,vI q1,vI q2] 22,Efdc04 b_3 c,E3504b ba_4 (mkAr c aw_5 cw_6),E35fb1 (mkAr c aw_5 cw_6),E99bbc ra_3_1 (rmAr c (rpackW c) aw_3_1 cw_3_1) false 0,E35fb1 (rmAr c (rpackW c) aw_3_1 cw_3_1),E0b46c b_5_1 0,E0b46c b_7_1 0,E0b46c b_9_1 0]:=by
  intro ra_3_1 aw_3_1 cw_3_1 b_5_1 b_7_1 b_9_1
  refine zN [] [(0,.e 1),(1,.w),(10,.w)] [25,23,21,19,3,4,16,17,26] [11] (.e b_3 .n) ⟨?_,trivial⟩
  refine zX .w (sN fun b_11_1=>(sV ?_))
  exact zW [27,25,23,21,19,3,4,16,17] [0,1,2,3,4,5,6,7,8,9] (aS_156 ra_3_1 aw_3_1 cw_3_1 b_5_1 b_7_1 b_9_1 b_11_1)
 have aS_159:∀(ra_3_1:Nat) (aw_3_1:Option Addr) (cw_3_1:Nat) (b_5_1:Nat) (b_7_1:Nat) (b_11_1:Nat),Lz Tryz.prog Tryz.f26 B26 35 F (RetR F (Ylaw17_begun c)) (regOps B26 [0,1,1,1,1]) [.c [1,1,1,1,1]] (mk 16 [0,1,2,3,4,5,6,7,8,10,11]) [0,1,8] [(27,vP b_11_1),(23,vP b_7_1),(21,vP b_5_1),(19,vP ra_3_1),(3,vP b_3),(4,vP ba_4),(16,cfgV c),(17,vP ba_4),(24,zK)] [.pts b_1 [vI q0,vI q1,vI q2] 22,Efdc04 b_3 c,E3504b ba_4 (mkAr c aw_5 cw_6),E35fb1 (mkAr c aw_5 cw_6),E99bbc ra_3_1 (rmAr c (rpackW c) aw_3_1 cw_3_1) false 0,E35fb1 (rmAr c (rpackW c) aw_3_1 cw_3_1),E0b46c b_5_1 0,E0b46c b_7_1 0,E0b46c b_11_1 0]:=by
  intro ra_3_1 aw_3_1 cw_3_1 b_5_1 b_7_1 b_11_1
  refine zN [] [(0,.e 1),(1,.w),(8,.w)] [27,23,21,19,3,4,16,17,24] [9] (.e b_3 .n) ⟨?_,trivial⟩
  refine zX .w (sN fun b_9_1=>(sV ?_))
  exact zW [27,25,23,21,19,3,4,16,17] [0,1,2,3,4,5,6,7,9,8] (aS_156 ra_3_1 aw_3_1 cw_3_1 b_5_1 b_7_1 b_9_1 b_11_1)
 have aS_160:∀(ra_3_1:Nat) (aw_3_1:Option Addr) (cw_3_1:Nat) (b_5_1:Nat) (b_9_1:Nat) (b_11_1:Nat),Lz Tryz.prog Tryz.f26 B26 35 F (RetR F (Ylaw17_begun c)) (regOps B26 [0,1,1,1,1]) [.c [1,1,1,1,1]] (mk 16 [0,1,2,3,4,5,6,8,9,10,11]) [0,1,6] [(27,vP b_11_1),(25,vP b_9_1),(21,vP b_5_1),(19,vP ra_3_1),(3,vP b_3),(4,vP ba_4),(16,cfgV c),(17,vP ba_4),(22,zK)] [.pts b_1 [vI q0,vI q1,vI q2] 22,Efdc04 b_3 c,E3504b ba_4 (mkAr c aw_5 cw_6),E35fb1 (mkAr c aw_5 cw_6),E99bbc ra_3_1 (rmAr c (rpackW c) aw_3_1 cw_3_1) false 0,E35fb1 (rmAr c (rpackW c) aw_3_1 cw_3_1),E0b46c b_5_1 0,E0b46c b_9_1 0,E0b46c b_11_1 0]:=by
  intro ra_3_1 aw_3_1 cw_3_1 b_5_1 b_9_1 b_11_1
  refine zN [] [(0,.e 1),(1,.w),(6,.w)] [27,25,21,19,3,4,16,17,22] [7] (.e b_3 .n) ⟨?_,trivial⟩
  refine zX .w (sN fun b_7_1=>(sV ?_))
  exact zW [27,25,23,21,19,3,4,16,17] [0,1,2,3,4,5,6,9,7,8] (aS_156 ra_3_1 aw_3_1 cw_3_1 b_5_1 b_7_1 b_9_1 b_11_1)
 have aS_161:∀(ra_3_1:Nat) (aw_3_1:Option Addr) (cw_3_1:Nat) (b_7_1:Nat) (b_9_1:Nat) (b_11_1:Nat),Lz Tryz.prog Tryz.f26 B26 35 F (RetR F (Ylaw17_begun c)) (regOps B26 [0,1,1,1,1]) [.c [1,1,1,1,1]] (mk 16 [0,1,2,3,4,6,7,8,9,10,11]) [0,1,4] [(27,vP b_11_1),(25,vP b_9_1),(23,vP b_7_1),(19,vP ra_3_1),(3,vP b_3),(4,vP ba_4),(16,cfgV c),(17,vP ba_4),(20,zK)] [.pts b_1 [vI q0,vI q1,vI q2] 22,Efdc04 b_3 c,E3504b ba_4 (mkAr c aw_5 cw_6),E35fb1 (mkAr c aw_5 cw_6),E99bbc ra_3_1 (rmAr c (rpackW c) aw_3_1 cw_3_1) false 0,E35fb1 (rmAr c (rpackW c) aw_3_1 cw_3_1),E0b46c b_7_1 0,E0b46c b_9_1 0,E0b46c b_11_1 0]:=by
  intro ra_3_1 aw_3_1 cw_3_1 b_7_1 b_9_1 b_11_1
  refine zN [] [(0,.e 1),(1,.w),(4,.w)] [27,25,23,19,3,4,16,17,20] [5] (.e b_3 .n) ⟨?_,trivial⟩
  refine zX .w (sN fun b_5_1=>(sV ?_))
  exact zW [27,25,23,21,19,3,4,16,17] [0,1,2,3,4,5,9,6,7,8] (aS_156 ra_3_1 aw_3_1 cw_3_1 b_5_1 b_7_1 b_9_1 b_11_1)
 have aS_162:∀(b_5_1:Nat) (b_7_1:Nat) (b_9_1:Nat) (b_11_1:Nat),Lz Tryz.prog Tryz.f26 B26 35 F (RetR F (Ylaw17_begun c)) (regOps B26 [0,1,1,1,1]) [.c [1,1,1,1,1]] (mk 16 [0,1,2,4,5,6,7,8,9,10,11]) [0,1,2] [(27,vP b_11_1),(25,vP b_9_1),(23,vP b_7_1),(21,vP b_5_1),(3,vP b_3),(4,vP ba_4),(16,cfgV c),(17,vP ba_4),(18,cfgV c)] [.pts b_1 [vI q0,vI q1,vI q2] 22,Efdc04 b_3 c,E3504b ba_4 (mkAr c aw_5 cw_6),E35fb1 (mkAr c aw_5 cw_6),E0b46c b_5_1 0,E0b46c b_7_1 0,E0b46c b_9_1 0,E0b46c b_11_1 0]:=by
  intro b_5_1 b_7_1 b_9_1 b_11_1
  refine zN [] (kV 0 [.e 1,.w,.e 1]) [27,25,23,21,3,4,16,17,18] [3,12] (.e b_3 (.e b_3 .n)) ⟨?_, ?_,trivial⟩
  ·refine zC (some 19) [] Tryz.call68 (ref_MakeX c hc) ?_
   rintro v post ⟨ra_3_1,aw_3_1,cw_3_1,rfl,rfl⟩
   exact zW [27,25,23,21,19,3,4,16,17] [0,1,2,3,8,9,4,5,6,7] (aS_156 ra_3_1 aw_3_1 cw_3_1 b_5_1 b_7_1 b_9_1 b_11_1)
  ·refine zX .w (sN fun b_12_1=>(sV ?_))
   exact zW [28,3,4,16,17,18] [0,1,2,3,4,5,6,7,8] (aS_157 b_5_1 b_7_1 b_9_1 b_11_1 b_12_1)
 have aS_163:∀(ra_3_1:Nat) (aw_3_1:Option Addr) (cw_3_1:Nat) (b_5_1:Nat) (b_7_1:Nat),Lz Tryz.prog Tryz.f26 B26 35 F (RetR F (Ylaw17_begun c)) (regOps B26 [0,1,1,1,1]) [.c [1,1,1,1,1]] (mk 16 [0,1,2,3,4,5,6,7,8,10]) [0,1,8,10] [(23,vP b_7_1),(21,vP b_5_1),(19,vP ra_3_1),(3,vP b_3),(4,vP ba_4),(16,cfgV c),(17,vP ba_4),(24,zK),(26,zK)] [.pts b_1 [vI q0,vI q1,vI q2] 22,Efdc04 b_3 c,E3504b ba_4 (mkAr c aw_5 cw_6),E35fb1 (mkAr c aw_5 cw_6),E99bbc ra_3_1 (rmAr c (rpackW c) aw_3_1 cw_3_1) false 0,E35fb1 (rmAr c (rpackW c) aw_3_1 cw_3_1),E0b46c b_5_1 0,E0b46c b_7_1 0]:=by
  intro ra_3_1 aw_3_1 cw_3_1 b_5_1 b_7_1
  refine zN [] [(0,.e 1),(1,.w),(8,.w),(10,.w)] [23,21,19,3,4,16,17,24,26] [9,11] (.e b_3 .n) ⟨?_, ?_,trivial⟩
  ·refine zX .w (sN fun b_9_1=>(sV ?_))
   exact zW [25,23,21,19,3,4,16,17,26] [0,1,2,3,4,5,6,7,8] (aS_158 ra_3_1 aw_3_1 cw_3_1 b_5_1 b_7_1 b_9_1)
  ·refine zX .w (sN fun b_11_1=>(sV ?_))
   exact zW [27,23,21,19,3,4,16,17,24] [0,1,2,3,4,5,6,7,8] (aS_159 ra_3_1 aw_3_1 cw_3_1 b_5_1 b_7_1 b_11_1)
 have aS_164:∀(ra_3_1:Nat) (aw_3_1:Option Addr) (cw_3_1:Nat) (b_5_1:Nat) (b_9_1:Nat),Lz Tryz.prog Tryz.f26 B26 35 F (RetR F (Ylaw17_begun c)) (regOps B26 [0,1,1,1,1]) [.c [1,1,1,1,1]] (mk 16 [0,1,2,3,4,5,6,8,9,10]) [0,1,6,10] [(25,vP b_9_1),(21,vP b_5_1),(19,vP ra_3_1),(3,vP b_3),(4,vP ba_4),(16,cfgV c),(17,vP ba_4),(22,zK),(26,zK)] [.pts b_1 [vI q0,vI q1,vI q2] 22,Efdc04 b_3 c,E3504b ba_4 (mkAr c aw_5 cw_6),E35fb1 (mkAr c aw_5 cw_6),E99bbc ra_3_1 (rmAr c (rpackW c) aw_3_1 cw_3_1) false 0,E35fb1 (rmAr c (rpackW c) aw_3_1 cw_3_1),E0b46c b_5_1 0,E0b46c b_9_1 0]:=by
  intro ra_3_1 aw_3_1 cw_3_1 b_5_1 b_9_1
  refine zN [] [(0,.e 1),(1,.w),(6,.w),(10,.w)] [25,21,19,3,4,16,17,22,26] [7,11] (.e b_3 .n) ⟨?_, ?_,trivial⟩
  ·refine zX .w (sN fun b_7_1=>(sV ?_))
   exact zW [25,23,21,19,3,4,16,17,26] [0,1,2,3,4,5,6,8,7] (aS_158 ra_3_1 aw_3_1 cw_3_1 b_5_1 b_7_1 b_9_1)
  ·refine zX .w (sN fun b_11_1=>(sV ?_))
   exact zW [27,25,21,19,3,4,16,17,22] [0,1,2,3,4,5,6,7,8] (aS_160 ra_3_1 aw_3_1 cw_3_1 b_5_1 b_9_1 b_11_1)
 have aS_165:∀(ra_3_1:Nat) (aw_3_1:Option Addr) (cw_3_1:Nat) (b_5_1:Nat) (b_11_1:Nat),Lz Tryz.prog Tryz.f26 B26 35 F (RetR F (Ylaw17_begun c)) (regOps B26 [0,1,1,1,1]) [.c [1,1,1,1,1]] (mk 16 [0,1,2,3,4,5,6,8,10,11]) [0,1,6,8] [(27,vP b_11_1),(21,vP b_5_1),(19,vP ra_3_1),(3,vP b_3),(4,vP ba_4),(16,cfgV c),(17,vP ba_4),(22,zK),(24,zK)] [.pts b_1 [vI q0,vI q1,vI q2] 22,Efdc04 b_3 c,E3504b ba_4 (mkAr c aw_5 cw_6),E35fb1 (mkAr c aw_5 cw_6),E99bbc ra_3_1 (rmAr c (rpackW c) aw_3_1 cw_3_1) false 0,E35fb1 (rmAr c (rpackW c) aw_3_1 cw_3_1),E0b46c b_5_1 0,E0b46c b_11_1 0]:=by
  intro ra_3_1 aw_3_1 cw_3_1 b_5_1 b_11_1
  refine zN [] [(0,.e 1),(1,.w),(6,.w),(8,.w)] [27,21,19,3,4,16,17,22,24] [7,9] (.e b_3 .n) ⟨?_, ?_,trivial⟩
  ·refine zX .w (sN fun b_7_1=>(sV ?_))
   exact zW [27,23,21,19,3,4,16,17,24] [0,1,2,3,4,5,6,8,7] (aS_159 ra_3_1 aw_3_1 cw_3_1 b_5_1 b_7_1 b_11_1)
  ·refine zX .w (sN fun b_9_1=>(sV ?_))
   exact zW [27,25,21,19,3,4,16,17,22] [0,1,2,3,4,5,6,8,7] (aS_160 ra_3_1 aw_3_1 cw_3_1 b_5_1 b_9_1 b_11_1)
 have aS_166:∀(ra_3_1:Nat) (aw_3_1:Option Addr) (cw_3_1:Nat) (b_7_1:Nat) (b_9_1:Nat),Lz Tryz.prog Tryz.f26 B26 35 F (RetR F (Ylaw17_begun c)) (regOps B26 [0,1,1,1,1]) [.c [1,1,1,1,1]] (mk 16 [0,1,2,3,4,6,7,8,9,10]) [0,1,4,10] [(25,vP b_9_1),(23,vP b_7_1),(19,vP ra_3_1),(3,vP b_3),(4,vP ba_4),(16,cfgV c),(17,vP ba_4),(20,zK),(26,zK)] [.pts b_1 [vI q0,vI q1,vI q2] 22,Efdc04 b_3 c,E3504b ba_4 (mkAr c aw_5 cw_6),E35fb1 (mkAr c aw_5 cw_6),E99bbc ra_3_1 (rmAr c (rpackW c) aw_3_1 cw_3_1) false 0,E35fb1 (rmAr c (rpackW c) aw_3_1 cw_3_1),E0b46c b_7_1 0,E0b46c b_9_1 0]:=by
  intro ra_3_1 aw_3_1 cw_3_1 b_7_1 b_9_1
  refine zN [] [(0,.e 1),(1,.w),(4,.w),(10,.w)] [25,23,19,3,4,16,17,20,26] [5,11] (.e b_3 .n) ⟨?_, ?_,trivial⟩
  ·refine zX .w (sN fun b_5_1=>(sV ?_))
   exact zW [25,23,21,19,3,4,16,17,26] [0,1,2,3,4,5,8,6,7] (aS_158 ra_3_1 aw_3_1 cw_3_1 b_5_1 b_7_1 b_9_1)
  ·refine zX .w (sN fun b_11_1=>(sV ?_))
   exact zW [27,25,23,19,3,4,16,17,20] [0,1,2,3,4,5,6,7,8] (aS_161 ra_3_1 aw_3_1 cw_3_1 b_7_1 b_9_1 b_11_1)
 have aS_167:∀(ra_3_1:Nat) (aw_3_1:Option Addr) (cw_3_1:Nat) (b_7_1:Nat) (b_11_1:Nat),Lz Tryz.prog Tryz.f26 B26 35 F (RetR F (Ylaw17_begun c)) (regOps B26 [0,1,1,1,1]) [.c [1,1,1,1,1]] (mk 16 [0,1,2,3,4,6,7,8,10,11]) [0,1,4,8] [(27,vP b_11_1),(23,vP b_7_1),(19,vP ra_3_1),(3,vP b_3),(4,vP ba_4),(16,cfgV c),(17,vP ba_4),(20,zK),(24,zK)] [.pts b_1 [vI q0,vI q1,vI q2] 22,Efdc04 b_3 c,E3504b ba_4 (mkAr c aw_5 cw_6),E35fb1 (mkAr c aw_5 cw_6),E99bbc ra_3_1 (rmAr c (rpackW c) aw_3_1 cw_3_1) false 0,E35fb1 (rmAr c (rpackW c) aw_3_1 cw_3_1),E0b46c b_7_1 0,E0b46c b_11_1 0]:=by
  intro ra_3_1 aw_3_1 cw_3_1 b_7_1 b_11_1
  refine zN [] [(0,.e 1),(1,.w),(4,.w),(8,.w)] [27,23,19,3,4,16,17,20,24] [5,9] (.e b_3 .n) ⟨?_, ?_,trivial⟩
  ·refine zX .w (sN fun b_5_1=>(sV ?_))
   exact zW [27,23,21,19,3,4,16,17,24] [0,1,2,3,4,5,8,6,7] (aS_159 ra_3_1 aw_3_1 cw_3_1 b_5_1 b_7_1 b_11_1)
  ·refine zX .w (sN fun b_9_1=>(sV ?_))
   exact zW [27,25,23,19,3,4,16,17,20] [0,1,2,3,4,5,6,8,7] (aS_161 ra_3_1 aw_3_1 cw_3_1 b_7_1 b_9_1 b_11_1)
 have aS_168:∀(ra_3_1:Nat) (aw_3_1:Option Addr) (cw_3_1:Nat) (b_9_1:Nat) (b_11_1:Nat),Lz Tryz.prog Tryz.f26 B26 35 F (RetR F (Ylaw17_begun c)) (regOps B26 [0,1,1,1,1]) [.c [1,1,1,1,1]] (mk 16 [0,1,2,3,4,6,8,9,10,11]) [0,1,4,6] [(27,vP b_11_1),(25,vP b_9_1),(19,vP ra_3_1),(3,vP b_3),(4,vP ba_4),(16,cfgV c),(17,vP ba_4),(20,zK),(22,zK)] [.pts b_1 [vI q0,vI q1,vI q2] 22,Efdc04 b_3 c,E3504b ba_4 (mkAr c aw_5 cw_6),E35fb1 (mkAr c aw_5 cw_6),E99bbc ra_3_1 (rmAr c (rpackW c) aw_3_1 cw_3_1) false 0,E35fb1 (rmAr c (rpackW c) aw_3_1 cw_3_1),E0b46c b_9_1 0,E0b46c b_11_1 0]:=by
  intro ra_3_1 aw_3_1 cw_3_1 b_9_1 b_11_1
  refine zN [] [(0,.e 1),(1,.w),(4,.w),(6,.w)] [27,25,19,3,4,16,17,20,22] [5,7] (.e b_3 .n) ⟨?_, ?_,trivial⟩
  ·refine zX .w (sN fun b_5_1=>(sV ?_))
   exact zW [27,25,21,19,3,4,16,17,22] [0,1,2,3,4,5,8,6,7] (aS_160 ra_3_1 aw_3_1 cw_3_1 b_5_1 b_9_1 b_11_1)
  ·refine zX .w (sN fun b_7_1=>(sV ?_))
   exact zW [27,25,23,19,3,4,16,17,20] [0,1,2,3,4,5,8,6,7] (aS_161 ra_3_1 aw_3_1 cw_3_1 b_7_1 b_9_1 b_11_1)
 have aS_169:∀(b_5_1:Nat) (b_7_1:Nat) (b_9_1:Nat),Lz Tryz.prog Tryz.f26 B26 35 F (RetR F (Ylaw17_begun c)) (regOps B26 [0,1,1,1,1]) [.c [1,1,1,1,1]] (mk 16 [0,1,2,4,5,6,7,8,9,10]) [0,1,2,10] [(25,vP b_9_1),(23,vP b_7_1),(21,vP b_5_1),(3,vP b_3),(4,vP ba_4),(16,cfgV c),(17,vP ba_4),(18,cfgV c),(26,zK)] [.pts b_1 [vI q0,vI q1,vI q2] 22,Efdc04 b_3 c,E3504b ba_4 (mkAr c aw_5 cw_6),E35fb1 (mkAr c aw_5 cw_6),E0b46c b_5_1 0,E0b46c b_7_1 0,E0b46c b_9_1 0]:=by
  intro b_5_1 b_7_1 b_9_1
  refine zN [] [(0,.e 1),(1,.w),(2,.e 1),(10,.w)] [25,23,21,3,4,16,17,18,26] [3,11] (.e b_3 (.e b_3 .n)) ⟨?_, ?_,trivial⟩
  ·refine zC (some 19) [] Tryz.call68 (ref_MakeX c hc) ?_
   rintro v post ⟨ra_3_1,aw_3_1,cw_3_1,rfl,rfl⟩
   exact zW [25,23,21,19,3,4,16,17,26] [0,1,2,3,7,8,4,5,6] (aS_158 ra_3_1 aw_3_1 cw_3_1 b_5_1 b_7_1 b_9_1)
  ·refine zX .w (sN fun b_11_1=>(sV ?_))
   exact zW [27,25,23,21,3,4,16,17,18] [0,1,2,3,4,5,6,7] (aS_162 b_5_1 b_7_1 b_9_1 b_11_1)
 have aS_170:∀(b_5_1:Nat) (b_7_1:Nat) (b_11_1:Nat),Lz Tryz.prog Tryz.f26 B26 35 F (RetR F (Ylaw17_begun c)) (regOps B26 [0,1,1,1,1]) [.c [1,1,1,1,1]] (mk 16 [0,1,2,4,5,6,7,8,10,11]) [0,1,2,8] [(27,vP b_11_1),(23,vP b_7_1),(21,vP b_5_1),(3,vP b_3),(4,vP ba_4),(16,cfgV c),(17,vP ba_4),(18,cfgV c),(24,zK)] [.pts b_1 [vI q0,vI q1,vI q2] 22,Efdc04 b_3 c,E3504b ba_4 (mkAr c aw_5 cw_6),E35fb1 (mkAr c aw_5 cw_6),E0b46c b_5_1 0,E0b46c b_7_1 0,E0b46c b_11_1 0]:=by
  intro b_5_1 b_7_1 b_11_1
  refine zN [] [(0,.e 1),(1,.w),(2,.e 1),(8,.w)] [27,23,21,3,4,16,17,18,24] [3,9] (.e b_3 (.e b_3 .n)) ⟨?_, ?_,trivial⟩
  ·refine zC (some 19) [] Tryz.call68 (ref_MakeX c hc) ?_
   rintro v post ⟨ra_3_1,aw_3_1,cw_3_1,rfl,rfl⟩
   exact zW [27,23,21,19,3,4,16,17,24] [0,1,2,3,7,8,4,5,6] (aS_159 ra_3_1 aw_3_1 cw_3_1 b_5_1 b_7_1 b_11_1)
  ·refine zX .w (sN fun b_9_1=>(sV ?_))
   exact zW [27,25,23,21,3,4,16,17,18] [0,1,2,3,4,5,7,6] (aS_162 b_5_1 b_7_1 b_9_1 b_11_1)
 have aS_171:∀(b_5_1:Nat) (b_9_1:Nat) (b_11_1:Nat),Lz Tryz.prog Tryz.f26 B26 35 F (RetR F (Ylaw17_begun c)) (regOps B26 [0,1,1,1,1]) [.c [1,1,1,1,1]] (mk 16 [0,1,2,4,5,6,8,9,10,11]) [0,1,2,6] [(27,vP b_11_1),(25,vP b_9_1),(21,vP b_5_1),(3,vP b_3),(4,vP ba_4),(16,cfgV c),(17,vP ba_4),(18,cfgV c),(22,zK)] [.pts b_1 [vI q0,vI q1,vI q2] 22,Efdc04 b_3 c,E3504b ba_4 (mkAr c aw_5 cw_6),E35fb1 (mkAr c aw_5 cw_6),E0b46c b_5_1 0,E0b46c b_9_1 0,E0b46c b_11_1 0]:=by
  intro b_5_1 b_9_1 b_11_1
  refine zN [] [(0,.e 1),(1,.w),(2,.e 1),(6,.w)] [27,25,21,3,4,16,17,18,22] [3,7] (.e b_3 (.e b_3 .n)) ⟨?_, ?_,trivial⟩
  ·refine zC (some 19) [] Tryz.call68 (ref_MakeX c hc) ?_
   rintro v post ⟨ra_3_1,aw_3_1,cw_3_1,rfl,rfl⟩
   exact zW [27,25,21,19,3,4,16,17,22] [0,1,2,3,7,8,4,5,6] (aS_160 ra_3_1 aw_3_1 cw_3_1 b_5_1 b_9_1 b_11_1)
  ·refine zX .w (sN fun b_7_1=>(sV ?_))
   exact zW [27,25,23,21,3,4,16,17,18] [0,1,2,3,4,7,5,6] (aS_162 b_5_1 b_7_1 b_9_1 b_11_1)
 have aS_172:∀(b_7_1:Nat) (b_9_1:Nat) (b_11_1:Nat),Lz Tryz.prog Tryz.f26 B26 35 F (RetR F (Ylaw17_begun c)) (regOps B26 [0,1,1,1,1]) [.c [1,1,1,1,1]] (mk 16 [0,1,2,4,6,7,8,9,10,11]) [0,1,2,4] [(27,vP b_11_1),(25,vP b_9_1),(23,vP b_7_1),(3,vP b_3),(4,vP ba_4),(16,cfgV c),(17,vP ba_4),(18,cfgV c),(20,zK)] [.pts b_1 [vI q0,vI q1,vI q2] 22,Efdc04 b_3 c,E3504b ba_4 (mkAr c aw_5 cw_6),E35fb1 (mkAr c aw_5 cw_6),E0b46c b_7_1 0,E0b46c b_9_1 0,E0b46c b_11_1 0]:=by
  intro b_7_1 b_9_1 b_11_1
  refine zN [] [(0,.e 1),(1,.w),(2,.e 1),(4,.w)] [27,25,23,3,4,16,17,18,20] [3,5] (.e b_3 (.e b_3 .n)) ⟨?_, ?_,trivial⟩
  ·refine zC (some 19) [] Tryz.call68 (ref_MakeX c hc) ?_
   rintro v post ⟨ra_3_1,aw_3_1,cw_3_1,rfl,rfl⟩
   exact zW [27,25,23,19,3,4,16,17,20] [0,1,2,3,7,8,4,5,6] (aS_161 ra_3_1 aw_3_1 cw_3_1 b_7_1 b_9_1 b_11_1)
  ·refine zX .w (sN fun b_5_1=>(sV ?_))
   exact zW [27,25,23,21,3,4,16,17,18] [0,1,2,3,7,4,5,6] (aS_162 b_5_1 b_7_1 b_9_1 b_11_1)
 have aS_173:∀(ra_3_1:Nat) (aw_3_1:Option Addr) (cw_3_1:Nat) (b_5_1:Nat),Lz Tryz.prog Tryz.f26 B26 35 F (RetR F (Ylaw17_begun c)) (regOps B26 [0,1,1,1,1]) [.c [1,1,1,1,1]] (mk 16 [0,1,2,3,4,5,6,8,10]) [0,1,6,8,10] [(21,vP b_5_1),(19,vP ra_3_1),(3,vP b_3),(4,vP ba_4),(16,cfgV c),(17,vP ba_4),(22,zK),(24,zK),(26,zK)] [.pts b_1 [vI q0,vI q1,vI q2] 22,Efdc04 b_3 c,E3504b ba_4 (mkAr c aw_5 cw_6),E35fb1 (mkAr c aw_5 cw_6),E99bbc ra_3_1 (rmAr c (rpackW c) aw_3_1 cw_3_1) false 0,E35fb1 (rmAr c (rpackW c) aw_3_1 cw_3_1),E0b46c b_5_1 0]:=by
  intro ra_3_1 aw_3_1 cw_3_1 b_5_1
  refine zN [] [(0,.e 1),(1,.w),(6,.w),(8,.w),(10,.w)] [21,19,3,4,16,17,22,24,26] [7,9,11] (.e b_3 .n) ⟨?_, ?_, ?_,trivial⟩
  ·refine zX .w (sN fun b_7_1=>(sV ?_))
   exact zW [23,21,19,3,4,16,17,24,26] [0,1,2,3,4,5,6,7] (aS_163 ra_3_1 aw_3_1 cw_3_1 b_5_1 b_7_1)
  ·refine zX .w (sN fun b_9_1=>(sV ?_))
   exact zW [25,21,19,3,4,16,17,22,26] [0,1,2,3,4,5,6,7] (aS_164 ra_3_1 aw_3_1 cw_3_1 b_5_1 b_9_1)
  ·refine zX .w (sN fun b_11_1=>(sV ?_))
   exact zW [27,21,19,3,4,16,17,22,24] [0,1,2,3,4,5,6,7] (aS_165 ra_3_1 aw_3_1 cw_3_1 b_5_1 b_11_1)
 have aS_174:∀(ra_3_1:Nat) (aw_3_1:Option Addr) (cw_3_1:Nat) (b_7_1:Nat),Lz Tryz.prog Tryz.f26 B26 35 F (RetR F (Ylaw17_begun c)) (regOps B26 [0,1,1,1,1]) [.c [1,1,1,1,1]] (mk 16 [0,1,2,3,4,6,7,8,10]) [0,1,4,8,10] [(23,vP b_7_1),(19,vP ra_3_1),(3,vP b_3),(4,vP ba_4),(16,cfgV c),(17,vP ba_4),(20,zK),(24,zK),(26,zK)] [.pts b_1 [vI q0,vI q1,vI q2] 22,Efdc04 b_3 c,E3504b ba_4 (mkAr c aw_5 cw_6),E35fb1 (mkAr c aw_5 cw_6),E99bbc ra_3_1 (rmAr c (rpackW c) aw_3_1 cw_3_1) false 0,E35fb1 (rmAr c (rpackW c) aw_3_1 cw_3_1),E0b46c b_7_1 0]:=by
  intro ra_3_1 aw_3_1 cw_3_1 b_7_1
  refine zN [] [(0,.e 1),(1,.w),(4,.w),(8,.w),(10,.w)] [23,19,3,4,16,17,20,24,26] [5,9,11] (.e b_3 .n) ⟨?_, ?_, ?_,trivial⟩
  ·refine zX .w (sN fun b_5_1=>(sV ?_))
   exact zW [23,21,19,3,4,16,17,24,26] [0,1,2,3,4,5,7,6] (aS_163 ra_3_1 aw_3_1 cw_3_1 b_5_1 b_7_1)
  ·refine zX .w (sN fun b_9_1=>(sV ?_))
   exact zW [25,23,19,3,4,16,17,20,26] [0,1,2,3,4,5,6,7] (aS_166 ra_3_1 aw_3_1 cw_3_1 b_7_1 b_9_1)
  ·refine zX .w (sN fun b_11_1=>(sV ?_))
   exact zW [27,23,19,3,4,16,17,20,24] [0,1,2,3,4,5,6,7] (aS_167 ra_3_1 aw_3_1 cw_3_1 b_7_1 b_11_1)
 have aS_175:∀(ra_3_1:Nat) (aw_3_1:Option Addr) (cw_3_1:Nat) (b_9_1:Nat),Lz Tryz.prog Tryz.f26 B26 35 F (RetR F (Ylaw17_begun c)) (regOps B26 [0,1,1,1,1]) [.c [1,1,1,1,1]] (mk 16 [0,1,2,3,4,6,8,9,10]) [0,1,4,6,10] [(25,vP b_9_1),(19,vP ra_3_1),(3,vP b_3),(4,vP ba_4),(16,cfgV c),(17,vP ba_4),(20,zK),(22,zK),(26,zK)] [.pts b_1 [vI q0,vI q1,vI q2] 22,Efdc04 b_3 c,E3504b ba_4 (mkAr c aw_5 cw_6),E35fb1 (mkAr c aw_5 cw_6),E99bbc ra_3_1 (rmAr c (rpackW c) aw_3_1 cw_3_1) false 0,E35fb1 (rmAr c (rpackW c) aw_3_1 cw_3_1),E0b46c b_9_1 0]:=by
  intro ra_3_1 aw_3_1 cw_3_1 b_9_1
  refine zN [] [(0,.e 1),(1,.w),(4,.w),(6,.w),(10,.w)] [25,19,3,4,16,17,20,22,26] [5,7,11] (.e b_3 .n) ⟨?_, ?_, ?_,trivial⟩
  ·refine zX .w (sN fun b_5_1=>(sV ?_))
   exact zW [25,21,19,3,4,16,17,22,26] [0,1,2,3,4,5,7,6] (aS_164 ra_3_1 aw_3_1 cw_3_1 b_5_1 b_9_1)
  ·refine zX .w (sN fun b_7_1=>(sV ?_))
   exact zW [25,23,19,3,4,16,17,20,26] [0,1,2,3,4,5,7,6] (aS_166 ra_3_1 aw_3_1 cw_3_1 b_7_1 b_9_1)
  ·refine zX .w (sN fun b_11_1=>(sV ?_))
   exact zW [27,25,19,3,4,16,17,20,22] [0,1,2,3,4,5,6,7] (aS_168 ra_3_1 aw_3_1 cw_3_1 b_9_1 b_11_1)
 have aS_176:∀(ra_3_1:Nat) (aw_3_1:Option Addr) (cw_3_1:Nat) (b_11_1:Nat),Lz Tryz.prog Tryz.f26 B26 35 F (RetR F (Ylaw17_begun c)) (regOps B26 [0,1,1,1,1]) [.c [1,1,1,1,1]] (mk 16 [0,1,2,3,4,6,8,10,11]) [0,1,4,6,8] [(27,vP b_11_1),(19,vP ra_3_1),(3,vP b_3),(4,vP ba_4),(16,cfgV c),(17,vP ba_4),(20,zK),(22,zK),(24,zK)] [.pts b_1 [vI q0,vI q1,vI q2] 22,Efdc04 b_3 c,E3504b ba_4 (mkAr c aw_5 cw_6),E35fb1 (mkAr c aw_5 cw_6),E99bbc ra_3_1 (rmAr c (rpackW c) aw_3_1 cw_3_1) false 0,E35fb1 (rmAr c (rpackW c) aw_3_1 cw_3_1),E0b46c b_11_1 0]:=by
  intro ra_3_1 aw_3_1 cw_3_1 b_11_1
  refine zN [] [(0,.e 1),(1,.w),(4,.w),(6,.w),(8,.w)] [27,19,3,4,16,17,20,22,24] [5,7,9] (.e b_3 .n) ⟨?_, ?_, ?_,trivial⟩
  ·refine zX .w (sN fun b_5_1=>(sV ?_))
   exact zW [27,21,19,3,4,16,17,22,24] [0,1,2,3,4,5,7,6] (aS_165 ra_3_1 aw_3_1 cw_3_1 b_5_1 b_11_1)
  ·refine zX .w (sN fun b_7_1=>(sV ?_))
   exact zW [27,23,19,3,4,16,17,20,24] [0,1,2,3,4,5,7,6] (aS_167 ra_3_1 aw_3_1 cw_3_1 b_7_1 b_11_1)
  ·refine zX .w (sN fun b_9_1=>(sV ?_))
   exact zW [27,25,19,3,4,16,17,20,22] [0,1,2,3,4,5,7,6] (aS_168 ra_3_1 aw_3_1 cw_3_1 b_9_1 b_11_1)
 have aS_177:∀(b_5_1:Nat) (b_7_1:Nat),Lz Tryz.prog Tryz.f26 B26 35 F (RetR F (Ylaw17_begun c)) (regOps B26 [0,1,1,1,1]) [.c [1,1,1,1,1]] (mk 16 [0,1,2,4,5,6,7,8,10]) [0,1,2,8,10] [(23,vP b_7_1),(21,vP b_5_1),(3,vP b_3),(4,vP ba_4),(16,cfgV c),(17,vP ba_4),(18,cfgV c),(24,zK),(26,zK)] [.pts b_1 [vI q0,vI q1,vI q2] 22,Efdc04 b_3 c,E3504b ba_4 (mkAr c aw_5 cw_6),E35fb1 (mkAr c aw_5 cw_6),E0b46c b_5_1 0,E0b46c b_7_1 0]:=by
  intro b_5_1 b_7_1
  refine zN [] [(0,.e 1),(1,.w),(2,.e 1),(8,.w),(10,.w)] [23,21,3,4,16,17,18,24,26] [3,9,11] (.e b_3 (.e b_3 .n)) ⟨?_, ?_, ?_,trivial⟩
  ·refine zC (some 19) [] Tryz.call68 (ref_MakeX c hc) ?_
   rintro v post ⟨ra_3_1,aw_3_1,cw_3_1,rfl,rfl⟩
   exact zW [23,21,19,3,4,16,17,24,26] [0,1,2,3,6,7,4,5] (aS_163 ra_3_1 aw_3_1 cw_3_1 b_5_1 b_7_1)
  ·refine zX .w (sN fun b_9_1=>(sV ?_))
   exact zW [25,23,21,3,4,16,17,18,26] [0,1,2,3,4,5,6] (aS_169 b_5_1 b_7_1 b_9_1)
  ·refine zX .w (sN fun b_11_1=>(sV ?_))
   exact zW [27,23,21,3,4,16,17,18,24] [0,1,2,3,4,5,6] (aS_170 b_5_1 b_7_1 b_11_1)
 have aS_178:∀(b_5_1:Nat) (b_9_1:Nat),Lz Tryz.prog Tryz.f26 B26 35 F (RetR F (Ylaw17_begun c)) (regOps B26 [0,1,1,1,1]) [.c [1,1,1,1,1]] (mk 16 [0,1,2,4,5,6,8,9,10]) [0,1,2,6,10] [(25,vP b_9_1),(21,vP b_5_1),(3,vP b_3),(4,vP ba_4),(16,cfgV c),(17,vP ba_4),(18,cfgV c),(22,zK),(26,zK)] [.pts b_1 [vI q0,vI q1,vI q2] 22,Efdc04 b_3 c,E3504b ba_4 (mkAr c aw_5 cw_6),E35fb1 (mkAr c aw_5 cw_6),E0b46c b_5_1 0,E0b46c b_9_1 0]:=by
  intro b_5_1 b_9_1
  refine zN [] [(0,.e 1),(1,.w),(2,.e 1),(6,.w),(10,.w)] [25,21,3,4,16,17,18,22,26] [3,7,11] (.e b_3 (.e b_3 .n)) ⟨?_, ?_, ?_,trivial⟩
  ·refine zC (some 19) [] Tryz.call68 (ref_MakeX c hc) ?_
   rintro v post ⟨ra_3_1,aw_3_1,cw_3_1,rfl,rfl⟩
   exact zW [25,21,19,3,4,16,17,22,26] [0,1,2,3,6,7,4,5] (aS_164 ra_3_1 aw_3_1 cw_3_1 b_5_1 b_9_1)
  ·refine zX .w (sN fun b_7_1=>(sV ?_))
   exact zW [25,23,21,3,4,16,17,18,26] [0,1,2,3,4,6,5] (aS_169 b_5_1 b_7_1 b_9_1)
  ·refine zX .w (sN fun b_11_1=>(sV ?_))
   exact zW [27,25,21,3,4,16,17,18,22] [0,1,2,3,4,5,6] (aS_171 b_5_1 b_9_1 b_11_1)
 have aS_179:∀(b_5_1:Nat) (b_11_1:Nat),Lz Tryz.prog Tryz.f26 B26 35 F (RetR F (Ylaw17_begun c)) (regOps B26 [0,1,1,1,1]) [.c [1,1,1,1,1]] (mk 16 [0,1,2,4,5,6,8,10,11]) [0,1,2,6,8] [(27,vP b_11_1),(21,vP b_5_1),(3,vP b_3),(4,vP ba_4),(16,cfgV c),(17,vP ba_4),(18,cfgV c),(22,zK),(24,zK)] [.pts b_1 [vI q0,vI q1,vI q2] 22,Efdc04 b_3 c,E3504b ba_4 (mkAr c aw_5 cw_6),E35fb1 (mkAr c aw_5 cw_6),E0b46c b_5_1 0,E0b46c b_11_1 0]:=by
  intro b_5_1 b_11_1
  refine zN [] [(0,.e 1),(1,.w),(2,.e 1),(6,.w),(8,.w)] [27,21,3,4,16,17,18,22,24] [3,7,9] (.e b_3 (.e b_3 .n)) ⟨?_, ?_, ?_,trivial⟩
  ·refine zC (some 19) [] Tryz.call68 (ref_MakeX c hc) ?_
   rintro v post ⟨ra_3_1,aw_3_1,cw_3_1,rfl,rfl⟩
   exact zW [27,21,19,3,4,16,17,22,24] [0,1,2,3,6,7,4,5] (aS_165 ra_3_1 aw_3_1 cw_3_1 b_5_1 b_11_1)
  ·refine zX .w (sN fun b_7_1=>(sV ?_))
   exact zW [27,23,21,3,4,16,17,18,24] [0,1,2,3,4,6,5] (aS_170 b_5_1 b_7_1 b_11_1)
  ·refine zX .w (sN fun b_9_1=>(sV ?_))
   exact zW [27,25,21,3,4,16,17,18,22] [0,1,2,3,4,6,5] (aS_171 b_5_1 b_9_1 b_11_1)
 have aS_180:∀(b_7_1:Nat) (b_9_1:Nat),Lz Tryz.prog Tryz.f26 B26 35 F (RetR F (Ylaw17_begun c)) (regOps B26 [0,1,1,1,1]) [.c [1,1,1,1,1]] (mk 16 [0,1,2,4,6,7,8,9,10]) [0,1,2,4,10] [(25,vP b_9_1),(23,vP b_7_1),(3,vP b_3),(4,vP ba_4),(16,cfgV c),(17,vP ba_4),(18,cfgV c),(20,zK),(26,zK)] [.pts b_1 [vI q0,vI q1,vI q2] 22,Efdc04 b_3 c,E3504b ba_4 (mkAr c aw_5 cw_6),E35fb1 (mkAr c aw_5 cw_6),E0b46c b_7_1 0,E0b46c b_9_1 0]:=by
  intro b_7_1 b_9_1
  refine zN [] [(0,.e 1),(1,.w),(2,.e 1),(4,.w),(10,.w)] [25,23,3,4,16,17,18,20,26] [3,5,11] (.e b_3 (.e b_3 .n)) ⟨?_, ?_, ?_,trivial⟩
  ·refine zC (some 19) [] Tryz.call68 (ref_MakeX c hc) ?_
   rintro v post ⟨ra_3_1,aw_3_1,cw_3_1,rfl,rfl⟩
   exact zW [25,23,19,3,4,16,17,20,26] [0,1,2,3,6,7,4,5] (aS_166 ra_3_1 aw_3_1 cw_3_1 b_7_1 b_9_1)
  ·refine zX .w (sN fun b_5_1=>(sV ?_))
   exact zW [25,23,21,3,4,16,17,18,26] [0,1,2,3,6,4,5] (aS_169 b_5_1 b_7_1 b_9_1)
  ·refine zX .w (sN fun b_11_1=>(sV ?_))
   exact zW [27,25,23,3,4,16,17,18,20] [0,1,2,3,4,5,6] (aS_172 b_7_1 b_9_1 b_11_1)
 have aS_181:∀(b_7_1:Nat) (b_11_1:Nat),Lz Tryz.prog Tryz.f26 B26 35 F (RetR F (Ylaw17_begun c)) (regOps B26 [0,1,1,1,1]) [.c [1,1,1,1,1]] (mk 16 [0,1,2,4,6,7,8,10,11]) [0,1,2,4,8] [(27,vP b_11_1),(23,vP b_7_1),(3,vP b_3),(4,vP ba_4),(16,cfgV c),(17,vP ba_4),(18,cfgV c),(20,zK),(24,zK)] [.pts b_1 [vI q0,vI q1,vI q2] 22,Efdc04 b_3 c,E3504b ba_4 (mkAr c aw_5 cw_6),E35fb1 (mkAr c aw_5 cw_6),E0b46c b_7_1 0,E0b46c b_11_1 0]:=by
  intro b_7_1 b_11_1
  refine zN [] [(0,.e 1),(1,.w),(2,.e 1),(4,.w),(8,.w)] [27,23,3,4,16,17,18,20,24] [3,5,9] (.e b_3 (.e b_3 .n)) ⟨?_, ?_, ?_,trivial⟩
  ·refine zC (some 19) [] Tryz.call68 (ref_MakeX c hc) ?_
   rintro v post ⟨ra_3_1,aw_3_1,cw_3_1,rfl,rfl⟩
   exact zW [27,23,19,3,4,16,17,20,24] [0,1,2,3,6,7,4,5] (aS_167 ra_3_1 aw_3_1 cw_3_1 b_7_1 b_11_1)
  ·refine zX .w (sN fun b_5_1=>(sV ?_))
   exact zW [27,23,21,3,4,16,17,18,24] [0,1,2,3,6,4,5] (aS_170 b_5_1 b_7_1 b_11_1)
  ·refine zX .w (sN fun b_9_1=>(sV ?_))
   exact zW [27,25,23,3,4,16,17,18,20] [0,1,2,3,4,6,5] (aS_172 b_7_1 b_9_1 b_11_1)
 have aS_182:∀(b_9_1:Nat) (b_11_1:Nat),Lz Tryz.prog Tryz.f26 B26 35 F (RetR F (Ylaw17_begun c)) (regOps B26 [0,1,1,1,1]) [.c [1,1,1,1,1]] (mk 16 [0,1,2,4,6,8,9,10,11]) [0,1,2,4,6] [(27,vP b_11_1),(25,vP b_9_1),(3,vP b_3),(4,vP ba_4),(16,cfgV c),(17,vP ba_4),(18,cfgV c),(20,zK),(22,zK)] [.pts b_1 [vI q0,vI q1,vI q2] 22,Efdc04 b_3 c,E3504b ba_4 (mkAr c aw_5 cw_6),E35fb1 (mkAr c aw_5 cw_6),E0b46c b_9_1 0,E0b46c b_11_1 0]:=by
  intro b_9_1 b_11_1
  refine zN [] [(0,.e 1),(1,.w),(2,.e 1),(4,.w),(6,.w)] [27,25,3,4,16,17,18,20,22] [3,5,7] (.e b_3 (.e b_3 .n)) ⟨?_, ?_, ?_,trivial⟩
  ·refine zC (some 19) [] Tryz.call68 (ref_MakeX c hc) ?_
   rintro v post ⟨ra_3_1,aw_3_1,cw_3_1,rfl,rfl⟩
   exact zW [27,25,19,3,4,16,17,20,22] [0,1,2,3,6,7,4,5] (aS_168 ra_3_1 aw_3_1 cw_3_1 b_9_1 b_11_1)
  ·refine zX .w (sN fun b_5_1=>(sV ?_))
   exact zW [27,25,21,3,4,16,17,18,22] [0,1,2,3,6,4,5] (aS_171 b_5_1 b_9_1 b_11_1)
  ·refine zX .w (sN fun b_7_1=>(sV ?_))
   exact zW [27,25,23,3,4,16,17,18,20] [0,1,2,3,6,4,5] (aS_172 b_7_1 b_9_1 b_11_1)
 have aS_183:∀(ra_3_1:Nat) (aw_3_1:Option Addr) (cw_3_1:Nat),Lz Tryz.prog Tryz.f26 B26 35 F (RetR F (Ylaw17_begun c)) (regOps B26 [0,1,1,1,1]) [.c [1,1,1,1,1]] (mk 16 [0,1,2,3,4,6,8,10]) [0,1,4,6,8,10] [(19,vP ra_3_1),(3,vP b_3),(4,vP ba_4),(16,cfgV c),(17,vP ba_4),(20,zK),(22,zK),(24,zK),(26,zK)] [.pts b_1 [vI q0,vI q1,vI q2] 22,Efdc04 b_3 c,E3504b ba_4 (mkAr c aw_5 cw_6),E35fb1 (mkAr c aw_5 cw_6),E99bbc ra_3_1 (rmAr c (rpackW c) aw_3_1 cw_3_1) false 0,E35fb1 (rmAr c (rpackW c) aw_3_1 cw_3_1)]:=by
  intro ra_3_1 aw_3_1 cw_3_1
  refine zN [] [(0,.e 1),(1,.w),(4,.w),(6,.w),(8,.w),(10,.w)] [19,3,4,16,17,20,22,24,26] [5,7,9,11] (.e b_3 .n) ⟨?_, ?_, ?_, ?_,trivial⟩
  ·refine zX .w (sN fun b_5_1=>(sV ?_))
   exact zW [21,19,3,4,16,17,22,24,26] [0,1,2,3,4,5,6] (aS_173 ra_3_1 aw_3_1 cw_3_1 b_5_1)
  ·refine zX .w (sN fun b_7_1=>(sV ?_))
   exact zW [23,19,3,4,16,17,20,24,26] [0,1,2,3,4,5,6] (aS_174 ra_3_1 aw_3_1 cw_3_1 b_7_1)
  ·refine zX .w (sN fun b_9_1=>(sV ?_))
   exact zW [25,19,3,4,16,17,20,22,26] [0,1,2,3,4,5,6] (aS_175 ra_3_1 aw_3_1 cw_3_1 b_9_1)
  ·refine zX .w (sN fun b_11_1=>(sV ?_))
   exact zW [27,19,3,4,16,17,20,22,24] [0,1,2,3,4,5,6] (aS_176 ra_3_1 aw_3_1 cw_3_1 b_11_1)
 have aS_184:∀(b_5_1:Nat),Lz Tryz.prog Tryz.f26 B26 35 F (RetR F (Ylaw17_begun c)) (regOps B26 [0,1,1,1,1]) [.c [1,1,1,1,1]] (mk 16 [0,1,2,4,5,6,8,10]) [0,1,2,6,8,10] [(21,vP b_5_1),(3,vP b_3),(4,vP ba_4),(16,cfgV c),(17,vP ba_4),(18,cfgV c),(22,zK),(24,zK),(26,zK)] [.pts b_1 [vI q0,vI q1,vI q2] 22,Efdc04 b_3 c,E3504b ba_4 (mkAr c aw_5 cw_6),E35fb1 (mkAr c aw_5 cw_6),E0b46c b_5_1 0]:=by
  intro b_5_1
  refine zN [] [(0,.e 1),(1,.w),(2,.e 1),(6,.w),(8,.w),(10,.w)] [21,3,4,16,17,18,22,24,26] [3,7,9,11] (.e b_3 (.e b_3 .n)) ⟨?_, ?_, ?_, ?_,trivial⟩
  ·refine zC (some 19) [] Tryz.call68 (ref_MakeX c hc) ?_
   rintro v post ⟨ra_3_1,aw_3_1,cw_3_1,rfl,rfl⟩
   exact zW [21,19,3,4,16,17,22,24,26] [0,1,2,3,5,6,4] (aS_173 ra_3_1 aw_3_1 cw_3_1 b_5_1)
  ·refine zX .w (sN fun b_7_1=>(sV ?_))
   exact zW [23,21,3,4,16,17,18,24,26] [0,1,2,3,4,5] (aS_177 b_5_1 b_7_1)
  ·refine zX .w (sN fun b_9_1=>(sV ?_))
   exact zW [25,21,3,4,16,17,18,22,26] [0,1,2,3,4,5] (aS_178 b_5_1 b_9_1)
  ·refine zX .w (sN fun b_11_1=>(sV ?_))
   exact zW [27,21,3,4,16,17,18,22,24] [0,1,2,3,4,5] (aS_179 b_5_1 b_11_1)
 have aS_185:∀(b_7_1:Nat),Lz Tryz.prog Tryz.f26 B26 35 F (RetR F (Ylaw17_begun c)) (regOps B26 [0,1,1,1,1]) [.c [1,1,1,1,1]] (mk 16 [0,1,2,4,6,7,8,10]) [0,1,2,4,8,10] [(23,vP b_7_1),(3,vP b_3),(4,vP ba_4),(16,cfgV c),(17,vP ba_4),(18,cfgV c),(20,zK),(24,zK),(26,zK)] [.pts b_1 [vI q0,vI q1,vI q2] 22,Efdc04 b_3 c,E3504b ba_4 (mkAr c aw_5 cw_6),E35fb1 (mkAr c aw_5 cw_6),E0b46c b_7_1 0]:=by
  intro b_7_1
  refine zN [] [(0,.e 1),(1,.w),(2,.e 1),(4,.w),(8,.w),(10,.w)] [23,3,4,16,17,18,20,24,26] [3,5,9,11] (.e b_3 (.e b_3 .n)) ⟨?_, ?_, ?_, ?_,trivial⟩
  ·refine zC (some 19) [] Tryz.call68 (ref_MakeX c hc) ?_
   rintro v post ⟨ra_3_1,aw_3_1,cw_3_1,rfl,rfl⟩
   exact zW [23,19,3,4,16,17,20,24,26] [0,1,2,3,5,6,4] (aS_174 ra_3_1 aw_3_1 cw_3_1 b_7_1)
  ·refine zX .w (sN fun b_5_1=>(sV ?_))
   exact zW [23,21,3,4,16,17,18,24,26] [0,1,2,3,5,4] (aS_177 b_5_1 b_7_1)
  ·refine zX .w (sN fun b_9_1=>(sV ?_))
   exact zW [25,23,3,4,16,17,18,20,26] [0,1,2,3,4,5] (aS_180 b_7_1 b_9_1)
  ·refine zX .w (sN fun b_11_1=>(sV ?_))
   exact zW [27,23,3,4,16,17,18,20,24] [0,1,2,3,4,5] (aS_181 b_7_1 b_11_1)
 have aS_186:∀(b_9_1:Nat),Lz Tryz.prog Tryz.f26 B26 35 F (RetR F (Ylaw17_begun c)) (regOps B26 [0,1,1,1,1]) [.c [1,1,1,1,1]] (mk 16 [0,1,2,4,6,8,9,10]) [0,1,2,4,6,10] [(25,vP b_9_1),(3,vP b_3),(4,vP ba_4),(16,cfgV c),(17,vP ba_4),(18,cfgV c),(20,zK),(22,zK),(26,zK)] [.pts b_1 [vI q0,vI q1,vI q2] 22,Efdc04 b_3 c,E3504b ba_4 (mkAr c aw_5 cw_6),E35fb1 (mkAr c aw_5 cw_6),E0b46c b_9_1 0]:=by
  intro b_9_1
  refine zN [] [(0,.e 1),(1,.w),(2,.e 1),(4,.w),(6,.w),(10,.w)] [25,3,4,16,17,18,20,22,26] [3,5,7,11] (.e b_3 (.e b_3 .n)) ⟨?_, ?_, ?_, ?_,trivial⟩
  ·refine zC (some 19) [] Tryz.call68 (ref_MakeX c hc) ?_
   rintro v post ⟨ra_3_1,aw_3_1,cw_3_1,rfl,rfl⟩
   exact zW [25,19,3,4,16,17,20,22,26] [0,1,2,3,5,6,4] (aS_175 ra_3_1 aw_3_1 cw_3_1 b_9_1)
  ·refine zX .w (sN fun b_5_1=>(sV ?_))
   exact zW [25,21,3,4,16,17,18,22,26] [0,1,2,3,5,4] (aS_178 b_5_1 b_9_1)
  ·refine zX .w (sN fun b_7_1=>(sV ?_))
   exact zW [25,23,3,4,16,17,18,20,26] [0,1,2,3,5,4] (aS_180 b_7_1 b_9_1)
  ·refine zX .w (sN fun b_11_1=>(sV ?_))
   exact zW [27,25,3,4,16,17,18,20,22] [0,1,2,3,4,5] (aS_182 b_9_1 b_11_1)
 have aS_187:∀(b_11_1:Nat),Lz Tryz.prog Tryz.f26 B26 35 F (RetR F (Ylaw17_begun c)) (regOps B26 [0,1,1,1,1]) [.c [1,1,1,1,1]] (mk 16 [0,1,2,4,6,8,10,11]) [0,1,2,4,6,8] [(27,vP b_11_1),(3,vP b_3),(4,vP ba_4),(16,cfgV c),(17,vP ba_4),(18,cfgV c),(20,zK),(22,zK),(24,zK)] [.pts b_1 [vI q0,vI q1,vI q2] 22,Efdc04 b_3 c,E3504b ba_4 (mkAr c aw_5 cw_6),E35fb1 (mkAr c aw_5 cw_6),E0b46c b_11_1 0]:=by
  intro b_11_1
  refine zN [] [(0,.e 1),(1,.w),(2,.e 1),(4,.w),(6,.w),(8,.w)] [27,3,4,16,17,18,20,22,24] [3,5,7,9] (.e b_3 (.e b_3 .n)) ⟨?_, ?_, ?_, ?_,trivial⟩
  ·refine zC (some 19) [] Tryz.call68 (ref_MakeX c hc) ?_
   rintro v post ⟨ra_3_1,aw_3_1,cw_3_1,rfl,rfl⟩
   exact zW [27,19,3,4,16,17,20,22,24] [0,1,2,3,5,6,4] (aS_176 ra_3_1 aw_3_1 cw_3_1 b_11_1)
  ·refine zX .w (sN fun b_5_1=>(sV ?_))
   exact zW [27,21,3,4,16,17,18,22,24] [0,1,2,3,5,4] (aS_179 b_5_1 b_11_1)
  ·refine zX .w (sN fun b_7_1=>(sV ?_))
   exact zW [27,23,3,4,16,17,18,20,24] [0,1,2,3,5,4] (aS_181 b_7_1 b_11_1)
  ·refine zX .w (sN fun b_9_1=>(sV ?_))
   exact zW [27,25,3,4,16,17,18,20,22] [0,1,2,3,5,4] (aS_182 b_9_1 b_11_1)
 refine zN [0,1,2,4,6,8,10] [(0,.e 1),(1,.w),(2,.e 1),(4,.w),(6,.w),(8,.w),(10,.w)] [3,4,16,17,18,20,22,24,26] [3,5,7,9,11] (.e b_3 (.e b_3 .n)) ⟨?_, ?_, ?_, ?_, ?_,trivial⟩
 ·refine zC (some 19) [] Tryz.call68 (ref_MakeX c hc) ?_
  rintro v post ⟨ra_3_1,aw_3_1,cw_3_1,rfl,rfl⟩
  exact zW [19,3,4,16,17,20,22,24,26] [0,1,2,3,4,5] (aS_183 ra_3_1 aw_3_1 cw_3_1)
 ·refine zX .w (sN fun b_5_1=>(sV ?_))
  exact zW [21,3,4,16,17,18,22,24,26] [0,1,2,3,4] (aS_184 b_5_1)
 ·refine zX .w (sN fun b_7_1=>(sV ?_))
  exact zW [23,3,4,16,17,18,20,24,26] [0,1,2,3,4] (aS_185 b_7_1)
 ·refine zX .w (sN fun b_9_1=>(sV ?_))
  exact zW [25,3,4,16,17,18,20,22,26] [0,1,2,3,4] (aS_186 b_9_1)
 ·refine zX .w (sN fun b_11_1=>(sV ?_))
  exact zW [27,3,4,16,17,18,20,22,24] [0,1,2,3,4] (aS_187 b_11_1)
end Go.Proofs.YtpcaijopodhdgaaGreatDoor
namespace Go.Proofs.YtpcaijopodhdgaaGreatDoor
open Go.Sx
theorem W_who(c:Cfg)(x ba rb:Nat)(ka ma:Option Addr)(kc mc:Nat)(ps:List Nat)(W:Wd)(B:Ar)(wh n_:Int)(hc:c.Ok)(hZ:∃k,Sy c W B k∧k≤90000)(hps:ps.length=4):
  Ctr Tryz.prog 27 #[vP x,.agg #[vI wh,vI n_]] [Ed2706 x c (vP ba) (vP rb) ka ps.length kc ma W.many.length mc W.now,.sl ka kc encP 0 1 ps 68,E3504b ba W.A,E35fb1 W.A,E99bbc rb B false 0,E35fb1 B,.res (KsR ps W.ks c)] (Ret (vI (W.at_ c wh n_)) [Ed2706 x c (vP ba) (vP rb) ka ps.length kc ma ((W.who c wh n_).many.length) mc ((W.who c wh n_).now),.sl ka kc encP 0 1 ps 68,E3504b ba ((W.who c wh n_).A),E35fb1 ((W.who c wh n_).A),E99bbc rb (W.whoB c B wh n_) false 0,E35fb1 (W.whoB c B wh n_),.res (KsR ps ((W.who c wh n_).ks) c)]):=by
 obtain⟨k,hZ,hk⟩:=hZ
 have h0:=hZ.k0
 have h1:=hZ.bs
 have h2:=hZ.arw.2.2.2
 have hg:(W.ks.getD 0 dK).ret.length≤24:=(hZ.good hc (i:=0) (by omega)).2
 have h:=w_who c x ba rb W.now ka ma kc mc ps W.many W.A B wh n_ W.ks hc hZ.bl hZ.bz hZ.arw.1 hZ.arw.2.1 (by omega) (by omega) (by rw [hZ.word]; exact hZ.arw.2.2.1 _) hps hZ.len (by omega)
 rw [hZ.word] at h
 exact h
theorem W_begin(c:Cfg)(x ba rb:Nat)(ka ma:Option Addr)(kc mc:Nat)(ps:List Nat)(W:Wd)(B:Ar)(i n_:Int)(hc:C17 c)(hZ:∃k,Sy c W B k∧k≤1900)(hi:0≤i∧i<4)(hps:ps.length=4):
  Ctr Tryz.prog 28 #[vP x,vI i,vI n_] [Ed2706 x c (vP ba) (vP rb) ka ps.length kc ma W.many.length mc W.now,.sl ka kc encP 0 1 ps 68,Ee1326 ma mc W.many,E99bbc rb B false 0,E35fb1 B,.res (KsR ps W.ks c)] (fun v L => ∃(ma2:Option Addr) (mc2:Nat),v=undef∧L=[Ed2706 x c (vP ba) (vP rb) ka ps.length kc ma2 ((W.begin c i n_).many.length) mc2 ((W.begin c i n_).now),.sl ka kc encP 0 1 ps 68,Ee1326 ma2 mc2 ((W.begin c i n_).many),E99bbc rb B false 0,E35fb1 B,.res (KsR ps ((W.begin c i n_).ks) c)]):=by
 obtain⟨k,hZ,hk⟩:=hZ
 have h0:=hZ.k0
 have hm:=hZ.many
 have hg:=hZ.good hc.ok hi
 have h:=w_begin c x ba rb W.now ka ma kc mc ps W.many B i n_ W.ks hi hps hc.ok hZ.bl hZ.bz (by rw [hZ.word]; exact hZ.arw.2.2.1 _) (by omega) ⟨hc.cl,hc.s0,hc.s1⟩ hZ.len ⟨hg.1,by have:(W.ks.getD i.toNat dK).ret.length≤24:=hg.2; omega⟩
 rw [hZ.word] at h
 exact h
theorem W_step(o_:Obj)(c:Cfg)(x ba rb:Nat)(ka ma:Option Addr)(kc mc:Nat)(ps:List Nat)(W:Wd)(i:Int)(ho:IsH o_)(hc:c.Ok)(hO:∃l k,Own c W l k∧k≤90000)(hi:0≤i∧i<4)(hps:ps.length=4):
  Ctr Tryz.prog 29 #[vP x,vI i] [.raw 0 o_,Ed2706 x c (vP ba) (vP rb) ka ps.length kc ma W.many.length mc W.now,.sl ka kc encP 0 1 ps 68,E3504b ba W.A,E35fb1 W.A,.res (KsR ps W.ks c)] (fun v L => ∃(a2:Option Addr) (c2:Nat),v = .tuple #[.slice a2 ((W.told c i).l.length) c2,vI ((W.told c i).e),.bool ((W.told c i).done)]∧L=[.raw 0 o_,Ed2706 x c (vP ba) (vP rb) ka ps.length kc ma ((W.step c i).many.length) mc ((W.step c i).now),.sl ka kc encP 0 1 ps 68,E3504b ba ((W.step c i).A),E35fb1 ((W.step c i).A),.res (KsR ps ((W.step c i).ks) c),E54ea0 a2 c2 ((W.told c i).l)]):=by
 obtain⟨l,k,hO,hk⟩:=hO
 have hs:=hO.arw.2.2.2
 exact w_step o_ c x ba rb W.now ka ma kc mc ps W.many W.A i W.ks ho hc hO.arw.1 (by omega) hO.arw.2.1 hO.arw.2.2.1 hi hps hO.len (hO.kok hc hi)
end Go.Proofs.YtpcaijopodhdgaaGreatDoor
namespace Go.Proofs.YtpcaijopodhdgaaGreatDoor
open Go.Sx
abbrev E9fe06(x0:Nat)(x1:Option Addr)(x2:Nat)(x3:Nat)(a4:Ar)(x5:Bool)(x6:Int): Ent:=.pts x0 [.slice x1 x2 x3,.int .i64 a4.steps,.int .i64 a4.lk,.int .i64 a4.lw,.int .u64 a4.lv,.bool a4.lc,.bool x5,.int .i64 x6] 67
abbrev q94_0: List Nat:=[0,1,0,1,1,1,1]
abbrev q94_1: List Nat:=[0,0,0,0,1,0,1,1,1,1]
abbrev q94_2: List Nat:=[0,0,1,1,1,1,1]
abbrev q94_3: List Nat:=[1,0,1,1,1,1,1]
abbrev q94_4: List Nat:=[0,1,0,1,1,1,1,1]
abbrev q94_5: List Nat:=[0,1,0,0,1,0,0,1,0,1,1,1,1,1]
abbrev q94_6: List Nat:=[0,1,0,1,1,1,1,1,1]
abbrev q94_7: List Nat:=[1,1,0,0,1,0,0,1,0,1,1,1,1,1]
abbrev q94_8: List Nat:=[1,1,0,0,1,0,1,1,1,1,1]
abbrev q94_9: List Nat:=[0,1,1,0,0,1,0,0,1,0,1,1,1,1,1]
abbrev q94_10: List Nat:=[1,1,1,1,1,1,1]
abbrev q94_11: List Nat:=[0,0,1,0,0,1,0,0,1,0,1,1,1,1,1,1]
abbrev q94_12: List Nat:=[0,1,1,1,1,1,1,1]
abbrev q94_13: List Nat:=[1,0,1,0,0,1,0,0,1,0,1,1,1,1,1,1]
abbrev q94_14: List Nat:=[1,1,0,0,1,0,0,1,0,1,1,1,1,1,1]
abbrev q94_15: List Nat:=[1,1,0,0,1,0,1,1,1,1,1,1]
abbrev q94_16: List Nat:=[0,1,1,0,0,1,0,0,1,0,1,1,1,1,1,1]
abbrev q94_17: List Nat:=[1,1,1,0,0,1,0,0,1,0,1,1,1,1,1,1]
abbrev q94_18: List Nat:=[0,1,0,1,0,0,1,0,0,1,0,1,1,1,1,1,1]
abbrev q94_19: List Nat:=[0,1,1,1,0,0,1,0,0,1,0,1,1,1,1,1,1]
abbrev q94_20: List Nat:=[0,1,1,1,1,1,1,1,1]
abbrev q94_21: List Nat:=[1,1,1,1,1,1,1,1,1]
abbrev q94_22: List Nat:=[0,1,1,1,1,1,1,1,1,1]
abbrev q94_23: List Nat:=[1,1,1,1,1,1,1,1,1,1]
abbrev q94_24: List Nat:=[0,1,1,1,1,1,1,1,1,1,1]
abbrev q94_25: List Nat:=[0,0,1,1,1,1,1,1,1,1,1,1,1]
abbrev q94_26: List Nat:=[0,1,1,1,1,1,1,1,1,1,1,1,1]
abbrev q94_27: List Nat:=[1,1,1,1,1,1,1,1,1,1,1,1,1]
abbrev q94_28: List Nat:=[0,1,0,1,1,1,1,1,1,1,1,1,1,1,1,1]
abbrev q94_29: List Nat:=[1,1,1,1,1,1,1,1,1,1,1,1,1,1]
abbrev q94_30: List Nat:=[0,0,1,0,0,1,0,1,1,1,1,1,1,1,1,1,1,1,1,1]
abbrev q94_31: List Nat:=[0,1,1,1,1,1,1,1,1,1,1,1,1,1,1]
abbrev q94_32: List Nat:=[1,1,1,1,1,1,1,1,1,1,1,1,1,1,1]
abbrev q94_33: List Nat:=[0,0,1,1,1,1,1,1,1,1,1,1,1,1,1,1,1]
abbrev q94_34: List Nat:=[0,0,1,0,1,1,1,1,1,1,1,1,1,1,1,1,1,1,1,1]
abbrev q94_35: List Nat:=[0,0,1,1,1,1,1,1,1,1,1,1,1,1,1,1,1,1,1]
abbrev q94_36: List Nat:=[0,1,0,1,1,1,1,1,1,1,1,1,1,1,1,1,1,1,1,1,1]
abbrev q94_37: List Nat:=[1,1,1,1,1,1,1,1,1,1,1,1,1,1,1,1,1,1,1]
abbrev q94_38: List Nat:=[0,0,0,0,1,0,1,1,1,1,1,1,1,1,1,1,1,1,1,1,1,1,1,1]
abbrev q94_39: List Nat:=[0,0,0,1,0,0,1,0,1,1,1,1,1,1,1,1,1,1,1,1,1,1,1,1,1,1]
abbrev q94_40: List Nat:=[0,0,0,1,0,0,1,0,1,1,1,1]
abbrev q94_41: List Nat:=[1,1,0,0,1,0,1,1,1,1]
abbrev q94_42: List Nat:=[0,1,0,0,1,0,0,1,0,1,1,1,1]
abbrev q94_43: List Nat:=[0,0,1,1,0,0,1,0,0,1,0,1,1,1,1]
abbrev q94_44: List Nat:=[1,0,1,1,0,0,1,0,0,1,0,1,1,1,1]
abbrev q94_45: List Nat:=[0,1,0,1,1,0,0,1,0,0,1,0,1,1,1,1]
abbrev q94_46: List Nat:=[1,1,0,1,1,0,0,1,0,0,1,0,1,1,1,1]
theorem new_RdC(c:Cfg)(cl ep:Int)(hc:c.Ok)(hcl:0≤cl∧cl<c.clients):
  Ctr Tryz.prog 13 #[cfgV c,vI cl,vI 0,vI ep] [] (fun v L => ∃(y:Nat),v=vP y∧L=[.res (RdR y c cl 0 ep (newRd cl))]):=by
 refine cP [] (new_Rd c cl 0 ep hc hcl (by have:=ctl0_ok hc; omega)) ?_
 rintro v post ⟨p_1,k_2,b1_3,b2_4,b3_5,b4_6,b5_7,b6_8,rfl,rfl⟩
 exact⟨_,(((view_nil (encI .u64) 0 1 60 (sizedI _)).trans (view_close [1,2,3,4,5,6,7] (N:=[E03c2e k_2 c cl 0 (-1),.pts b1_3 [vP k_2] 118,.pts b2_4 [vP p_1] 24,Efdc04 b3_5 c,.pts b4_6 [vI cl] 3,.pts b5_7 [vI 0] 3,.pts b6_8 [vI ep] 3]) (M:=[E3c71c p_1 (.iface 118 (vP k_2)) (.func (.func 55) #[] #[vP b1_3,vP b2_4,vP b3_5,vP b4_6,vP b5_7,vP b6_8]) 0 false c (-1),E54ea0 none 0 ([]:List Int)]) kR)).trans (view_pack (fun _:RdH=>True) (rdL p_1 c cl 0 ep (newRd cl)) ⟨.nilFunc,.nilFunc,none,0,k_2,b1_3,b2_4,b3_5,b4_6,b5_7,b6_8,0,0,0,0,0,0⟩ (M:=[]) [0,1,2] kR trivial)),p_1,rfl,rfl⟩
noncomputable def B5: Code:=(Tryz.f5.body).getD .skip
set_option maxHeartbeats 4000000 in
theorem law_llast(o_:Obj)(q0 q1 q2:Int)(a:Option Addr)(c0:Nat)(xs:List LAct)(bt:TypeId)(r:Sx.Rest)(ho:IsH o_):
  Ctr Tryz.prog 5 #[.agg #[vI q0,vI q1,vI q2],.slice a xs.length c0] [.raw 0 o_,.rd a c0 encLAct dLAct 2 xs bt r] (Ret (.bool true) [.raw 0 o_,.rd a c0 encLAct dLAct 2 xs bt r]):=by
 refine cB B5 291 Tryz.func5 ?_
 intro F
 obtain⟨c,hq⟩:∃c,c=cfgL q0 q1 q2:=⟨_,rfl⟩
 have hC:C17 c:=by rw [hq]; exact c17 q0 q1 q2
 have hc:=hC.ok
 refine gX [.z [0,1] 0 [1,2]] (gN fun b_1=>gW (ks:=[.o [0,1] 0,.c [1,1]]) [(1,.slice a xs.length c0),(2,vP b_1)] [.raw 0 o_,.rd a c0 encLAct dLAct 2 xs bt r,.pts b_1 [vI q0,vI q1,vI q2] 22] ?_)
 refine gC (some 21) [0] Tryz.call14 (law17_awake o_ ho) ?_
 refine gX [.e 1,.z [0,1,1] 1 [1,5,22]] (gQ b_1 (gS [.o [0,1,1] 1,.c [1,1,1]] ?_))
 refine go_call (some 23) [] Tryz.call26 (law17_begun c q0 q1 q2 hq) kR ?_
 rintro v post ⟨x_2,ba_3,rb_4,ka_5,kc_6,ps_7,aw_8,cw_9,aw2_10,cw2_11,rfl,rfl,hf_12⟩
 refine gX [.z q94_0 0 [1,5,6,7]] (gW (ks:=[.c q94_0,.b 0,.c [1,1,1,1,1]]) [(1,.slice a xs.length c0),(5,.bool true),(6,vP x_2),(7,vI 0)] [.rd a c0 encLAct dLAct 2 xs bt r,.pts b_1 [vI q0,vI q1,vI q2] 22,.raw 0 o_,Ed2706 x_2 c (vP ba_3) (vP rb_4) ka_5 ps_7.length kc_6 none 0 0 0,.sl ka_5 kc_6 encP 0 1 ps_7 68,Ee1326 none 0 ([]:List Int),E3504b ba_3 ((mkAr c aw_8 cw_9).store (ctlAt c 0) (bornW 0)),E35fb1 ((mkAr c aw_8 cw_9).store (ctlAt c 0) (bornW 0)),E99bbc rb_4 ((rmAr c (rpackW c) aw2_10 cw2_11).store (ctlAt c 0) (bornW 0)) false 0,E35fb1 ((rmAr c (rpackW c) aw2_10 cw2_11).store (ctlAt c 0) (bornW 0)),.res (KsR ps_7 four c)] ?_)
 have hps:ps_7.length=4:=hf_12
 have hp00:LnOk c (⟨0,⟨((mkAr c aw_8 cw_9).store (ctlAt c 0) (bornW 0)),four,[],0⟩,((rmAr c (rpackW c) aw2_10 cw2_11).store (ctlAt c 0) (bornW 0)),none,0⟩:Lt):=by rw [hq]; exact ln_first
 refine go_loop (ι := Lt) (fun p=>[(1,.slice a xs.length c0),(5,.bool true),(6,vP x_2),(7,vI p.i)]) (fun p=>[.raw 0 o_,.pts b_1 [vI q0,vI q1,vI q2] 22,Ed2706 x_2 c (vP ba_3) (vP rb_4) ka_5 ps_7.length kc_6 p.ma p.W.many.length p.mc p.W.now,.sl ka_5 kc_6 encP 0 1 ps_7 68,Ee1326 p.ma p.mc p.W.many,E3504b ba_3 p.W.A,E35fb1 p.W.A,E99bbc rb_4 p.B false 0,E35fb1 p.B,.res (KsR ps_7 p.W.ks c),.rd a c0 encLAct dLAct 2 xs bt r]) (fun p=>LnOk c p∧p.i≤200) (fun p=>((xs.length:Int)-p.i).toNat) (⟨0,⟨((mkAr c aw_8 cw_9).store (ctlAt c 0) (bornW 0)),four,[],0⟩,((rmAr c (rpackW c) aw2_10 cw2_11).store (ctlAt c 0) (bornW 0)),none,0⟩:Lt) [1,5,6,7] [2,1,3,4,5,6,7,8,9,10,0] kR kR kR kR ⟨hp00,(by dsimp only; omega)⟩ ?_
 intro p J_13 hIJ_13 hJ_13
 have hpn:=hIJ_13.1
 have hp:=hIJ_13.1.1
 have hpi:=hIJ_13.2
 have hp0:=hp.2
 refine gX [.z q94_1 0 [1,5,6,7]] (gW (ks:=[.o q94_1 0,.c [1,0,0,0,1,0,1,1,1,1],.c [1,0,0,1,0,1,1,1,1],.j J_13,.b 0,.c [1,1,1,1,1]]) [(1,.slice a xs.length c0),(5,.bool true),(6,vP x_2),(7,vI p.i)] [.raw 0 o_,.pts b_1 [vI q0,vI q1,vI q2] 22,Ed2706 x_2 c (vP ba_3) (vP rb_4) ka_5 ps_7.length kc_6 p.ma p.W.many.length p.mc p.W.now,.sl ka_5 kc_6 encP 0 1 ps_7 68,Ee1326 p.ma p.mc p.W.many,E3504b ba_3 p.W.A,E35fb1 p.W.A,E99bbc rb_4 p.B false 0,E35fb1 p.B,.res (KsR ps_7 p.W.ks c),.rd a c0 encLAct dLAct 2 xs bt r] ?_)
 have hj_14:∀u1:Unit,True→Go Tryz.prog Tryz.f5 B5 291 F (RetR F (Ret (.bool true) [.raw 0 o_,.rd a c0 encLAct dLAct 2 xs bt r])) [.o q94_2 0,.c q94_3,.c [1,1,1,1,1,1]] [(5,.bool true),(6,vP x_2)] [.raw 0 o_,.pts b_1 [vI q0,vI q1,vI q2] 22,Ed2706 x_2 c (vP ba_3) (vP rb_4) ka_5 ps_7.length kc_6 p.ma p.W.many.length p.mc p.W.now,.sl ka_5 kc_6 encP 0 1 ps_7 68,Ee1326 p.ma p.mc p.W.many,E3504b ba_3 p.W.A,E35fb1 p.W.A,E99bbc rb_4 p.B false 0,E35fb1 p.B,.res (KsR ps_7 p.W.ks c),.rd a c0 encLAct dLAct 2 xs bt r]:=by
  intro u1 hz
  refine gX [.z q94_4 0 [5,6,9]] (gW (ks:=[.c q94_4,.b 2,.c [1,1,1,1,1,1]]) [(5,.bool true),(6,vP x_2),(9,vI 0)] [.raw 0 o_,.pts b_1 [vI q0,vI q1,vI q2] 22,Ed2706 x_2 c (vP ba_3) (vP rb_4) ka_5 ps_7.length kc_6 p.ma p.W.many.length p.mc p.W.now,.sl ka_5 kc_6 encP 0 1 ps_7 68,Ee1326 p.ma p.mc p.W.many,E3504b ba_3 p.W.A,E35fb1 p.W.A,E99bbc rb_4 p.B false 0,E35fb1 p.B,.res (KsR ps_7 p.W.ks c),.rd a c0 encLAct dLAct 2 xs bt r] ?_)
  have hs8:c.slots≤16:=by have h9:=hc; simp only [Cfg.Ok] at h9; omega
  obtain⟨la0,oa0⟩:=hp.1.own
  have hma:=hp.1.many
  refine go_loop (ι := Lt) (fun b=>[(5,.bool true),(6,vP x_2),(9,vI b.i)]) (fun b=>[.raw 0 o_,.pts b_1 [vI q0,vI q1,vI q2] 22,Ed2706 x_2 c (vP ba_3) (vP rb_4) ka_5 ps_7.length kc_6 b.ma b.W.many.length b.mc b.W.now,.sl ka_5 kc_6 encP 0 1 ps_7 68,Ee1326 b.ma b.mc b.W.many,E3504b ba_3 b.W.A,E35fb1 b.W.A,E99bbc rb_4 b.B false 0,E35fb1 b.B,.res (KsR ps_7 b.W.ks c),.rd a c0 encLAct dLAct 2 xs bt r]) (fun b=>LbOk c b∧(b.W.many.length:Int)≤1900) (fun b=>(400-b.i).toNat) (⟨0,p.W,p.B,p.ma,p.mc⟩:Lt) [5,6,9] [0,1,2,3,4,5,6,7,8,9,10] kR kR kR kR ⟨(lb_first hC hs8 oa0 (by omega) hpn.2),(by show(p.W.many.length:Int)≤1900; omega)⟩ ?_
  intro b J_15 hIJ_15 hJ_15
  have hb0:=hIJ_15.1
  have hbm:=hIJ_15.2
  have hbi:=hb0.i0
  obtain⟨lb,ob⟩:=hb0.own
  have hbl:=ob.len
  have hj:3-b.i.tdiv 100=3-b.i / 100:=by rw [Int.tdiv_eq_ediv_of_nonneg (by omega)]
  have hat:0≤3-b.i.tdiv 100∧3-b.i.tdiv 100<4∨b.i=400:=by omega
  refine gX [.sp [67] [.e 2,.n,.n,.s 3,.j 3 ((3-(b.i.tdiv 100)).toNat),.z q94_5 0 [5,6,9,10]] [.z q94_6 0 [5,6,11]]] (gB (decide (b.i<400)) (fun h_16 => ?_) (fun h_16 => ?_))
  ·replace h_16:=decT h_16
   refine gQ x_2 (gO ((100:Int)≠0∧InK .i64 (b.i.tdiv 100)) ⟨by decide,by simp only [InK]; omega⟩ (gO (InK .i64 (3-(b.i.tdiv 100))) (by simp only [InK]; omega) (gO (ka_5=ka_5∧ps_7.length=ps_7.length) ⟨rfl,(by first | rfl | omega | (simp; done) | (simp; omega))⟩ (gO ((0:Int)≤(3-(b.i.tdiv 100))∧(3-(b.i.tdiv 100))<((ps_7.length:Nat):Int)) (by omega) (gQ (slAt ka_5 ((3-(b.i.tdiv 100)).toNat) 1) (gO ((3-(b.i.tdiv 100)).toNat<ps_7.length) (by omega) (gW (ks:=[.o q94_5 0,.c q94_7,.b 3,.c q94_8,.j J_15,.b 2,.c [1,1,1,1,1,1]]) [(5,.bool true),(6,vP x_2),(9,vI b.i),(10,vP (ps_7.getD ((3-(b.i.tdiv 100)).toNat) 0))] [.raw 0 o_,.pts b_1 [vI q0,vI q1,vI q2] 22,Ed2706 x_2 c (vP ba_3) (vP rb_4) ka_5 ps_7.length kc_6 b.ma b.W.many.length b.mc b.W.now,.sl ka_5 kc_6 encP 0 1 ps_7 68,Ee1326 b.ma b.mc b.W.many,E3504b ba_3 b.W.A,E35fb1 b.W.A,E99bbc rb_4 b.B false 0,E35fb1 b.B,.res (KsR ps_7 b.W.ks c),.rd a c0 encLAct dLAct 2 xs bt r] ?_)))))))
   have hj_17:∀u0:Unit,(b.W.k (3-b.i.tdiv 100)).d≠.idle→Go Tryz.prog Tryz.f5 B5 291 F (RetR F (Ret (.bool true) [.raw 0 o_,.rd a c0 encLAct dLAct 2 xs bt r])) [.o q94_9 0,.b 3,.c q94_8,.j J_15,.b 2,.c [1,1,1,1,1,1]] [(5,.bool true),(6,vP x_2),(9,vI b.i)] [.raw 0 o_,.pts b_1 [vI q0,vI q1,vI q2] 22,Ed2706 x_2 c (vP ba_3) (vP rb_4) ka_5 ps_7.length kc_6 b.ma b.W.many.length b.mc b.W.now,.sl ka_5 kc_6 encP 0 1 ps_7 68,Ee1326 b.ma b.mc b.W.many,E3504b ba_3 b.W.A,E35fb1 b.W.A,E99bbc rb_4 b.B false 0,E35fb1 b.B,.res (KsR ps_7 b.W.ks c),.rd a c0 encLAct dLAct 2 xs bt r]:=by
    intro u0 hz
    have hu:=hz
    have hat:0≤3-b.i.tdiv 100∧3-b.i.tdiv 100<4:=by omega
    refine gX [.n,.n,.z q94_9 4 [5,6,9,82,85]] (gO ((100:Int)≠0∧InK .i64 (b.i.tdiv 100)) ⟨by decide,by simp only [InK]; omega⟩ (gO (InK .i64 (3-(b.i.tdiv 100))) (by simp only [InK]; omega) (gS [.o q94_9 4,.b 3,.c q94_8,.j J_15,.b 2,.c [1,1,1,1,1,1]] ?_)))
    refine go_call (some 86) [0,2,3,5,6,9] Tryz.call29 (W_step o_ c x_2 ba_3 rb_4 ka_5 b.ma kc_6 b.mc ps_7 b.W (3-(b.i.tdiv 100)) ho hc (by first | exact⟨_,_,o2,by omega⟩ | exact⟨_,_,ob,by omega⟩ | exact⟨_,_,og,by omega⟩ | exact⟨_,_,oe,by omega⟩) hat hps) kR ?_
    rintro v post ⟨a2_18,c2_19,rfl,rfl⟩
    refine gX [.n,.z [] 0 [5,6,9]] (gO (InK .i64 (b.i+1)) (by simp only [InK]; omega) (gS [.j J_15,.b 2,.c [1,1,1,1,1,1]] ?_))
    exact go_back hJ_15 (⟨b.i+1,(b.W.step c (3-(b.i.tdiv 100))),b.B,b.ma,b.mc⟩:Lt) [5,0,6,7,1,8,9,2,3,10,4] kR kR kR ⟨(lb_step hC hs8 hb0 (by omega) hj hu _ _ _),hbm⟩ (by dsimp only; omega)
   have hat:0≤3-b.i.tdiv 100∧3-b.i.tdiv 100<4:=by omega
   refine go_view (L':=[.raw 0 o_,.pts b_1 [vI q0,vI q1,vI q2] 22,Ed2706 x_2 c (vP ba_3) (vP rb_4) ka_5 ps_7.length kc_6 b.ma b.W.many.length b.mc b.W.now,.sl ka_5 kc_6 encP 0 1 ps_7 68,Ee1326 b.ma b.mc b.W.many,E3504b ba_3 b.W.A,E35fb1 b.W.A,E99bbc rb_4 b.B false 0,E35fb1 b.B,.rd a c0 encLAct dLAct 2 xs bt r,.res (KlR c (ps_7.getD ((3-(b.i.tdiv 100)).toNat) 0) (b.W.ks.getD ((3-(b.i.tdiv 100)).toNat) dK)),.res (KsX ps_7 b.W.ks ((3-(b.i.tdiv 100)).toNat) c)]) (ks_focus 9 ((3-(b.i.tdiv 100)).toNat) (ps:=ps_7) (ks:=b.W.ks) (c:=c) (by omega) (by omega)) ?_
   obtain⟨K,hK⟩:∃K:Kc,b.W.ks.getD ((3-(b.i.tdiv 100)).toNat) dK=K:=⟨_,rfl⟩
   refine go_cast (tm':=[(5,.bool true),(6,vP x_2),(9,vI b.i),(10,vP (ps_7.getD ((3-(b.i.tdiv 100)).toNat) 0))]) (L':=[.raw 0 o_,.pts b_1 [vI q0,vI q1,vI q2] 22,Ed2706 x_2 c (vP ba_3) (vP rb_4) ka_5 ps_7.length kc_6 b.ma b.W.many.length b.mc b.W.now,.sl ka_5 kc_6 encP 0 1 ps_7 68,Ee1326 b.ma b.mc b.W.many,E3504b ba_3 b.W.A,E35fb1 b.W.A,E99bbc rb_4 b.B false 0,E35fb1 b.B,.rd a c0 encLAct dLAct 2 xs bt r,.res (KlR c (ps_7.getD ((3-(b.i.tdiv 100)).toNat) 0) K),.res (KsX ps_7 b.W.ks ((3-(b.i.tdiv 100)).toNat) c)]) (by rw [hK]) ?_
   refine oG (I:=fun _:KlH=>True) (LL:=klL c (ps_7.getD ((3-(b.i.tdiv 100)).toNat) 0) K) 10 ?_
   rintro⟨pv20,sv20,rv20,ra20,rc20,y20⟩ -
   obtain⟨d20,ret20,id20⟩:=K
   cases d20 with
   | idle=>
    refine go_weak (tm':=[(5,.bool true),(6,vP x_2),(9,vI b.i),(10,vP (ps_7.getD ((3-(b.i.tdiv 100)).toNat) 0))]) (L':=[.raw 0 o_,.pts b_1 [vI q0,vI q1,vI q2] 22,Ed2706 x_2 c (vP ba_3) (vP rb_4) ka_5 ps_7.length kc_6 b.ma b.W.many.length b.mc b.W.now,.sl ka_5 kc_6 encP 0 1 ps_7 68,Ee1326 b.ma b.mc b.W.many,E3504b ba_3 b.W.A,E35fb1 b.W.A,E99bbc rb_4 b.B false 0,E35fb1 b.B,.rd a c0 encLAct dLAct 2 xs bt r,.res (KsX ps_7 b.W.ks ((3-(b.i.tdiv 100)).toNat) c),E4463d (ps_7.getD ((3-(b.i.tdiv 100)).toNat) 0) pv20 sv20 rv20 ra20 ret20.length rc20 id20,Ee1326 ra20 rc20 ret20]) [5,6,9,10] [0,1,2,3,4,5,6,7,8,9,10,11,12] kR ?_
    have hKk:b.W.k (3-b.i.tdiv 100)=⟨.idle,ret20,id20⟩:=hK
    refine gX [.z q94_5 1 [5,6,9,79]] (gS [.o q94_5 1,.c q94_7,.b 3,.c q94_8,.j J_15,.b 2,.c [1,1,1,1,1,1]] ?_)
    refine gC (some 80) [11] Tryz.call32 (k_idleI (ps_7.getD ((3-(b.i.tdiv 100)).toNat) 0) pv20 sv20 rv20 ra20 rc20 ret20.length id20) ?_
    refine gX [.n,.z [] 0 [5,6,9]] (gO (InK .i64 (b.i+1)) (by simp only [InK]; omega) (gS [.j J_15,.b 2,.c [1,1,1,1,1,1]] ?_))
    refine go_view (vK (fun _:KlH=>True) (klL c (ps_7.getD ((3-(b.i.tdiv 100)).toNat) 0) ⟨.idle,ret20,id20⟩) ⟨pv20,sv20,rv20,ra20,rc20,y20⟩ [12,11] trivial) ?_
    refine go_view (ks_back (ps:=ps_7) (ks:=b.W.ks) (c:=c) 11 10 ((3-(b.i.tdiv 100)).toNat) ⟨.idle,ret20,id20⟩ hK (by omega) (by omega)) ?_
    exact go_back hJ_15 (⟨b.i+1,b.W,b.B,b.ma,b.mc⟩:Lt) [0,1,2,3,4,5,6,7,8,10,9] kR kR kR ⟨(lb_skip hC hs8 hb0 (by omega) hj (by rw [hKk]) _ _ _),hbm⟩ (by dsimp only; omega)
   | pub ep20 ws20 S20=>
    refine go_weak (tm':=[(5,.bool true),(6,vP x_2),(9,vI b.i),(10,vP (ps_7.getD ((3-(b.i.tdiv 100)).toNat) 0))]) (L':=[.raw 0 o_,.pts b_1 [vI q0,vI q1,vI q2] 22,Ed2706 x_2 c (vP ba_3) (vP rb_4) ka_5 ps_7.length kc_6 b.ma b.W.many.length b.mc b.W.now,.sl ka_5 kc_6 encP 0 1 ps_7 68,Ee1326 b.ma b.mc b.W.many,E3504b ba_3 b.W.A,E35fb1 b.W.A,E99bbc rb_4 b.B false 0,E35fb1 b.B,.rd a c0 encLAct dLAct 2 xs bt r,.res (KsX ps_7 b.W.ks ((3-(b.i.tdiv 100)).toNat) c),Eff665 (ps_7.getD ((3-(b.i.tdiv 100)).toNat) 0) (vP y20) pv20 sv20 rv20 ra20 ret20.length rc20 id20,Ee1326 ra20 rc20 ret20,.res (PbR y20 c (ctlAt c 0) ep20 ws20 S20)]) [5,6,9,10] [0,1,2,3,4,5,6,7,8,9,10,11,12,13] kR ?_
    have hKk:b.W.k (3-b.i.tdiv 100)=⟨.pub ep20 ws20 S20,ret20,id20⟩:=hK
    refine gX [.z q94_5 1 [5,6,9,79]] (gS [.o q94_5 1,.c q94_7,.b 3,.c q94_8,.j J_15,.b 2,.c [1,1,1,1,1,1]] ?_)
    refine gC (some 80) [11] Tryz.call32 (k_idleP (ps_7.getD ((3-(b.i.tdiv 100)).toNat) 0) pv20 sv20 rv20 ra20 rc20 ret20.length id20 y20 (.pointer none) (.pointer none)) ?_
    refine gX [.z q94_9 0 [5,6,9]] (gS [.o q94_9 0,.b 3,.c q94_8,.j J_15,.b 2,.c [1,1,1,1,1,1]] ?_)
    refine go_view (vK (fun _:KlH=>True) (klL c (ps_7.getD ((3-(b.i.tdiv 100)).toNat) 0) ⟨.pub ep20 ws20 S20,ret20,id20⟩) ⟨pv20,sv20,rv20,ra20,rc20,y20⟩ [13,11,12] trivial) ?_
    refine go_view (ks_back (ps:=ps_7) (ks:=b.W.ks) (c:=c) 11 10 ((3-(b.i.tdiv 100)).toNat) ⟨.pub ep20 ws20 S20,ret20,id20⟩ hK (by omega) (by omega)) ?_
    exact go_weak [5,6,9] [0,1,2,3,4,5,6,7,8,10,9] kR (hj_17 () (by rw [hKk]; simp))
   | scan S20=>
    refine go_weak (tm':=[(5,.bool true),(6,vP x_2),(9,vI b.i),(10,vP (ps_7.getD ((3-(b.i.tdiv 100)).toNat) 0))]) (L':=[.raw 0 o_,.pts b_1 [vI q0,vI q1,vI q2] 22,Ed2706 x_2 c (vP ba_3) (vP rb_4) ka_5 ps_7.length kc_6 b.ma b.W.many.length b.mc b.W.now,.sl ka_5 kc_6 encP 0 1 ps_7 68,Ee1326 b.ma b.mc b.W.many,E3504b ba_3 b.W.A,E35fb1 b.W.A,E99bbc rb_4 b.B false 0,E35fb1 b.B,.rd a c0 encLAct dLAct 2 xs bt r,.res (KsX ps_7 b.W.ks ((3-(b.i.tdiv 100)).toNat) c),Eb05f6 (ps_7.getD ((3-(b.i.tdiv 100)).toNat) 0) (vP y20) pv20 sv20 rv20 ra20 ret20.length rc20 id20,Ee1326 ra20 rc20 ret20,.res (ScanR y20 c S20)]) [5,6,9,10] [0,1,2,3,4,5,6,7,8,9,10,11,12,13] kR ?_
    have hKk:b.W.k (3-b.i.tdiv 100)=⟨.scan S20,ret20,id20⟩:=hK
    refine gX [.z q94_5 1 [5,6,9,79]] (gS [.o q94_5 1,.c q94_7,.b 3,.c q94_8,.j J_15,.b 2,.c [1,1,1,1,1,1]] ?_)
    refine gC (some 80) [11] Tryz.call32 (k_idleS (ps_7.getD ((3-(b.i.tdiv 100)).toNat) 0) pv20 sv20 rv20 ra20 rc20 ret20.length id20 y20 (.pointer none)) ?_
    refine gX [.z q94_9 0 [5,6,9]] (gS [.o q94_9 0,.b 3,.c q94_8,.j J_15,.b 2,.c [1,1,1,1,1,1]] ?_)
    refine go_view (vK (fun _:KlH=>True) (klL c (ps_7.getD ((3-(b.i.tdiv 100)).toNat) 0) ⟨.scan S20,ret20,id20⟩) ⟨pv20,sv20,rv20,ra20,rc20,y20⟩ [13,11,12] trivial) ?_
    refine go_view (ks_back (ps:=ps_7) (ks:=b.W.ks) (c:=c) 11 10 ((3-(b.i.tdiv 100)).toNat) ⟨.scan S20,ret20,id20⟩ hK (by omega) (by omega)) ?_
    exact go_weak [5,6,9] [0,1,2,3,4,5,6,7,8,10,9] kR (hj_17 () (by rw [hKk]; simp))
   | read cl20 ep20 S20=>
    refine go_weak (tm':=[(5,.bool true),(6,vP x_2),(9,vI b.i),(10,vP (ps_7.getD ((3-(b.i.tdiv 100)).toNat) 0))]) (L':=[.raw 0 o_,.pts b_1 [vI q0,vI q1,vI q2] 22,Ed2706 x_2 c (vP ba_3) (vP rb_4) ka_5 ps_7.length kc_6 b.ma b.W.many.length b.mc b.W.now,.sl ka_5 kc_6 encP 0 1 ps_7 68,Ee1326 b.ma b.mc b.W.many,E3504b ba_3 b.W.A,E35fb1 b.W.A,E99bbc rb_4 b.B false 0,E35fb1 b.B,.rd a c0 encLAct dLAct 2 xs bt r,.res (KsX ps_7 b.W.ks ((3-(b.i.tdiv 100)).toNat) c),E70a74 (ps_7.getD ((3-(b.i.tdiv 100)).toNat) 0) (vP y20) pv20 sv20 rv20 ra20 ret20.length rc20 id20,Ee1326 ra20 rc20 ret20,.res (RdR y20 c cl20 0 ep20 S20)]) [5,6,9,10] [0,1,2,3,4,5,6,7,8,9,10,11,12,13] kR ?_
    have hKk:b.W.k (3-b.i.tdiv 100)=⟨.read cl20 ep20 S20,ret20,id20⟩:=hK
    refine gX [.z q94_5 1 [5,6,9,79]] (gS [.o q94_5 1,.c q94_7,.b 3,.c q94_8,.j J_15,.b 2,.c [1,1,1,1,1,1]] ?_)
    refine gC (some 80) [11] Tryz.call32 (k_idleR (ps_7.getD ((3-(b.i.tdiv 100)).toNat) 0) pv20 sv20 rv20 ra20 rc20 ret20.length id20 y20) ?_
    refine gX [.z q94_9 0 [5,6,9]] (gS [.o q94_9 0,.b 3,.c q94_8,.j J_15,.b 2,.c [1,1,1,1,1,1]] ?_)
    refine go_view (vK (fun _:KlH=>True) (klL c (ps_7.getD ((3-(b.i.tdiv 100)).toNat) 0) ⟨.read cl20 ep20 S20,ret20,id20⟩) ⟨pv20,sv20,rv20,ra20,rc20,y20⟩ [13,11,12] trivial) ?_
    refine go_view (ks_back (ps:=ps_7) (ks:=b.W.ks) (c:=c) 11 10 ((3-(b.i.tdiv 100)).toNat) ⟨.read cl20 ep20 S20,ret20,id20⟩ hK (by omega) (by omega)) ?_
    exact go_weak [5,6,9] [0,1,2,3,4,5,6,7,8,10,9] kR (hj_17 () (by rw [hKk]; simp))
  ·replace h_16:=decF h_16
   refine gW (ks:=[.c q94_6,.b 4,.c q94_10]) [(5,.bool true),(6,vP x_2),(11,vI 0)] [.raw 0 o_,.pts b_1 [vI q0,vI q1,vI q2] 22,Ed2706 x_2 c (vP ba_3) (vP rb_4) ka_5 ps_7.length kc_6 b.ma b.W.many.length b.mc b.W.now,.sl ka_5 kc_6 encP 0 1 ps_7 68,Ee1326 b.ma b.mc b.W.many,E3504b ba_3 b.W.A,E35fb1 b.W.A,E99bbc rb_4 b.B false 0,E35fb1 b.B,.res (KsR ps_7 b.W.ks c),.rd a c0 encLAct dLAct 2 xs bt r] ?_
   obtain⟨⟨lb1,ob1⟩,nb1,db1⟩:=lb_last hb0 (by omega)
   refine go_loop (ι := Lt) (fun e=>[(5,.bool true),(6,vP x_2),(11,vI e.i)]) (fun e=>[.raw 0 o_,.pts b_1 [vI q0,vI q1,vI q2] 22,Ed2706 x_2 c (vP ba_3) (vP rb_4) ka_5 ps_7.length kc_6 e.ma e.W.many.length e.mc e.W.now,.sl ka_5 kc_6 encP 0 1 ps_7 68,Ee1326 e.ma e.mc e.W.many,E3504b ba_3 e.W.A,E35fb1 e.W.A,E99bbc rb_4 e.B false 0,E35fb1 e.B,.res (KsR ps_7 e.W.ks c),.rd a c0 encLAct dLAct 2 xs bt r]) (fun e=>LcOk c e) (fun e=>(200-e.i).toNat) (⟨0,b.W,b.B,b.ma,b.mc⟩:Lt) [5,6,11] [0,1,2,3,4,5,6,7,8,9,10] kR kR kR kR (lc_first ob1 (by omega) nb1 hbm db1) ?_
   intro e J_21 hIJ_21 hJ_21
   have he0:=hIJ_21
   have hei:=he0.i0
   obtain⟨le,oe⟩:=he0.own
   have hel:=oe.len
   have hj:e.i.tdiv 100=e.i / 100:=Int.tdiv_eq_ediv_of_nonneg (by omega)
   refine gX [.sp [88] [.e 2,.n,.s 3,.j 3 ((e.i.tdiv 100).toNat),.z q94_11 0 [5,6,11,12]] [.z q94_12 0 [5,6]]] (gB (decide (e.i<200)) (fun h_22 => ?_) (fun h_22 => ?_))
   ·replace h_22:=decT h_22
    refine gQ x_2 (gO ((100:Int)≠0∧InK .i64 (e.i.tdiv 100)) ⟨by decide,by simp only [InK]; omega⟩ (gO (ka_5=ka_5∧ps_7.length=ps_7.length) ⟨rfl,(by first | rfl | omega | (simp; done) | (simp; omega))⟩ (gO ((0:Int)≤(e.i.tdiv 100)∧(e.i.tdiv 100)<((ps_7.length:Nat):Int)) (by omega) (gQ (slAt ka_5 ((e.i.tdiv 100).toNat) 1) (gO ((e.i.tdiv 100).toNat<ps_7.length) (by omega) (gW (ks:=[.o q94_11 0,.c q94_13,.c q94_14,.b 5,.c q94_15,.j J_21,.b 4,.c q94_10]) [(5,.bool true),(6,vP x_2),(11,vI e.i),(12,vP (ps_7.getD ((e.i.tdiv 100).toNat) 0))] [.raw 0 o_,.pts b_1 [vI q0,vI q1,vI q2] 22,Ed2706 x_2 c (vP ba_3) (vP rb_4) ka_5 ps_7.length kc_6 e.ma e.W.many.length e.mc e.W.now,.sl ka_5 kc_6 encP 0 1 ps_7 68,Ee1326 e.ma e.mc e.W.many,E3504b ba_3 e.W.A,E35fb1 e.W.A,E99bbc rb_4 e.B false 0,E35fb1 e.B,.res (KsR ps_7 e.W.ks c),.rd a c0 encLAct dLAct 2 xs bt r] ?_))))))
    have hat:0≤e.i.tdiv 100∧e.i.tdiv 100<4:=by omega
    have hcur:=he0.cur (by omega)
    rw [←hj] at hcur
    refine go_view (L':=[.raw 0 o_,.pts b_1 [vI q0,vI q1,vI q2] 22,Ed2706 x_2 c (vP ba_3) (vP rb_4) ka_5 ps_7.length kc_6 e.ma e.W.many.length e.mc e.W.now,.sl ka_5 kc_6 encP 0 1 ps_7 68,Ee1326 e.ma e.mc e.W.many,E3504b ba_3 e.W.A,E35fb1 e.W.A,E99bbc rb_4 e.B false 0,E35fb1 e.B,.rd a c0 encLAct dLAct 2 xs bt r,.res (KlR c (ps_7.getD ((e.i.tdiv 100).toNat) 0) (e.W.ks.getD ((e.i.tdiv 100).toNat) dK)),.res (KsX ps_7 e.W.ks ((e.i.tdiv 100).toNat) c)]) (ks_focus 9 ((e.i.tdiv 100).toNat) (ps:=ps_7) (ks:=e.W.ks) (c:=c) (by omega) (by omega)) ?_
    obtain⟨K,hK⟩:∃K:Kc,e.W.ks.getD ((e.i.tdiv 100).toNat) dK=K:=⟨_,rfl⟩
    refine go_cast (tm':=[(5,.bool true),(6,vP x_2),(11,vI e.i),(12,vP (ps_7.getD ((e.i.tdiv 100).toNat) 0))]) (L':=[.raw 0 o_,.pts b_1 [vI q0,vI q1,vI q2] 22,Ed2706 x_2 c (vP ba_3) (vP rb_4) ka_5 ps_7.length kc_6 e.ma e.W.many.length e.mc e.W.now,.sl ka_5 kc_6 encP 0 1 ps_7 68,Ee1326 e.ma e.mc e.W.many,E3504b ba_3 e.W.A,E35fb1 e.W.A,E99bbc rb_4 e.B false 0,E35fb1 e.B,.rd a c0 encLAct dLAct 2 xs bt r,.res (KlR c (ps_7.getD ((e.i.tdiv 100).toNat) 0) K),.res (KsX ps_7 e.W.ks ((e.i.tdiv 100).toNat) c)]) (by rw [hK]) ?_
    refine oG (I:=fun _:KlH=>True) (LL:=klL c (ps_7.getD ((e.i.tdiv 100).toNat) 0) K) 10 ?_
    rintro⟨pv23,sv23,rv23,ra23,rc23,y23⟩ -
    obtain⟨d23,ret23,id23⟩:=K
    cases d23 with
    | idle=>
     refine go_weak (tm':=[(5,.bool true),(6,vP x_2),(11,vI e.i),(12,vP (ps_7.getD ((e.i.tdiv 100).toNat) 0))]) (L':=[.raw 0 o_,.pts b_1 [vI q0,vI q1,vI q2] 22,Ed2706 x_2 c (vP ba_3) (vP rb_4) ka_5 ps_7.length kc_6 e.ma e.W.many.length e.mc e.W.now,.sl ka_5 kc_6 encP 0 1 ps_7 68,Ee1326 e.ma e.mc e.W.many,E3504b ba_3 e.W.A,E35fb1 e.W.A,E99bbc rb_4 e.B false 0,E35fb1 e.B,.rd a c0 encLAct dLAct 2 xs bt r,.res (KsX ps_7 e.W.ks ((e.i.tdiv 100).toNat) c),E4463d (ps_7.getD ((e.i.tdiv 100).toNat) 0) pv23 sv23 rv23 ra23 ret23.length rc23 id23,Ee1326 ra23 rc23 ret23]) [5,6,11,12] [0,1,2,3,4,5,6,7,8,9,10,11,12] kR ?_
     have hKk:e.W.k (e.i.tdiv 100)=⟨.idle,ret23,id23⟩:=hK
     rw [hKk] at hcur
     have hgr:=oe.good hc hat
     rw [hKk] at hgr
     have hgl:=hgr.2
     dsimp only at hgl
     by_cases hrl:ret23=[]
     ·skip
      have hrn:ret23.length=0:=by rw [hrl]; rfl
      refine gX [.z q94_11 1 [5,6,11,12,99]] (gS [.o q94_11 1,.c q94_13,.c q94_14,.b 5,.c q94_15,.j J_21,.b 4,.c q94_10] ?_)
      refine gC (some 100) [11] Tryz.call32 (k_idleI (ps_7.getD ((e.i.tdiv 100).toNat) 0) pv23 sv23 rv23 ra23 rc23 ret23.length id23) ?_
      refine gX [.e 12,.sp [108,107] [.dead] [.z q94_16 1 [5,6,11,121]]] (gQ (ps_7.getD ((e.i.tdiv 100).toNat) 0) (gQ (decide (((ret23.length:Nat):Int)>0)) (gF (decide (((ret23.length:Nat):Int)>0)) (decide_eq_false (by omega)) (gS [.o q94_16 1,.c q94_17,.b 5,.c q94_15,.j J_21,.b 4,.c q94_10] ?_))))
      refine gC (some 122) [12] Tryz.call32 (k_idleI (ps_7.getD ((e.i.tdiv 100).toNat) 0) pv23 sv23 rv23 ra23 rc23 ret23.length id23) ?_
      refine gX [.n,.z [] 0 [5,6,11]] (gO (InK .i64 (e.i+1)) (by simp only [InK]; omega) (gS [.j J_21,.b 4,.c q94_10] ?_))
      refine go_view (vK (fun _:KlH=>True) (klL c (ps_7.getD ((e.i.tdiv 100).toNat) 0) ⟨.idle,ret23,id23⟩) ⟨pv23,sv23,rv23,ra23,rc23,y23⟩ [12,11] trivial) ?_
      refine go_view (ks_back (ps:=ps_7) (ks:=e.W.ks) (c:=c) 11 10 ((e.i.tdiv 100).toNat) ⟨.idle,ret23,id23⟩ hK (by omega) (by omega)) ?_
      exact go_back hJ_21 (⟨e.i+1,e.W,e.B,e.ma,e.mc⟩:Lt) [0,1,2,3,4,5,6,7,8,10,9] kR kR kR (lc_skip he0 (by omega) hj (by rw [hKk]) (by rw [hKk]; exact hrl) _ _ _) (by dsimp only; omega)
     ·skip
      have hrn:0<ret23.length:=List.length_pos_iff.2 hrl
      obtain⟨⟨lg,og⟩,hag2⟩:=lc_again hC hs8 he0 (by omega) hj (by rw [hKk]) (by rw [hKk]; exact hrl)
      refine gX [.z q94_11 1 [5,6,11,12,99]] (gS [.o q94_11 1,.c q94_13,.c q94_14,.b 5,.c q94_15,.j J_21,.b 4,.c q94_10] ?_)
      refine gC (some 100) [11] Tryz.call32 (k_idleI (ps_7.getD ((e.i.tdiv 100).toNat) 0) pv23 sv23 rv23 ra23 rc23 ret23.length id23) ?_
      refine gX [.e 12,.sp [108,107] [.z q94_18 0 [5,6,11,12]] [.dead]] (gQ (ps_7.getD ((e.i.tdiv 100).toNat) 0) (gQ (decide (((ret23.length:Nat):Int)>0)) (gT (decide (((ret23.length:Nat):Int)>0)) (decide_eq_true (by omega)) (gS [.c q94_18,.c q94_14,.b 5,.c q94_15,.j J_21,.b 4,.c q94_10] ?_))))
      refine zG ?_
      refine zN [0,1,2,3,4,5,6,7,8] (kV 0 [.w,.w,.w,.w,.e 2,.w,.w,.w,.e 12]) [5,6,11,12,109,110,111,112,113,114,115,116,117] [9] (.e x_2 (.e (ps_7.getD ((e.i.tdiv 100).toNat) 0) .n)) ⟨?_,trivial⟩
      refine zC (some 118) [11] Tryz.call33 (retire_New_ok c ra23 rc23 ret23 hc (by omega) (good_in hc hgr.1) (newOk_iff.2 hgr.1)) ?_
      rintro v post ⟨s_9_1,rfl,rfl⟩
      refine zN [10,11] [(0,.w),(10,.w),(11,.w)] [118,5,6,11,12,109,119,120] [12] .n ⟨?_,trivial⟩
      refine zX (.e 11) (sQ (ps_7.getD ((e.i.tdiv 100).toNat) 0) (sK ?_))
      refine zE [] [] [5,6,11,12] .n ?_
      refine gX [.z q94_16 1 [5,6,11,121]] (gS [.o q94_16 1,.c q94_17,.b 5,.c q94_15,.j J_21,.b 4,.c q94_10] ?_)
      refine gC (some 122) [11] Tryz.call32 (k_idleS (ps_7.getD ((e.i.tdiv 100).toNat) 0) pv23 sv23 rv23 ra23 rc23 ret23.length id23 s_9_1 (.pointer none)) ?_
      refine gX [.z q94_19 0 [5,6,11]] (gW (ks:=[.o q94_19 0,.b 5,.c q94_15,.j J_21,.b 4,.c q94_10]) [(5,.bool true),(6,vP x_2),(11,vI e.i)] [.raw 0 o_,.pts b_1 [vI q0,vI q1,vI q2] 22,Ed2706 x_2 c (vP ba_3) (vP rb_4) ka_5 ps_7.length kc_6 e.ma e.W.many.length e.mc e.W.now,.sl ka_5 kc_6 encP 0 1 ps_7 68,Ee1326 e.ma e.mc e.W.many,E3504b ba_3 e.W.A,E35fb1 e.W.A,E99bbc rb_4 e.B false 0,E35fb1 e.B,.rd a c0 encLAct dLAct 2 xs bt r,.res (KsX ps_7 e.W.ks ((e.i.tdiv 100).toNat) c),Ee1326 ra23 rc23 ret23,.res (ScanR s_9_1 c (newSc ret23)),Eb05f6 (ps_7.getD ((e.i.tdiv 100).toNat) 0) (vP s_9_1) pv23 sv23 rv23 ra23 ret23.length rc23 id23] ?_)
      refine go_view (L':=[.raw 0 o_,.pts b_1 [vI q0,vI q1,vI q2] 22,Ed2706 x_2 c (vP ba_3) (vP rb_4) ka_5 ps_7.length kc_6 e.ma e.W.many.length e.mc e.W.now,.sl ka_5 kc_6 encP 0 1 ps_7 68,Ee1326 e.ma e.mc e.W.many,E3504b ba_3 e.W.A,E35fb1 e.W.A,E99bbc rb_4 e.B false 0,E35fb1 e.B,.rd a c0 encLAct dLAct 2 xs bt r,.res (KsX ps_7 e.W.ks ((e.i.tdiv 100).toNat) c),.res (KlR c (ps_7.getD ((e.i.tdiv 100).toNat) 0) ⟨.scan (newSc ret23),ret23,id23⟩)]) (vK (fun _:KlH=>True) (klL c (ps_7.getD ((e.i.tdiv 100).toNat) 0) ⟨.scan (newSc ret23),ret23,id23⟩) ⟨pv23,sv23,rv23,ra23,rc23,s_9_1⟩ [13,11,12] trivial) ?_
      refine go_view (L':=[.raw 0 o_,.pts b_1 [vI q0,vI q1,vI q2] 22,Ed2706 x_2 c (vP ba_3) (vP rb_4) ka_5 ps_7.length kc_6 e.ma e.W.many.length e.mc e.W.now,.sl ka_5 kc_6 encP 0 1 ps_7 68,Ee1326 e.ma e.mc e.W.many,E3504b ba_3 e.W.A,E35fb1 e.W.A,E99bbc rb_4 e.B false 0,E35fb1 e.B,.rd a c0 encLAct dLAct 2 xs bt r,.res (KsR ps_7 (e.W.ks.set ((e.i.tdiv 100).toNat) ⟨.scan (newSc ret23),ret23,id23⟩) c)]) (ks_unfocus (ps:=ps_7) (ks:=e.W.ks) (c:=c) 11 10 ((e.i.tdiv 100).toNat) ⟨.scan (newSc ret23),ret23,id23⟩ (by omega) (by omega)) ?_
      refine go_cast (tm':=[(5,.bool true),(6,vP x_2),(11,vI e.i)]) (L':=[.raw 0 o_,.pts b_1 [vI q0,vI q1,vI q2] 22,Ed2706 x_2 c (vP ba_3) (vP rb_4) ka_5 ps_7.length kc_6 e.ma ((e.W.again (e.i.tdiv 100)).many.length) e.mc ((e.W.again (e.i.tdiv 100)).now),.sl ka_5 kc_6 encP 0 1 ps_7 68,Ee1326 e.ma e.mc ((e.W.again (e.i.tdiv 100)).many),E3504b ba_3 ((e.W.again (e.i.tdiv 100)).A),E35fb1 ((e.W.again (e.i.tdiv 100)).A),E99bbc rb_4 e.B false 0,E35fb1 e.B,.rd a c0 encLAct dLAct 2 xs bt r,.res (KsR ps_7 ((e.W.again (e.i.tdiv 100)).ks) c)]) (by unfold Wd.again; rw [hKk]) ?_
      refine gX [.n,.z q94_19 3 [5,6,11,124,126]] (gO ((100:Int)≠0∧InK .i64 (e.i.tdiv 100)) ⟨by decide,by simp only [InK]; omega⟩ (gS [.o q94_19 3,.b 5,.c q94_15,.j J_21,.b 4,.c q94_10] ?_))
      refine go_call (some 127) [0,2,3,5,6,10] Tryz.call29 (W_step o_ c x_2 ba_3 rb_4 ka_5 e.ma kc_6 e.mc ps_7 (e.W.again (e.i.tdiv 100)) (e.i.tdiv 100) ho hc (by first | exact⟨_,_,o2,by omega⟩ | exact⟨_,_,ob,by omega⟩ | exact⟨_,_,og,by omega⟩ | exact⟨_,_,oe,by omega⟩) hat hps) kR ?_
      rintro v post ⟨a2_26,c2_27,rfl,rfl⟩
      refine gX [.n,.z [] 0 [5,6,11]] (gO (InK .i64 (e.i+1)) (by simp only [InK]; omega) (gS [.j J_21,.b 4,.c q94_10] ?_))
      exact go_back hJ_21 (⟨e.i+1,((e.W.again (e.i.tdiv 100)).step c (e.i.tdiv 100)),e.B,e.ma,e.mc⟩:Lt) [5,0,6,7,1,8,9,2,3,10,4] kR kR kR (hag2 _ _ _) (by dsimp only; omega)
    | pub ep23 ws23 S23=>
     refine go_weak (tm':=[(5,.bool true),(6,vP x_2),(11,vI e.i),(12,vP (ps_7.getD ((e.i.tdiv 100).toNat) 0))]) (L':=[.raw 0 o_,.pts b_1 [vI q0,vI q1,vI q2] 22,Ed2706 x_2 c (vP ba_3) (vP rb_4) ka_5 ps_7.length kc_6 e.ma e.W.many.length e.mc e.W.now,.sl ka_5 kc_6 encP 0 1 ps_7 68,Ee1326 e.ma e.mc e.W.many,E3504b ba_3 e.W.A,E35fb1 e.W.A,E99bbc rb_4 e.B false 0,E35fb1 e.B,.rd a c0 encLAct dLAct 2 xs bt r,.res (KsX ps_7 e.W.ks ((e.i.tdiv 100).toNat) c),Eff665 (ps_7.getD ((e.i.tdiv 100).toNat) 0) (vP y23) pv23 sv23 rv23 ra23 ret23.length rc23 id23,Ee1326 ra23 rc23 ret23,.res (PbR y23 c (ctlAt c 0) ep23 ws23 S23)]) [5,6,11,12] [0,1,2,3,4,5,6,7,8,9,10,11,12,13] kR ?_
     have hKk:e.W.k (e.i.tdiv 100)=⟨.pub ep23 ws23 S23,ret23,id23⟩:=hK
     rw [hKk] at hcur
     rcases hcur with ⟨q,_⟩ | ⟨_,q,_⟩ <;> cases q
    | scan S23=>
     refine go_weak (tm':=[(5,.bool true),(6,vP x_2),(11,vI e.i),(12,vP (ps_7.getD ((e.i.tdiv 100).toNat) 0))]) (L':=[.raw 0 o_,.pts b_1 [vI q0,vI q1,vI q2] 22,Ed2706 x_2 c (vP ba_3) (vP rb_4) ka_5 ps_7.length kc_6 e.ma e.W.many.length e.mc e.W.now,.sl ka_5 kc_6 encP 0 1 ps_7 68,Ee1326 e.ma e.mc e.W.many,E3504b ba_3 e.W.A,E35fb1 e.W.A,E99bbc rb_4 e.B false 0,E35fb1 e.B,.rd a c0 encLAct dLAct 2 xs bt r,.res (KsX ps_7 e.W.ks ((e.i.tdiv 100).toNat) c),Eb05f6 (ps_7.getD ((e.i.tdiv 100).toNat) 0) (vP y23) pv23 sv23 rv23 ra23 ret23.length rc23 id23,Ee1326 ra23 rc23 ret23,.res (ScanR y23 c S23)]) [5,6,11,12] [0,1,2,3,4,5,6,7,8,9,10,11,12,13] kR ?_
     have hKk:e.W.k (e.i.tdiv 100)=⟨.scan S23,ret23,id23⟩:=hK
     rw [hKk] at hcur
     obtain⟨S9,q1,hsn,hsm⟩:=hcur.resolve_left (fun q=>by cases q.1)
     cases q1
     refine gX [.z q94_11 1 [5,6,11,12,99]] (gS [.o q94_11 1,.c q94_13,.c q94_14,.b 5,.c q94_15,.j J_21,.b 4,.c q94_10] ?_)
     refine gC (some 100) [11] Tryz.call32 (k_idleS (ps_7.getD ((e.i.tdiv 100).toNat) 0) pv23 sv23 rv23 ra23 rc23 ret23.length id23 y23 (.pointer none)) ?_
     refine gX [.z q94_16 1 [5,6,11,121]] (gS [.o q94_16 1,.c q94_17,.b 5,.c q94_15,.j J_21,.b 4,.c q94_10] ?_)
     refine gC (some 122) [13] Tryz.call32 (k_idleS (ps_7.getD ((e.i.tdiv 100).toNat) 0) pv23 sv23 rv23 ra23 rc23 ret23.length id23 y23 (.pointer none)) ?_
     refine gX [.z q94_19 0 [5,6,11]] (gS [.o q94_19 0,.b 5,.c q94_15,.j J_21,.b 4,.c q94_10] ?_)
     refine go_view (vK (fun _:KlH=>True) (klL c (ps_7.getD ((e.i.tdiv 100).toNat) 0) ⟨.scan S23,ret23,id23⟩) ⟨pv23,sv23,rv23,ra23,rc23,y23⟩ [13,11,12] trivial) ?_
     refine go_view (ks_back (ps:=ps_7) (ks:=e.W.ks) (c:=c) 11 10 ((e.i.tdiv 100).toNat) ⟨.scan S23,ret23,id23⟩ hK (by omega) (by omega)) ?_
     refine gX [.n,.z q94_19 3 [5,6,11,124,126]] (gO ((100:Int)≠0∧InK .i64 (e.i.tdiv 100)) ⟨by decide,by simp only [InK]; omega⟩ (gS [.o q94_19 3,.b 5,.c q94_15,.j J_21,.b 4,.c q94_10] ?_))
     refine go_call (some 127) [0,2,3,5,6,10] Tryz.call29 (W_step o_ c x_2 ba_3 rb_4 ka_5 e.ma kc_6 e.mc ps_7 e.W (e.i.tdiv 100) ho hc (by first | exact⟨_,_,o2,by omega⟩ | exact⟨_,_,ob,by omega⟩ | exact⟨_,_,og,by omega⟩ | exact⟨_,_,oe,by omega⟩) hat hps) kR ?_
     rintro v post ⟨a2_28,c2_29,rfl,rfl⟩
     refine gX [.n,.z [] 0 [5,6,11]] (gO (InK .i64 (e.i+1)) (by simp only [InK]; omega) (gS [.j J_21,.b 4,.c q94_10] ?_))
     exact go_back hJ_21 (⟨e.i+1,(e.W.step c (e.i.tdiv 100)),e.B,e.ma,e.mc⟩:Lt) [5,0,6,7,1,8,9,2,3,10,4] kR kR kR (lc_scan hC he0 (by omega) hj oe he0.nx rfl rfl (fun _ _ _=>rfl) (by rw [hKk]) hsn (by rw [hKk]; exact hsm) _ _ _) (by dsimp only; omega)
    | read cl23 ep23 S23=>
     refine go_weak (tm':=[(5,.bool true),(6,vP x_2),(11,vI e.i),(12,vP (ps_7.getD ((e.i.tdiv 100).toNat) 0))]) (L':=[.raw 0 o_,.pts b_1 [vI q0,vI q1,vI q2] 22,Ed2706 x_2 c (vP ba_3) (vP rb_4) ka_5 ps_7.length kc_6 e.ma e.W.many.length e.mc e.W.now,.sl ka_5 kc_6 encP 0 1 ps_7 68,Ee1326 e.ma e.mc e.W.many,E3504b ba_3 e.W.A,E35fb1 e.W.A,E99bbc rb_4 e.B false 0,E35fb1 e.B,.rd a c0 encLAct dLAct 2 xs bt r,.res (KsX ps_7 e.W.ks ((e.i.tdiv 100).toNat) c),E70a74 (ps_7.getD ((e.i.tdiv 100).toNat) 0) (vP y23) pv23 sv23 rv23 ra23 ret23.length rc23 id23,Ee1326 ra23 rc23 ret23,.res (RdR y23 c cl23 0 ep23 S23)]) [5,6,11,12] [0,1,2,3,4,5,6,7,8,9,10,11,12,13] kR ?_
     have hKk:e.W.k (e.i.tdiv 100)=⟨.read cl23 ep23 S23,ret23,id23⟩:=hK
     rw [hKk] at hcur
     rcases hcur with ⟨q,_⟩ | ⟨_,q,_⟩ <;> cases q
   ·replace h_22:=decF h_22
    refine gW (ks:=[.c q94_12,.c [1,1,1,1,1,1,1,1]]) [(5,.bool true),(6,vP x_2)] [.raw 0 o_,.pts b_1 [vI q0,vI q1,vI q2] 22,Ed2706 x_2 c (vP ba_3) (vP rb_4) ka_5 ps_7.length kc_6 e.ma e.W.many.length e.mc e.W.now,.sl ka_5 kc_6 encP 0 1 ps_7 68,Ee1326 e.ma e.mc e.W.many,E3504b ba_3 e.W.A,E35fb1 e.W.A,E99bbc rb_4 e.B false 0,E35fb1 e.B,.res (KsR ps_7 e.W.ks c),.rd a c0 encLAct dLAct 2 xs bt r] ?_
    obtain⟨⟨l,o⟩,nx,dd,rr,zz⟩:=lc_last he0 (by omega)
    have hmm:=he0.many
    have oa:=o.arw.1
    have ob2:=o.arw.2.1
    have hsz:=sizeOfC_ok hc
    have hcc:=hc
    simp only [Cfg.Ok] at hcc
    obtain⟨hfl,hfh,hfa⟩:=last_free hc o dd rr
    have hch0:Chain c 0 e.W.A.ws 3 (l 0):=o.hp.ch 0 (.inl rfl)
    have hch1:Chain c 1 e.W.A.ws 4 (l 1):=o.hp.ch 1 (.inr rfl)
    have hlv:=nx.2.live
    have hUW:U64 (wordC c e.W.A):=o.arw.2.2.1 _
    have hcr:=ctl_rng hUW
    obtain⟨⟨f9,la9,wh9⟩,nx2⟩:=nx
    have hct:=ctl0_ok hc
    refine zG ?_
    refine zN [0,1,2,3,4,5,6,7] (kV 0 [.w,.w,.w,.e 2,.w,.w,.w,.e 2]) [5,6,128,129,130,131,132,133,134,135] [8] (.e x_2 (.e x_2 .n)) ⟨?_,trivial⟩
    refine zC (some 136) [5,6] Tryz.call30 (arena_Words ba_3 e.W.A (by first | exact o3a | exact oa) (by omega)) ?_
    rintro v post ⟨a2_8_1r1,c2_8_1r1,rfl,rfl⟩
    refine zN [9,10] (kV 0 [.w,.w,.w,.e 2]++kV 9 [.w,.w]) [136,5,6,128,129,130,131,137,138] [11] (.e x_2 .n) ⟨?_,trivial⟩
    refine zX (.e 5) (sQ rb_4 (sK ?_))
    refine zE [] [] [5,6] .n ?_
    refine gX [.z q94_20 0 [5,6]] (gW (ks:=[.o q94_20 0,.c q94_21]) [(5,.bool true),(6,vP x_2)] [.raw 0 o_,.pts b_1 [vI q0,vI q1,vI q2] 22,Ed2706 x_2 c (vP ba_3) (vP rb_4) ka_5 ps_7.length kc_6 e.ma e.W.many.length e.mc e.W.now,.sl ka_5 kc_6 encP 0 1 ps_7 68,Ee1326 e.ma e.mc e.W.many,E9fe06 rb_4 a2_8_1r1 e.W.A.ws.length c2_8_1r1 e.B false 0,E35fb1 e.B,.res (KsR ps_7 e.W.ks c),.rd a c0 encLAct dLAct 2 xs bt r,E3504b ba_3 e.W.A,E35fb1 e.W.A,E54ea0 a2_8_1r1 c2_8_1r1 e.W.A.ws] ?_)
    obtain⟨B2,hB2⟩:∃B2:Ar,B2=(⟨a2_8_1r1,c2_8_1r1,e.W.A.ws.length,e.W.A.ws,e.B.steps,e.B.lk,e.B.lw,e.B.lv,e.B.lc⟩:Ar):=⟨_,rfl⟩
    refine go_cast (tm':=[(5,.bool true),(6,vP x_2)]) (L':=[.raw 0 o_,.pts b_1 [vI q0,vI q1,vI q2] 22,Ed2706 x_2 c (vP ba_3) (vP rb_4) ka_5 ps_7.length kc_6 e.ma e.W.many.length e.mc e.W.now,.sl ka_5 kc_6 encP 0 1 ps_7 68,Ee1326 e.ma e.mc e.W.many,E99bbc rb_4 B2 false 0,E35fb1 e.B,.res (KsR ps_7 e.W.ks c),.rd a c0 encLAct dLAct 2 xs bt r,E3504b ba_3 e.W.A,E35fb1 e.W.A,E35fb1 B2]) (by rw [hB2]) ?_
    have hB3:B2.ws=e.W.A.ws:=by rw [hB2]
    have hB4:B2.n=e.W.A.n:=by rw [hB2]; exact oa
    have hBl:B2.ws.length=B2.n:=by rw [hB3,hB4]; exact oa
    have hBz:(B2.n:Int)=sizeOfC c:=by rw [hB4]; exact ob2
    have hwd:B2.ws.getD (ctlAt c 0).toNat 0=wordC c e.W.A:=by rw [hB3]; rfl
    refine gX [.z q94_20 1 [5,6,139]] (gS [.o q94_20 1,.c q94_21] ?_)
    refine gC (some 140) [2,5,11] Tryz.call35 (w_word c x_2 ba_3 rb_4 e.W.now (.slice ka_5 ps_7.length kc_6) (.slice e.ma e.W.many.length e.mc) B2 hc hBl hBz) ?_
    refine gC (some 141) [] Tryz.call34 (r13_Unpack (B2.ws.getD (ctlAt c 0).toNat 0) (by rw [hwd]; exact hUW)) ?_
    refine gX [.e 12,.z q94_22 0 [5,6,13]] (gN fun b_35=>gQ b_35 (gW (ks:=[.c q94_22,.c q94_23]) [(5,.bool true),(6,vP x_2),(13,vP b_35)] [.raw 0 o_,.pts b_1 [vI q0,vI q1,vI q2] 22,.sl ka_5 kc_6 encP 0 1 ps_7 68,Ee1326 e.ma e.mc e.W.many,E35fb1 e.B,.res (KsR ps_7 e.W.ks c),.rd a c0 encLAct dLAct 2 xs bt r,E3504b ba_3 e.W.A,E35fb1 e.W.A,Ed2706 x_2 c (vP ba_3) (vP rb_4) ka_5 ps_7.length kc_6 e.ma e.W.many.length e.mc e.W.now,E99bbc rb_4 B2 false 0,E35fb1 B2,E15a58 b_35 (ctlEpoch (B2.ws.getD (ctlAt c 0).toNat 0)) (ctlGen (B2.ws.getD (ctlAt c 0).toNat 0)) (ctlBlock (B2.ws.getD (ctlAt c 0).toNat 0)) (ctlLive (B2.ws.getD (ctlAt c 0).toNat 0)) (ctlBusy (B2.ws.getD (ctlAt c 0).toNat 0))] ?_))
    obtain⟨w,hw⟩:∃w,w=wordC c e.W.A:=⟨_,rfl⟩
    rw [←hw] at hwd hUW hcr hfl hfh hlv
    refine go_cast (tm':=[(5,.bool true),(6,vP x_2),(13,vP b_35)]) (L':=[.raw 0 o_,.pts b_1 [vI q0,vI q1,vI q2] 22,.sl ka_5 kc_6 encP 0 1 ps_7 68,Ee1326 e.ma e.mc e.W.many,E35fb1 e.B,.res (KsR ps_7 e.W.ks c),.rd a c0 encLAct dLAct 2 xs bt r,E3504b ba_3 e.W.A,E35fb1 e.W.A,Ed2706 x_2 c (vP ba_3) (vP rb_4) ka_5 ps_7.length kc_6 e.ma e.W.many.length e.mc e.W.now,E99bbc rb_4 B2 false 0,E35fb1 B2,E15a58 b_35 (ctlEpoch w) (ctlGen w) (ctlBlock w) (ctlLive w) (ctlBusy w)]) (by rw [hwd]) ?_
    refine zG ?_
    have aS_44:∀(a2_8_1r2:Option Addr) (c2_8_1r2:Nat) (oa_9_1r2:Option Addr) (oc_9_1r2:Nat) (b_10_1r2:Nat),Lz Tryz.prog Tryz.f5 B5 291 F (RetR F (Ret (.bool true) [.raw 0 o_,.rd a c0 encLAct dLAct 2 xs bt r])) (regOps B5 q94_22) [.c q94_23] (mk 12 [0,1,2,3,4,5,6,7,8,9,10,11]) [] [(14,vP b_10_1r2),(5,.bool true),(6,vP x_2),(13,vP b_35)] [.raw 0 o_,.pts b_1 [vI q0,vI q1,vI q2] 22,.sl ka_5 kc_6 encP 0 1 ps_7 68,Ee1326 e.ma e.mc e.W.many,E35fb1 e.B,.res (KsR ps_7 e.W.ks c),.rd a c0 encLAct dLAct 2 xs bt r,Ed2706 x_2 c (vP ba_3) (vP rb_4) ka_5 ps_7.length kc_6 e.ma e.W.many.length e.mc e.W.now,E99bbc rb_4 B2 false 0,E35fb1 B2,E15a58 b_35 (ctlEpoch w) (ctlGen w) (ctlBlock w) (ctlLive w) (ctlBusy w),E3504b ba_3 e.W.A,E35fb1 e.W.A,E54ea0 a2_8_1r2 c2_8_1r2 e.W.A.ws,Ee1326 oa_9_1r2 oc_9_1r2 (freeL (l 0) (l 1) (c.n0+c.n1).toNat),E228b6 b_10_1r2 oa_9_1r2 ((freeL (l 0) (l 1) (c.n0+c.n1).toNat).length) oc_9_1r2 0 0 false]:=by
     intro a2_8_1r2 c2_8_1r2 oa_9_1r2 oc_9_1r2 b_10_1r2
     refine zE [] [] [14,5,6,13] .n ?_
     refine gX [.e 7,.z q94_24 4 [5,6,13,14,155]] (gQ x_2 (gS [.o q94_24 4,.c [1,1,1,1,1,1,1,1,1,1,1]] ?_))
     refine gC (some 156) [] Tryz.call37 (ref_Blocks c oM) ?_
     refine gX [.z q94_25 0 [5,6,13,14,15]] (gW (ks:=[.o q94_25 0,.c [1,0,1,1,1,1,1,1,1,1,1,1,1],.c [1,1,1,1,1,1,1,1,1,1,1,1]]) [(5,.bool true),(6,vP x_2),(13,vP b_35),(14,vP b_10_1r2),(15,vI (c.n0+c.n1))] [.raw 0 o_,.pts b_1 [vI q0,vI q1,vI q2] 22,.sl ka_5 kc_6 encP 0 1 ps_7 68,Ee1326 e.ma e.mc e.W.many,E35fb1 e.B,.res (KsR ps_7 e.W.ks c),.rd a c0 encLAct dLAct 2 xs bt r,Ed2706 x_2 c (vP ba_3) (vP rb_4) ka_5 ps_7.length kc_6 e.ma e.W.many.length e.mc e.W.now,E99bbc rb_4 B2 false 0,E35fb1 B2,E15a58 b_35 (ctlEpoch w) (ctlGen w) (ctlBlock w) (ctlLive w) (ctlBusy w),E3504b ba_3 e.W.A,E35fb1 e.W.A,E54ea0 a2_8_1r2 c2_8_1r2 e.W.A.ws,Ee1326 oa_9_1r2 oc_9_1r2 (freeL (l 0) (l 1) (c.n0+c.n1).toNat),E228b6 b_10_1r2 oa_9_1r2 ((freeL (l 0) (l 1) (c.n0+c.n1).toNat).length) oc_9_1r2 0 0 false] ?_)
     have hj_50:∀nb:Int,(((freeL (l 0) (l 1) (c.n0+c.n1).toNat).length:Nat):Int)=nb→Go Tryz.prog Tryz.f5 B5 291 F (RetR F (Ret (.bool true) [.raw 0 o_,.rd a c0 encLAct dLAct 2 xs bt r])) [.c q94_26,.c q94_27] [(5,.bool true),(6,vP x_2),(13,vP b_35),(14,vP b_10_1r2),(15,vI nb)] [.raw 0 o_,.pts b_1 [vI q0,vI q1,vI q2] 22,.sl ka_5 kc_6 encP 0 1 ps_7 68,Ee1326 e.ma e.mc e.W.many,E35fb1 e.B,.res (KsR ps_7 e.W.ks c),.rd a c0 encLAct dLAct 2 xs bt r,Ed2706 x_2 c (vP ba_3) (vP rb_4) ka_5 ps_7.length kc_6 e.ma e.W.many.length e.mc e.W.now,E99bbc rb_4 B2 false 0,E35fb1 B2,E15a58 b_35 (ctlEpoch w) (ctlGen w) (ctlBlock w) (ctlLive w) (ctlBusy w),E3504b ba_3 e.W.A,E35fb1 e.W.A,E54ea0 a2_8_1r2 c2_8_1r2 e.W.A.ws,Ee1326 oa_9_1r2 oc_9_1r2 (freeL (l 0) (l 1) (c.n0+c.n1).toNat),E228b6 b_10_1r2 oa_9_1r2 ((freeL (l 0) (l 1) (c.n0+c.n1).toNat).length) oc_9_1r2 0 0 false]:=by
      intro nb hz
      have hnb:=hz
      refine tC (some 168) (kV 0 [.ww,.ww,.ww,.e 7,.ww,.e 10]) 6 (kV 7 [.ww]) [] [5,6,13,14,15,16] Tryz.call13 (new_RdC c 2 (ctlEpoch w) hc (by rw [hC.cl]; omega)) (.e x_2 (.e b_35 .n)) .n ?_
      rintro v post ⟨y_51,rfl,rfl⟩
      refine tN .n ?_
      refine gX [.z q94_28 0 [5,6,13,14,15,16,17]] (gW (ks:=[.c q94_28,.b 6,.c q94_29]) [(5,.bool true),(6,vP x_2),(13,vP b_35),(14,vP b_10_1r2),(15,vI nb),(16,vP y_51),(17,vI 0)] [.raw 0 o_,.pts b_1 [vI q0,vI q1,vI q2] 22,.sl ka_5 kc_6 encP 0 1 ps_7 68,Ee1326 e.ma e.mc e.W.many,E35fb1 e.B,.res (KsR ps_7 e.W.ks c),.rd a c0 encLAct dLAct 2 xs bt r,Ed2706 x_2 c (vP ba_3) (vP rb_4) ka_5 ps_7.length kc_6 e.ma e.W.many.length e.mc e.W.now,E99bbc rb_4 B2 false 0,E35fb1 B2,E15a58 b_35 (ctlEpoch w) (ctlGen w) (ctlBlock w) (ctlLive w) (ctlBusy w),E3504b ba_3 e.W.A,E35fb1 e.W.A,E54ea0 a2_8_1r2 c2_8_1r2 e.W.A.ws,Ee1326 oa_9_1r2 oc_9_1r2 (freeL (l 0) (l 1) (c.n0+c.n1).toNat),E228b6 b_10_1r2 oa_9_1r2 ((freeL (l 0) (l 1) (c.n0+c.n1).toNat).length) oc_9_1r2 0 0 false,.res (RdR y_51 c 2 0 (ctlEpoch w) (newRd 2))] ?_)
      have hlf0:=lf_first hC o ⟨⟨f9,la9,wh9⟩,nx2⟩ dd hmm zz
      refine go_loop (ι := Lf) (fun zf=>[(5,.bool true),(6,vP x_2),(13,vP b_35),(14,vP b_10_1r2),(15,vI nb),(16,vP y_51),(17,vI zf.i)]) (fun zf=>[.raw 0 o_,.pts b_1 [vI q0,vI q1,vI q2] 22,.sl ka_5 kc_6 encP 0 1 ps_7 68,Ee1326 e.ma e.mc e.W.many,E35fb1 e.B,.res (KsR ps_7 e.W.ks c),.rd a c0 encLAct dLAct 2 xs bt r,Ed2706 x_2 c (vP ba_3) (vP rb_4) ka_5 ps_7.length kc_6 e.ma e.W.many.length e.mc e.W.now,E99bbc rb_4 B2 false 0,E35fb1 B2,E15a58 b_35 (ctlEpoch w) (ctlGen w) (ctlBlock w) (ctlLive w) (ctlBusy w),E54ea0 a2_8_1r2 c2_8_1r2 e.W.A.ws,Ee1326 oa_9_1r2 oc_9_1r2 (freeL (l 0) (l 1) (c.n0+c.n1).toNat),E228b6 b_10_1r2 oa_9_1r2 ((freeL (l 0) (l 1) (c.n0+c.n1).toNat).length) oc_9_1r2 0 0 false,.res (RdR y_51 c 2 0 (ctlEpoch w) zf.S),E3504b ba_3 zf.A,E35fb1 zf.A]) (fun zf=>LfOk c e.W e.W.A.steps zf) (fun zf=>(c.slots+12-zf.i).toNat) (⟨0,newRd 2,e.W.A⟩:Lf) [5,6,13,14,15,16,17] [0,1,2,3,4,5,6,7,8,9,10,13,14,15,16,11,12] kR kR kR kR hlf0 ?_
      intro zf J_52 hIJ_52 hJ_52
      have hzf:=hIJ_52
      have hzi:=hzf.i0
      have hzA:=hzf.arw
      have hzs:=hzA.2.2.2
      have hzk:=hzf.ok
      refine gX [.e 7,.n,.sp [176] [.e 7,.z q94_30 5 [5,6,13,14,15,16,17,179,183]] [.z q94_31 0 [5,6,13,14,15,16]]] (gQ x_2 (gO (InK .i64 (c.slots+12)) (by simp only [InK]; omega) (gB (decide (zf.i<(c.slots+12))) (fun h_53 => ?_) (fun h_53 => ?_))))
      ·replace h_53:=decT h_53
       refine gQ x_2 (gS [.o q94_30 5,.b 7,.c [1,1,0,0,1,0,1,1,1,1,1,1,1,1,1,1,1,1,1],.j J_52,.b 6,.c q94_29] ?_)
       refine gC (some 184) [0,14,15,16] Tryz.call20 (rd_Step o_ y_51 ba_3 c 2 0 (ctlEpoch w) zf.S zf.A hc hzA.1 (by omega) hzA.2.1 hzA.2.2.1 (by omega) hzf.ctl hzk ho) ?_
       refine gX [.n,.z [] 0 [5,6,13,14,15,16,17]] (gO (InK .i64 (zf.i+1)) (by simp only [InK]; omega) (gS [.j J_52,.b 6,.c q94_29] ?_))
       exact go_back hJ_52 (⟨zf.i+1,(zf.S.step c 2 0 (ctlEpoch w) zf.A).1,(zf.S.step c 2 0 (ctlEpoch w) zf.A).2⟩:Lf) [13,0,1,2,3,4,5,6,7,8,9,10,11,12,14,15,16] kR kR kR (by have h9:=lf_step hC (by rw [←hw]; exact hlv) hzf (by omega); rw [←hw] at h9; exact h9) (by dsimp only; omega)
      ·replace h_53:=decF h_53
       refine gW (ks:=[.o q94_31 0,.c q94_32]) [(5,.bool true),(6,vP x_2),(13,vP b_35),(14,vP b_10_1r2),(15,vI nb),(16,vP y_51)] [.raw 0 o_,.pts b_1 [vI q0,vI q1,vI q2] 22,.sl ka_5 kc_6 encP 0 1 ps_7 68,Ee1326 e.ma e.mc e.W.many,E35fb1 e.B,.res (KsR ps_7 e.W.ks c),.rd a c0 encLAct dLAct 2 xs bt r,Ed2706 x_2 c (vP ba_3) (vP rb_4) ka_5 ps_7.length kc_6 e.ma e.W.many.length e.mc e.W.now,E99bbc rb_4 B2 false 0,E35fb1 B2,E15a58 b_35 (ctlEpoch w) (ctlGen w) (ctlBlock w) (ctlLive w) (ctlBusy w),E54ea0 a2_8_1r2 c2_8_1r2 e.W.A.ws,Ee1326 oa_9_1r2 oc_9_1r2 (freeL (l 0) (l 1) (c.n0+c.n1).toNat),E228b6 b_10_1r2 oa_9_1r2 ((freeL (l 0) (l 1) (c.n0+c.n1).toNat).length) oc_9_1r2 0 0 false,.res (RdR y_51 c 2 0 (ctlEpoch w) zf.S),E3504b ba_3 zf.A,E35fb1 zf.A] ?_
       obtain⟨hz0,hfin⟩:=lf_last hC hzf (by omega)
       have hnw:(ctlBlock w>0→1≤e.W.now∧e.W.now≤e.W.many.length)∧(ctlBlock w=0→e.W.now=0):=⟨fun h=>(wh9.now (by rw [←hw]; omega)).i1,fun h=>wh9.no0 (by rw [←hw]; exact h)⟩
       have hbn:(decide (ctlBlock w>0)==decide (e.W.now>0))=true:=two_same (fun h=>by have:=hnw.1 h; omega) (fun h=>by have h8:=hnw.2; have h7:=hcr.1; by_cases h9:ctlBlock w=0; (have:=h8 h9; omega); omega)
       refine gX [.z q94_31 1 [5,6,13,14,15,16,186]] (gS [.o q94_31 1,.c q94_32] ?_)
       refine go_call (some 187) [14] Tryz.call11 (rd_Told y_51 c 2 0 (ctlEpoch w) zf.S hzk.ph hzk.wl) kR ?_
       rintro v post ⟨a2_54,c2_55,rfl,rfl⟩
       refine gX [.z q94_33 0 [5,6,13,14,15,16,18,19]] (gS [.c q94_33,.c [1,0,1,1,1,1,1,1,1,1,1,1,1,1,1,1,1],.c [1,1,1,1,1,1,1,1,1,1,1,1,1,1,1,1]] ?_)
       refine qG (kV 0 [.ww,.e 13,.ww,.ww,.ww,.e 13,.ww,.ww,.t false,.ww,.ww,.ww,.e 13,.ww,.e 10,.q (.bool (hasN (freeL (l 0) (l 1) (c.n0+c.n1).toNat) ((freeL (l 0) (l 1) (c.n0+c.n1).toNat).length) (ctlBlock w))),.t false,.ww,.ww,.q (.bool (zf.S.ph==0)),.t false,.ww,.ww,.ww,.e 10,.ww,.ww,.ww,.ww,.e 7,.ww,.t false,.ww]) [5,6,18,19,222] (.e b_10_1r2 (.e b_10_1r2 (.p (((((freeL (l 0) (l 1) (c.n0+c.n1).toNat).length:Nat):Int) != nb)=false) (bne_eq_false_iff_eq.2 hnb) (.e b_10_1r2 (.e b_35 (.p ((hasN (freeL (l 0) (l 1) (c.n0+c.n1).toNat) ((freeL (l 0) (l 1) (c.n0+c.n1).toNat).length) (ctlBlock w))=false) hfh (.p ((!(zf.S.ph==0))=false) (by rw [hz0]; rfl) (.e b_35 (.e x_2 (.p ((!((decide ((ctlBlock w)>0))==(decide (e.W.now>0))))=false) (by rw [hbn]; rfl) .n)))))))))) (.c Tryz.call38 (qR [12] (ref_Has oa_9_1r2 oc_9_1r2 oc_9_1r2 ((freeL (l 0) (l 1) (c.n0+c.n1).toNat).length) (freeL (l 0) (l 1) (c.n0+c.n1).toNat) (ctlBlock w) (Nat.le_refl _) (by omega))) (.c Tryz.call21 (qR [16] (rd_Done y_51 c 2 0 (ctlEpoch w) zf.S hzk.ph)) .n)) ?_
       refine gX [.e 7,.sp [227] [.z q94_34 3 [229,230]] [.z q94_35 0 [5,6,18,19]]] (gQ x_2 (gB (e.W.now==0) (fun h_56 => ?_) (fun h_56 => ?_)))
       ·replace h_56:=beqT h_56
        refine gS [.o q94_34 3,.c [1,0,1,0,1,1,1,1,1,1,1,1,1,1,1,1,1,1,1,1],.c [1,1,1,1,1,1,1,1,1,1,1,1,1,1,1,1,1]] ?_
        refine gC (some 231) [0] Tryz.call17 (cause_Top o_ ((Rd.told zf.S).2) ho) ?_
        exact gX [] (gI (.bool (((Rd.told zf.S).2)==20)) [17,5] ⟨(congrArg Value.bool (by have h9:=hfin.resolve_right (fun q=>by omega); rw [h9.2]; rfl)),rfl⟩)
       ·replace h_56:=beqF h_56
        refine gW (ks:=[.c q94_35,.c [1,0,1,1,1,1,1,1,1,1,1,1,1,1,1,1,1,1,1],.c [1,1,1,1,1,1,1,1,1,1,1,1,1,1,1,1,1,1]]) [(5,.bool true),(6,vP x_2),(18,.slice a2_54 ((Rd.told zf.S).1.length) c2_55),(19,(errV (Rd.told zf.S).2))] [.raw 0 o_,.pts b_1 [vI q0,vI q1,vI q2] 22,.sl ka_5 kc_6 encP 0 1 ps_7 68,Ee1326 e.ma e.mc e.W.many,E35fb1 e.B,.res (KsR ps_7 e.W.ks c),.rd a c0 encLAct dLAct 2 xs bt r,Ed2706 x_2 c (vP ba_3) (vP rb_4) ka_5 ps_7.length kc_6 e.ma e.W.many.length e.mc e.W.now,E99bbc rb_4 B2 false 0,E35fb1 B2,E15a58 b_35 (ctlEpoch w) (ctlGen w) (ctlBlock w) (ctlLive w) (ctlBusy w),E54ea0 a2_8_1r2 c2_8_1r2 e.W.A.ws,Ee1326 oa_9_1r2 oc_9_1r2 (freeL (l 0) (l 1) (c.n0+c.n1).toNat),E228b6 b_10_1r2 oa_9_1r2 ((freeL (l 0) (l 1) (c.n0+c.n1).toNat).length) oc_9_1r2 0 0 false,E3504b ba_3 zf.A,E35fb1 zf.A,.res (RdR y_51 c 2 0 (ctlEpoch w) zf.S),E54ea0 a2_54 c2_55 ((Rd.told zf.S).1)] ?_
        have hgd:=hfin.resolve_left (fun q=>absurd q.1 (by assumption))
        have hgn:=hgd.1
        have hlw:(Rd.told zf.S).1.length≤96:=by rw [(told_code hz0 hgd.2.1).2]; exact hzk.wl
        refine qG (kV 0 [.ww,.q (vI ((Rd.told zf.S).2)),.t false,.ww,.ww,.ww,.ww,.e 7,.ww,.ww,.ww,.e 7,.ww,.h (.n),.t false,.ww,.ww,.ww,.ww,.ww,.ww,.ww,.e 7,.ww,.ww,.ww,.e 7,.h (.n),.h (.s 3),.h (.j 3 ((e.W.now-1).toNat)),.t false,.ww]) [5,6,18,265] (.p ((((Rd.told zf.S).2) != 0)=false) (bne_eq_false_iff_eq.2 hgd.2.1) (.e x_2 (.e x_2 (.p (InK .u64 ((e.W.many.length:Nat):Int)) (by simp only [InK]; omega) (.p ((decide (e.W.now>((e.W.many.length:Nat):Int)))=false) (decide_eq_false (by omega)) (.e x_2 (.e x_2 (.p (InK .u64 (e.W.now-1)) (by simp only [InK]; omega) (.p (e.ma=e.ma∧e.W.many.length=e.W.many.length) ⟨rfl,(by first | rfl | omega | (simp; done) | (simp; omega))⟩ (.p ((0:Int)≤(e.W.now-1)∧(e.W.now-1)<((e.W.many.length:Nat):Int)) (by omega) (.e (slAt e.ma ((e.W.now-1).toNat) 1) (.p ((e.W.now-1).toNat<e.W.many.length) (by omega) (.p ((decide ((((Rd.told zf.S).1.length:Nat):Int)<(e.W.many.getD ((e.W.now-1).toNat) 0)))=false) (decide_eq_false (by have:=hgd.2.2.1; omega)) .n))))))))))))) (.c Tryz.call17 (qR [0] (cause_Top o_ ((Rd.told zf.S).2) ho)) .n) ?_
        refine gX [.z q94_36 0 [5,6,18,20]] (gS [.c q94_36,.b 8,.c q94_37] ?_)
        refine go_loop (ι := Int) (fun jj=>[(5,.bool true),(6,vP x_2),(18,.slice a2_54 ((Rd.told zf.S).1.length) c2_55),(20,vI jj)]) (fun jj=>[.raw 0 o_,.pts b_1 [vI q0,vI q1,vI q2] 22,.sl ka_5 kc_6 encP 0 1 ps_7 68,Ee1326 e.ma e.mc e.W.many,E35fb1 e.B,.res (KsR ps_7 e.W.ks c),.rd a c0 encLAct dLAct 2 xs bt r,Ed2706 x_2 c (vP ba_3) (vP rb_4) ka_5 ps_7.length kc_6 e.ma e.W.many.length e.mc e.W.now,E99bbc rb_4 B2 false 0,E35fb1 B2,E15a58 b_35 (ctlEpoch w) (ctlGen w) (ctlBlock w) (ctlLive w) (ctlBusy w),E54ea0 a2_8_1r2 c2_8_1r2 e.W.A.ws,Ee1326 oa_9_1r2 oc_9_1r2 (freeL (l 0) (l 1) (c.n0+c.n1).toNat),E228b6 b_10_1r2 oa_9_1r2 ((freeL (l 0) (l 1) (c.n0+c.n1).toNat).length) oc_9_1r2 0 0 false,E3504b ba_3 zf.A,E35fb1 zf.A,.res (RdR y_51 c 2 0 (ctlEpoch w) zf.S),E54ea0 a2_54 c2_55 ((Rd.told zf.S).1)]) (fun jj=>0≤jj) (fun jj=>((e.W.many.getD (e.W.now-1).toNat 0)-jj).toNat) 0 [5,6,18,20] [0,1,2,3,4,5,6,7,8,9,10,11,12,13,14,15,16,17] kR kR kR kR (by omega) ?_
        intro jj J_57 hIJ_57 hJ_57
        have hjj:=hIJ_57
        have hg3:=hgd.2.2.1
        refine gX [.z q94_38 0 [5,6,18,20]] (gS [.c q94_38,.c [1,0,0,0,1,0,1,1,1,1,1,1,1,1,1,1,1,1,1,1,1,1,1,1],.c [1,0,0,1,0,1,1,1,1,1,1,1,1,1,1,1,1,1,1,1,1,1,1],.j J_57,.b 8,.c q94_37] ?_)
        refine qG (kV 0 [.ww,.ww,.ww,.ww,.e 7,.ww,.ww,.ww,.e 7,.h (.n),.h (.s 3),.h (.j 3 ((e.W.now-1).toNat)),.ww]) [5,6,18,20,278] (.e x_2 (.e x_2 (.p (InK .u64 (e.W.now-1)) (by simp only [InK]; omega) (.p (e.ma=e.ma∧e.W.many.length=e.W.many.length) ⟨rfl,(by first | rfl | omega | (simp; done) | (simp; omega))⟩ (.p ((0:Int)≤(e.W.now-1)∧(e.W.now-1)<((e.W.many.length:Nat):Int)) (by omega) (.e (slAt e.ma ((e.W.now-1).toNat) 1) (.p ((e.W.now-1).toNat<e.W.many.length) (by omega) .n))))))) .n ?_
        refine gX [.sp [278] [.z q94_39 0 [5,6,18,20]] []] (gB (decide (jj<(e.W.many.getD ((e.W.now-1).toNat) 0))) (fun h_58 => ?_) (fun h_58 => ?_))
        ·replace h_58:=decT h_58
         refine gS [.c q94_39,.c [1,0,0,1,0,0,1,0,1,1,1,1,1,1,1,1,1,1,1,1,1,1,1,1,1,1],.b 9,.c [1,1,0,0,1,0,1,1,1,1,1,1,1,1,1,1,1,1,1,1,1,1,1,1],.j J_57,.b 8,.c q94_37] ?_
         refine qG (kV 0 [.ww,.ww,.h (.s 17),.h (.j 17 jj.toNat),.ww,.ww,.ww,.e 7,.t false]) [5,6,18,20,289] (.p (a2_54=a2_54∧(Rd.told zf.S).1.length=((Rd.told zf.S).1).length) ⟨rfl,(by first | rfl | omega | (simp; done) | (simp; omega))⟩ (.p ((0:Int)≤jj∧jj<((((Rd.told zf.S).1).length:Nat):Int)) (by omega) (.e (slAt a2_54 jj.toNat 1) (.p (jj.toNat<((Rd.told zf.S).1).length) (by omega) (.e x_2 (.p (((((Rd.told zf.S).1).getD jj.toNat 0) != e.W.now)=false) (bne_eq_false_iff_eq.2 (hgd.2.2.2 _ hjj (by assumption))) .n)))))) .n ?_
         refine gX [.n,.z [] 0 [5,6,18,20]] (gO (InK .i64 (jj+1)) (by simp only [InK]; omega) (gS [.j J_57,.b 8,.c q94_37] ?_))
         exact go_back hJ_57 (jj+1) [0,1,2,3,4,5,6,7,8,9,10,11,12,13,14,15,16,17] kR kR kR (by omega) (by omega)
        ·replace h_58:=decF h_58
         exact gJ [0,6] ⟨rfl,rfl⟩
     refine gX [.e 10,.sp [159] [.n,.z q94_26 0 [5,6,13,14,15]] [.z q94_26 0 [5,6,13,14,15]]] (gQ b_35 (gB (decide ((ctlBlock w)>0)) (fun h_59 => ?_) (fun h_59 => ?_)))
     ·replace h_59:=decT h_59
      refine gO (InK .i64 ((c.n0+c.n1)-1)) (by simp only [InK]; omega) (gS [.c q94_26,.c q94_27] ?_)
      exact go_weak [5,6,13,14,15] [0,1,2,3,4,5,6,7,8,9,10,11,12,13,14,15] kR (hj_50 ((c.n0+c.n1)-1) (by show _ = ((c.n0+c.n1)-1); rw [hfl]; first | rw [if_pos (by omega)] | rw [if_neg (by omega)]))
     ·replace h_59:=decF h_59
      refine gS [.c q94_26,.c q94_27] ?_
      exact go_weak [5,6,13,14,15] [0,1,2,3,4,5,6,7,8,9,10,11,12,13,14,15] kR (hj_50 (c.n0+c.n1) (by show _ = (c.n0+c.n1); rw [hfl]; first | rw [if_pos (by omega)] | rw [if_neg (by omega)]))
    have aS_45:∀(a2_8_1r2:Option Addr) (c2_8_1r2:Nat) (oa_9_1r2:Option Addr) (oc_9_1r2:Nat) (b_10_1r2:Nat),Lz Tryz.prog Tryz.f5 B5 291 F (RetR F (Ret (.bool true) [.raw 0 o_,.rd a c0 encLAct dLAct 2 xs bt r])) (regOps B5 q94_22) [.c q94_23] (mk 12 [0,1,2,3,4,5,6,7,8,9,10]) [] [(14,vP b_10_1r2),(151,.agg #[.slice oa_9_1r2 ((freeL (l 0) (l 1) (c.n0+c.n1).toNat).length) oc_9_1r2,vI 0,vI 0,.bool false]),(5,.bool true),(6,vP x_2),(13,vP b_35)] [.raw 0 o_,.pts b_1 [vI q0,vI q1,vI q2] 22,.sl ka_5 kc_6 encP 0 1 ps_7 68,Ee1326 e.ma e.mc e.W.many,E35fb1 e.B,.res (KsR ps_7 e.W.ks c),.rd a c0 encLAct dLAct 2 xs bt r,Ed2706 x_2 c (vP ba_3) (vP rb_4) ka_5 ps_7.length kc_6 e.ma e.W.many.length e.mc e.W.now,E99bbc rb_4 B2 false 0,E35fb1 B2,E15a58 b_35 (ctlEpoch w) (ctlGen w) (ctlBlock w) (ctlLive w) (ctlBusy w),E3504b ba_3 e.W.A,E35fb1 e.W.A,E54ea0 a2_8_1r2 c2_8_1r2 e.W.A.ws,Ee1326 oa_9_1r2 oc_9_1r2 (freeL (l 0) (l 1) (c.n0+c.n1).toNat),E4fdb9 b_10_1r2 0 0 false]:=by
     intro a2_8_1r2 c2_8_1r2 oa_9_1r2 oc_9_1r2 b_10_1r2
     refine zN [] [] [14,151,5,6,13] [11] .n ⟨?_,trivial⟩
     refine zX (.e 15) (sQ b_10_1r2 (sK ?_))
     exact zW [14,5,6,13] [0,1,2,3,4,5,6,7,8,9,10,11,12,13,14,15] (aS_44 a2_8_1r2 c2_8_1r2 oa_9_1r2 oc_9_1r2 b_10_1r2)
    have aS_46:∀(a2_8_1r2:Option Addr) (c2_8_1r2:Nat) (oa_9_1r2:Option Addr) (oc_9_1r2:Nat),Lz Tryz.prog Tryz.f5 B5 291 F (RetR F (Ret (.bool true) [.raw 0 o_,.rd a c0 encLAct dLAct 2 xs bt r])) (regOps B5 q94_22) [.c q94_23] (mk 12 [0,1,2,3,4,5,6,7,8,9]) [] [(151,.agg #[.slice oa_9_1r2 ((freeL (l 0) (l 1) (c.n0+c.n1).toNat).length) oc_9_1r2,vI 0,vI 0,.bool false]),(5,.bool true),(6,vP x_2),(13,vP b_35)] [.raw 0 o_,.pts b_1 [vI q0,vI q1,vI q2] 22,.sl ka_5 kc_6 encP 0 1 ps_7 68,Ee1326 e.ma e.mc e.W.many,E35fb1 e.B,.res (KsR ps_7 e.W.ks c),.rd a c0 encLAct dLAct 2 xs bt r,Ed2706 x_2 c (vP ba_3) (vP rb_4) ka_5 ps_7.length kc_6 e.ma e.W.many.length e.mc e.W.now,E99bbc rb_4 B2 false 0,E35fb1 B2,E15a58 b_35 (ctlEpoch w) (ctlGen w) (ctlBlock w) (ctlLive w) (ctlBusy w),E3504b ba_3 e.W.A,E35fb1 e.W.A,E54ea0 a2_8_1r2 c2_8_1r2 e.W.A.ws,Ee1326 oa_9_1r2 oc_9_1r2 (freeL (l 0) (l 1) (c.n0+c.n1).toNat)]:=by
     intro a2_8_1r2 c2_8_1r2 oa_9_1r2 oc_9_1r2
     refine zN [] [] [151,5,6,13] [10] .n ⟨?_,trivial⟩
     refine zX .w (sN fun b_10_1r2=>(sV ?_))
     exact zW [14,151,5,6,13] [0,1,2,3,4,5,6,7,8,9,10,11,12,13,14,15] (aS_45 a2_8_1r2 c2_8_1r2 oa_9_1r2 oc_9_1r2 b_10_1r2)
    have aS_47:∀(a2_8_1r2:Option Addr) (c2_8_1r2:Nat) (b_10_1r2:Nat),Lz Tryz.prog Tryz.f5 B5 291 F (RetR F (Ret (.bool true) [.raw 0 o_,.rd a c0 encLAct dLAct 2 xs bt r])) (regOps B5 q94_22) [.c q94_23] (mk 12 [0,1,2,3,4,5,6,7,8,10]) [0,1,2,3] [(14,vP b_10_1r2),(150,.slice a2_8_1r2 e.W.A.ws.length c2_8_1r2),(5,.bool true),(6,vP x_2),(13,vP b_35),(142,vP x_2),(143,vP x_2),(144,vP x_2),(145,cfgV c)] [.raw 0 o_,.pts b_1 [vI q0,vI q1,vI q2] 22,.sl ka_5 kc_6 encP 0 1 ps_7 68,Ee1326 e.ma e.mc e.W.many,E35fb1 e.B,.res (KsR ps_7 e.W.ks c),.rd a c0 encLAct dLAct 2 xs bt r,Ed2706 x_2 c (vP ba_3) (vP rb_4) ka_5 ps_7.length kc_6 e.ma e.W.many.length e.mc e.W.now,E99bbc rb_4 B2 false 0,E35fb1 B2,E15a58 b_35 (ctlEpoch w) (ctlGen w) (ctlBlock w) (ctlLive w) (ctlBusy w),E3504b ba_3 e.W.A,E35fb1 e.W.A,E54ea0 a2_8_1r2 c2_8_1r2 e.W.A.ws,E4fdb9 b_10_1r2 0 0 false]:=by
     intro a2_8_1r2 c2_8_1r2 b_10_1r2
     refine zN [] (kV 0 [.w,.w,.w,.e 7]) [14,150,5,6,13,142,143,144,145] [9] (.e x_2 .n) ⟨?_,trivial⟩
     refine zC (some 151) [13] Tryz.call36 (ref_Free c a2_8_1r2 c2_8_1r2 e.W.A.ws (l 0) (l 1) hc (by omega) o.arw.2.2.1 hch0 hch1 hfa.1 hfa.2) ?_
     rintro v post ⟨oa_9_1r2,oc_9_1r2,rfl,rfl⟩
     exact zW [14,151,5,6,13] [0,1,2,3,4,5,6,7,8,9,10,11,12,14,15,13] (aS_45 a2_8_1r2 c2_8_1r2 oa_9_1r2 oc_9_1r2 b_10_1r2)
    have aS_48:∀(a2_8_1r2:Option Addr) (c2_8_1r2:Nat),Lz Tryz.prog Tryz.f5 B5 291 F (RetR F (Ret (.bool true) [.raw 0 o_,.rd a c0 encLAct dLAct 2 xs bt r])) (regOps B5 q94_22) [.c q94_23] (mk 12 [0,1,2,3,4,5,6,7,8]) [0,1,2,3] [(150,.slice a2_8_1r2 e.W.A.ws.length c2_8_1r2),(5,.bool true),(6,vP x_2),(13,vP b_35),(142,vP x_2),(143,vP x_2),(144,vP x_2),(145,cfgV c)] [.raw 0 o_,.pts b_1 [vI q0,vI q1,vI q2] 22,.sl ka_5 kc_6 encP 0 1 ps_7 68,Ee1326 e.ma e.mc e.W.many,E35fb1 e.B,.res (KsR ps_7 e.W.ks c),.rd a c0 encLAct dLAct 2 xs bt r,Ed2706 x_2 c (vP ba_3) (vP rb_4) ka_5 ps_7.length kc_6 e.ma e.W.many.length e.mc e.W.now,E99bbc rb_4 B2 false 0,E35fb1 B2,E15a58 b_35 (ctlEpoch w) (ctlGen w) (ctlBlock w) (ctlLive w) (ctlBusy w),E3504b ba_3 e.W.A,E35fb1 e.W.A,E54ea0 a2_8_1r2 c2_8_1r2 e.W.A.ws]:=by
     intro a2_8_1r2 c2_8_1r2
     refine zN [] (kV 0 [.w,.w,.w,.e 7]) [150,5,6,13,142,143,144,145] [9,10] (.e x_2 .n) ⟨?_, ?_,trivial⟩
     ·refine zC (some 151) [13] Tryz.call36 (ref_Free c a2_8_1r2 c2_8_1r2 e.W.A.ws (l 0) (l 1) hc (by omega) o.arw.2.2.1 hch0 hch1 hfa.1 hfa.2) ?_
      rintro v post ⟨oa_9_1r2,oc_9_1r2,rfl,rfl⟩
      exact zW [151,5,6,13] [0,1,2,3,4,5,6,7,8,9,10,11,12,13,14] (aS_46 a2_8_1r2 c2_8_1r2 oa_9_1r2 oc_9_1r2)
     ·refine zX .w (sN fun b_10_1r2=>(sV ?_))
      exact zW [14,150,5,6,13,142,143,144,145] [0,1,2,3,4,5,6,7,8,9,10,11,12,13,14] (aS_47 a2_8_1r2 c2_8_1r2 b_10_1r2)
    have aS_49:∀(b_10_1r2:Nat),Lz Tryz.prog Tryz.f5 B5 291 F (RetR F (Ret (.bool true) [.raw 0 o_,.rd a c0 encLAct dLAct 2 xs bt r])) (regOps B5 q94_22) [.c q94_23] (mk 12 [0,1,2,3,4,5,6,7,10]) [0,1,2,3,4,5,6,7] [(14,vP b_10_1r2),(5,.bool true),(6,vP x_2),(13,vP b_35),(142,vP x_2),(143,vP x_2),(144,vP x_2),(145,cfgV c),(146,vP x_2),(147,vP x_2),(148,.pointer (some ⟨x_2,9,none⟩)),(149,vP ba_3)] [.raw 0 o_,.pts b_1 [vI q0,vI q1,vI q2] 22,.sl ka_5 kc_6 encP 0 1 ps_7 68,Ee1326 e.ma e.mc e.W.many,E35fb1 e.B,.res (KsR ps_7 e.W.ks c),.rd a c0 encLAct dLAct 2 xs bt r,E3504b ba_3 e.W.A,E35fb1 e.W.A,Ed2706 x_2 c (vP ba_3) (vP rb_4) ka_5 ps_7.length kc_6 e.ma e.W.many.length e.mc e.W.now,E99bbc rb_4 B2 false 0,E35fb1 B2,E15a58 b_35 (ctlEpoch w) (ctlGen w) (ctlBlock w) (ctlLive w) (ctlBusy w),E4fdb9 b_10_1r2 0 0 false]:=by
     intro b_10_1r2
     refine zN [] (kV 0 [.w,.w,.w,.e 9,.w,.w,.w,.e 9]) [14,5,6,13,142,143,144,145,146,147,148,149] [8] (.e x_2 (.e x_2 .n)) ⟨?_,trivial⟩
     refine zC (some 150) [7,8] Tryz.call30 (arena_Words ba_3 e.W.A (by first | exact o3a | exact oa) (by omega)) ?_
     rintro v post ⟨a2_8_1r2,c2_8_1r2,rfl,rfl⟩
     exact zW [14,150,5,6,13,142,143,144,145] [0,1,2,3,4,5,6,7,8,9,10,12,13,14,11] (aS_47 a2_8_1r2 c2_8_1r2 b_10_1r2)
    refine zN [0,1,2,3,4,5,6,7] (kV 0 [.w,.w,.w,.e 9,.w,.w,.w,.e 9]) [5,6,13,142,143,144,145,146,147,148,149] [8,10] (.e x_2 (.e x_2 .n)) ⟨?_, ?_,trivial⟩
    ·refine zC (some 150) [7,8] Tryz.call30 (arena_Words ba_3 e.W.A (by first | exact o3a | exact oa) (by omega)) ?_
     rintro v post ⟨a2_8_1r2,c2_8_1r2,rfl,rfl⟩
     exact zW [150,5,6,13,142,143,144,145] [0,1,2,3,4,5,6,7,8,9,10,11,12,13] (aS_48 a2_8_1r2 c2_8_1r2)
    ·refine zX .w (sN fun b_10_1r2=>(sV ?_))
     exact zW [14,5,6,13,142,143,144,145,146,147,148,149] [0,1,2,3,4,5,6,7,8,9,10,11,12,13] (aS_49 b_10_1r2)
 refine gX [.sp [30,29] [.sp [33,32] [.s 10,.j 10 p.i.toNat,.z q94_40 5 [1,5,6,7,36,40]] [.z q94_2 0 [5,6]]] [.z q94_2 0 [5,6]]] (gQ (decide (p.i<((xs.length:Nat):Int))) (gB (decide (p.i<((xs.length:Nat):Int))) (fun h_68 => ?_) (fun h_68 => ?_)))
 ·replace h_68:=decT h_68
  refine gQ (decide (p.i<200)) (gB (decide (p.i<200)) (fun h_69 => ?_) (fun h_69 => ?_))
  ·replace h_69:=decT h_69
   refine gO (a=a∧xs.length=xs.length) ⟨rfl,(by first | rfl | omega | (simp; done) | (simp; omega))⟩ (gO ((0:Int)≤p.i∧p.i<((xs.length:Nat):Int)) (by omega) (gQ (slAt a p.i.toNat 2) (gO (p.i.toNat<xs.length) (by omega) (gS [.o q94_40 5,.c [1,0,0,1,0,0,1,0,1,1,1,1],.b 1,.c q94_41,.j J_13,.b 0,.c [1,1,1,1,1]] ?_))))
   refine gC (some 41) [2,3,5,6,7,8,9] Tryz.call27 (W_who c x_2 ba_3 rb_4 ka_5 p.ma kc_6 p.mc ps_7 p.W p.B ((xs.getD p.i.toNat dLAct).wh) ((xs.getD p.i.toNat dLAct).n) hc ⟨_,hp.1,by omega⟩ hps) ?_
   refine gX [.z q94_42 0 [1,5,6,7,8]] (gW (ks:=[.o q94_42 0,.c [1,1,0,0,1,0,0,1,0,1,1,1,1],.b 1,.c q94_41,.j J_13,.b 0,.c [1,1,1,1,1]]) [(1,.slice a xs.length c0),(5,.bool true),(6,vP x_2),(7,vI p.i),(8,vI (p.W.at_ c ((xs.getD p.i.toNat dLAct).wh) ((xs.getD p.i.toNat dLAct).n)))] [.raw 0 o_,.pts b_1 [vI q0,vI q1,vI q2] 22,Ee1326 p.ma p.mc p.W.many,.rd a c0 encLAct dLAct 2 xs bt r,Ed2706 x_2 c (vP ba_3) (vP rb_4) ka_5 ps_7.length kc_6 p.ma ((p.W.who c ((xs.getD p.i.toNat dLAct).wh) ((xs.getD p.i.toNat dLAct).n)).many.length) p.mc ((p.W.who c ((xs.getD p.i.toNat dLAct).wh) ((xs.getD p.i.toNat dLAct).n)).now),.sl ka_5 kc_6 encP 0 1 ps_7 68,E3504b ba_3 ((p.W.who c ((xs.getD p.i.toNat dLAct).wh) ((xs.getD p.i.toNat dLAct).n)).A),E35fb1 ((p.W.who c ((xs.getD p.i.toNat dLAct).wh) ((xs.getD p.i.toNat dLAct).n)).A),E99bbc rb_4 (p.W.whoB c p.B ((xs.getD p.i.toNat dLAct).wh) ((xs.getD p.i.toNat dLAct).n)) false 0,E35fb1 (p.W.whoB c p.B ((xs.getD p.i.toNat dLAct).wh) ((xs.getD p.i.toNat dLAct).n)),.res (KsR ps_7 ((p.W.who c ((xs.getD p.i.toNat dLAct).wh) ((xs.getD p.i.toNat dLAct).n)).ks) c)] ?_)
   have hj_70:∀z:Lt,LnOk c z∧z.i=p.i+1→Go Tryz.prog Tryz.f5 B5 291 F (RetR F (Ret (.bool true) [.raw 0 o_,.rd a c0 encLAct dLAct 2 xs bt r])) [.o q94_41 0,.j J_13,.b 0,.c [1,1,1,1,1]] [(1,.slice a xs.length c0),(5,.bool true),(6,vP x_2),(7,vI p.i)] [.raw 0 o_,.pts b_1 [vI q0,vI q1,vI q2] 22,Ed2706 x_2 c (vP ba_3) (vP rb_4) ka_5 ps_7.length kc_6 z.ma z.W.many.length z.mc z.W.now,.sl ka_5 kc_6 encP 0 1 ps_7 68,Ee1326 z.ma z.mc z.W.many,E3504b ba_3 z.W.A,E35fb1 z.W.A,E99bbc rb_4 z.B false 0,E35fb1 z.B,.res (KsR ps_7 z.W.ks c),.rd a c0 encLAct dLAct 2 xs bt r]:=by
    intro z hz
    have hzz:=hz
    refine gX [.n,.z [] 0 [1,5,6,7]] (gO (InK .i64 (p.i+1)) (by simp only [InK]; omega) (gS [.j J_13,.b 0,.c [1,1,1,1,1]] ?_))
    exact go_back hJ_13 ((⟨p.i+1,z.W,z.B,z.ma,z.mc⟩:Lt)) [0,1,2,3,4,5,6,7,8,9,10] kR kR kR ⟨(by rw [←hzz.2]; exact hzz.1),(by dsimp only; omega)⟩ (by dsimp only; omega)
   refine gX [.sp [43] [.z q94_43 0 [1,5,6,7,8]] [.z q94_41 0 [1,5,6,7]]] (gB (decide ((p.W.at_ c ((xs.getD p.i.toNat dLAct).wh) ((xs.getD p.i.toNat dLAct).n))≥0)) (fun h_71 => ?_) (fun h_71 => ?_))
   ·replace h_71:=decT h_71
    refine gW (ks:=[.o q94_43 0,.c q94_44,.b 1,.c q94_41,.j J_13,.b 0,.c [1,1,1,1,1]]) [(1,.slice a xs.length c0),(5,.bool true),(6,vP x_2),(7,vI p.i),(8,vI (p.W.at_ c ((xs.getD p.i.toNat dLAct).wh) ((xs.getD p.i.toNat dLAct).n)))] [.raw 0 o_,.pts b_1 [vI q0,vI q1,vI q2] 22,Ee1326 p.ma p.mc p.W.many,.rd a c0 encLAct dLAct 2 xs bt r,Ed2706 x_2 c (vP ba_3) (vP rb_4) ka_5 ps_7.length kc_6 p.ma ((p.W.who c ((xs.getD p.i.toNat dLAct).wh) ((xs.getD p.i.toNat dLAct).n)).many.length) p.mc ((p.W.who c ((xs.getD p.i.toNat dLAct).wh) ((xs.getD p.i.toNat dLAct).n)).now),.sl ka_5 kc_6 encP 0 1 ps_7 68,E3504b ba_3 ((p.W.who c ((xs.getD p.i.toNat dLAct).wh) ((xs.getD p.i.toNat dLAct).n)).A),E35fb1 ((p.W.who c ((xs.getD p.i.toNat dLAct).wh) ((xs.getD p.i.toNat dLAct).n)).A),E99bbc rb_4 (p.W.whoB c p.B ((xs.getD p.i.toNat dLAct).wh) ((xs.getD p.i.toNat dLAct).n)) false 0,E35fb1 (p.W.whoB c p.B ((xs.getD p.i.toNat dLAct).wh) ((xs.getD p.i.toNat dLAct).n)),.res (KsR ps_7 ((p.W.who c ((xs.getD p.i.toNat dLAct).wh) ((xs.getD p.i.toNat dLAct).n)).ks) c)] ?_
    have hat:0≤(p.W.at_ c (xs.getD p.i.toNat dLAct).wh (xs.getD p.i.toNat dLAct).n)∧(p.W.at_ c (xs.getD p.i.toNat dLAct).wh (xs.getD p.i.toNat dLAct).n)<4:=by have:=at_rng (c:=c) (W:=p.W) (wh:=(xs.getD p.i.toNat dLAct).wh) (n:=(xs.getD p.i.toNat dLAct).n); omega
    have s1:=hp.1.who hc (by omega) (xs.getD p.i.toNat dLAct).wh (xs.getD p.i.toNat dLAct).n
    have s2:=s1.begin hC (by omega) hat (xs.getD p.i.toNat dLAct).n
    obtain⟨l3,o2⟩:=s2.own
    obtain⟨l4,o3⟩:=o2.step hc (by omega) hat
    have o3a:=o3.arw.1
    have o3b:=o3.arw.2.1
    have hsz:=sizeOfC_ok hc
    generalize ekk:(p.W.at_ c ((xs.getD p.i.toNat dLAct).wh) ((xs.getD p.i.toNat dLAct).n))=kk at *
    generalize eW1:(p.W.who c ((xs.getD p.i.toNat dLAct).wh) ((xs.getD p.i.toNat dLAct).n))=W1 at *
    generalize eB1:(p.W.whoB c p.B ((xs.getD p.i.toNat dLAct).wh) ((xs.getD p.i.toNat dLAct).n))=B1 at *
    refine gX [.s 3,.z q94_43 6 [1,5,6,7,8,44,45,49]] (gO (a=a∧xs.length=xs.length) ⟨rfl,(by first | rfl | omega | (simp; done) | (simp; omega))⟩ (gO ((0:Int)≤p.i∧p.i<((xs.length:Nat):Int)) (by omega) (gS [.o q94_43 6,.c q94_44,.b 1,.c q94_41,.j J_13,.b 0,.c [1,1,1,1,1]] ?_)))
    refine go_by (some 50) (ldO Tryz.prog _) (some (.pointer (some ((slAd a p.i.toNat 2).add 1)),false,1)) (R_ldF 3 (a:=a) (c:=c0) (enc:=encLAct) (d:=dLAct) (sz:=2) (xs:=xs) (te:=bt) (r:=r) kR p.i.toNat 1 false 1 [vI ((xs.getD p.i.toNat dLAct).n)] (by rfl) (by rfl) (by decide) (by omega)) kR ?_
    rintro v L2 ⟨rfl,rfl⟩
    refine go_call (some 51) [4,5,2,8,9,10] Tryz.call28 (W_begin c x_2 ba_3 rb_4 ka_5 p.ma kc_6 p.mc ps_7 W1 B1 kk ((xs.getD p.i.toNat dLAct).n) hC (by first | exact⟨_,s1,by omega⟩ | exact⟨_,hp.1,by omega⟩) hat hps) kR ?_
    rintro v post ⟨ma2_72,mc2_73,rfl,rfl⟩
    refine gX [.z q94_45 0 [1,5,6,7,8]] (gS [.o q94_45 0,.c q94_46,.b 1,.c q94_41,.j J_13,.b 0,.c [1,1,1,1,1]] ?_)
    refine gE [(1,.slice a xs.length c0),(5,.bool true),(6,vP x_2),(7,vI p.i),(8,vI kk)] [.raw 0 o_,.pts b_1 [vI q0,vI q1,vI q2] 22,.rd a c0 encLAct dLAct 2 xs bt r,E3504b ba_3 ((W1.begin c kk ((xs.getD p.i.toNat dLAct).n)).A),E35fb1 ((W1.begin c kk ((xs.getD p.i.toNat dLAct).n)).A),Ed2706 x_2 c (vP ba_3) (vP rb_4) ka_5 ps_7.length kc_6 ma2_72 ((W1.begin c kk ((xs.getD p.i.toNat dLAct).n)).many.length) mc2_73 ((W1.begin c kk ((xs.getD p.i.toNat dLAct).n)).now),.sl ka_5 kc_6 encP 0 1 ps_7 68,Ee1326 ma2_72 mc2_73 ((W1.begin c kk ((xs.getD p.i.toNat dLAct).n)).many),E99bbc rb_4 B1 false 0,E35fb1 B1,.res (KsR ps_7 ((W1.begin c kk ((xs.getD p.i.toNat dLAct).n)).ks) c)] ?_
    generalize eW2:(W1.begin c kk ((xs.getD p.i.toNat dLAct).n))=W2 at *
    refine gX [.z q94_45 2 [1,5,6,7,52,53]] (gS [.o q94_45 2,.c q94_46,.b 1,.c q94_41,.j J_13,.b 0,.c [1,1,1,1,1]] ?_)
    refine go_call (some 54) [0,5,6,3,4,10] Tryz.call29 (W_step o_ c x_2 ba_3 rb_4 ka_5 ma2_72 kc_6 mc2_73 ps_7 W2 kk ho hc (by first | exact⟨_,_,o2,by omega⟩ | exact⟨_,_,ob,by omega⟩ | exact⟨_,_,og,by omega⟩ | exact⟨_,_,oe,by omega⟩) hat hps) kR ?_
    rintro v post ⟨a2_74,c2_75,rfl,rfl⟩
    refine gX [.z q94_46 0 [1,5,6,7]] (gW (ks:=[.c q94_46,.b 1,.c q94_41,.j J_13,.b 0,.c [1,1,1,1,1]]) [(1,.slice a xs.length c0),(5,.bool true),(6,vP x_2),(7,vI p.i)] [.pts b_1 [vI q0,vI q1,vI q2] 22,.rd a c0 encLAct dLAct 2 xs bt r,Ee1326 ma2_72 mc2_73 W2.many,E99bbc rb_4 B1 false 0,E35fb1 B1,.raw 0 o_,Ed2706 x_2 c (vP ba_3) (vP rb_4) ka_5 ps_7.length kc_6 ma2_72 ((W2.step c kk).many.length) mc2_73 ((W2.step c kk).now),.sl ka_5 kc_6 encP 0 1 ps_7 68,E3504b ba_3 ((W2.step c kk).A),E35fb1 ((W2.step c kk).A),.res (KsR ps_7 ((W2.step c kk).ks) c),E54ea0 a2_74 c2_75 ((W2.told c kk).l)] ?_)
    generalize eW3:(W2.step c kk)=W3 at *
    refine zG ?_
    refine zN [0,1,2,3,4,5,6,7] (kV 0 [.w,.w,.w,.e 6,.w,.w,.w,.e 6]) [1,5,6,7,55,56,57,58,59,60,61,62] [8] (.e x_2 (.e x_2 .n)) ⟨?_,trivial⟩
    refine zC (some 63) [8,9] Tryz.call30 (arena_Words ba_3 W3.A (by first | exact o3a | exact oa) (by omega)) ?_
    rintro v post ⟨a2_8_1r3,c2_8_1r3,rfl,rfl⟩
    refine zN [9,10] (kV 0 [.w,.w,.w,.e 6]++kV 9 [.w,.w]) [63,1,5,6,7,55,56,57,58,64,65] [11] (.e x_2 .n) ⟨?_,trivial⟩
    refine zX (.e 3) (sQ rb_4 (sK ?_))
    refine zE [] [] [1,5,6,7] .n ?_
    refine gX [.z q94_41 0 [1,5,6,7]] (gS [.o q94_41 0,.j J_13,.b 0,.c [1,1,1,1,1]] ?_)
    exact go_weak [1,5,6,7] [5,0,6,7,2,10,11,3,12,8,1] kR (hj_70 (⟨p.i+1,W3,(⟨a2_8_1r3,c2_8_1r3,W3.A.ws.length,W3.A.ws,B1.steps,B1.lk,B1.lw,B1.lv,B1.lc⟩:Ar),ma2_72,mc2_73⟩:Lt) ⟨(ln_turn hC hpn (by omega) hat eW1 eB1 eW2 eW3 _ _ o3a _ _ _ _ _ _),rfl⟩)
   ·replace h_71:=decF h_71
    refine gS [.o q94_41 0,.j J_13,.b 0,.c [1,1,1,1,1]] ?_
    exact go_weak [1,5,6,7] [0,1,4,5,2,6,7,8,9,10,3] kR (hj_70 (⟨p.i+1,(p.W.who c ((xs.getD p.i.toNat dLAct).wh) ((xs.getD p.i.toNat dLAct).n)),(p.W.whoB c p.B ((xs.getD p.i.toNat dLAct).wh) ((xs.getD p.i.toNat dLAct).n)),p.ma,p.mc⟩:Lt) ⟨(ln_who hC hpn (by omega) (xs.getD p.i.toNat dLAct).wh (xs.getD p.i.toNat dLAct).n _ _),rfl⟩)
  ·replace h_69:=decF h_69
   refine gS [.o q94_2 0,.c q94_3,.c [1,1,1,1,1,1]] ?_
   exact go_weak [5,6] [0,1,2,3,4,5,6,7,8,9,10] kR (hj_14 () trivial)
 ·replace h_68:=decF h_68
  refine gS [.o q94_2 0,.c q94_3,.c [1,1,1,1,1,1]] ?_
  exact go_weak [5,6] [0,1,2,3,4,5,6,7,8,9,10] kR (hj_14 () trivial)
end Go.Proofs.YtpcaijopodhdgaaGreatDoor

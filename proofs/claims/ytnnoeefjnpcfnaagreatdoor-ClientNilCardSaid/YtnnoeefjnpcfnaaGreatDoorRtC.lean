/- Walks: what functions of the program and of the document compute, part 3 of those on which ClientNil rests. -/
import Derived.Test.YtnnoeefjnpcfnaaGreatDoorRtB

set_option linter.unusedVariables false
set_option linter.unusedSimpArgs false
/- A client's step, as one thing: it reads a small topic. -/
set_option linter.unusedSimpArgs false
set_option maxRecDepth 100000
namespace Go.Proofs.YtnnoeefjnpcfnaaGreatDoor
open Go.Sx
theorem buf_ok{c:Cfg}(hc:c.Ok){i g j:Int}(hi:0≤i∧i<c.topics)(hg:g=0∨g=1)(hj:0≤j∧j<c.small): 5≤bufAt c i g∧bufAt c i g≤4000∧bufAt c i g+j<sizeOfC c:=by
 have h1:=ctlAt_ok hc hi
 have hs:=sizeOfC_ok hc
 have hn:=ctl_val hi
 have hm:(i+1)*(1+2*c.small)≤c.topics*(1+2*c.small):=Int.mul_le_mul_of_nonneg_right (by omega) (by simp only [Cfg.Ok] at hc; omega)
 have he:(i+1)*(1+2*c.small)=i*(1+2*c.small)+(1+2*c.small):=by rw [Int.add_mul,Int.one_mul]
 have hp1:0≤c.n0*(1+c.s0):=Int.mul_nonneg (by simp only [Cfg.Ok] at hc; omega) (by simp only [Cfg.Ok] at hc; omega)
 have hp2:0≤c.n1*(1+c.s1):=Int.mul_nonneg (by simp only [Cfg.Ok] at hc; omega) (by simp only [Cfg.Ok] at hc; omega)
 have hne:¬ctlAt c i = -1:=by simp only [Cfg.Ok] at hc; omega
 simp only [Cfg.Ok] at hc
 have hz:sizeOfC c=5+c.slots+c.topics+c.topics*(1+2*c.small)+c.n0*(1+c.s0)+c.n1*(1+c.s1):=rfl
 rcases hg with rfl | rfl
 ·have hb:bufAt c i 0=ctlAt c i+1+0*c.small:=by unfold bufAt; rw [if_pos (by omega),if_neg hne]
  omega
 ·have hb:bufAt c i 1=ctlAt c i+1+1*c.small:=by unfold bufAt; rw [if_pos (by omega),if_neg hne]
  omega
theorem dens_nil1{L:List Ent}{f:Ft}(h:dens L f): dens (L++[.sl none 0 (encI .i64) 0 1 [] 3]) f:=
 dens_append.2 ⟨f,[],by simp,h,[],[],rfl,⟨sizedI _,.inl ⟨rfl,rfl,rfl,rfl⟩⟩,rfl⟩
/-- it has ended, and tells words -/
theorem cls_Y{c:Cfg}{k:Ck}{v:Value}{r:Nat}(hk:k.part = .idle)(h8:k.res.ks=[]): Cls c k (clY r c k v):=by
 intro h
 refine⟨clI c k v,fun x=>bif Nat.beq x 8 then⟨0,none,0⟩ else h (tb [(7,r)] x), ?_,rfl, ?_⟩
 ·simp only [Frm,hk]; exact⟨v,rfl⟩
 ·intro u f hf
  have:=dens_nil1 hf
  simp only [clI,clS,clW,w7,w8,h8]
  exact this
structure SrOk (c:Cfg) (k:Ck) (R:Sr):Prop where
 ph:R.t.ph=1∨R.t.ph=3∨R.t.ph=4
 nu:0≤R.t.number∧R.t.number<c.topics
 failed:0≤R.t.failed∧R.t.failed<c.retry
 err:R.t.err=0
 seen:R.t.ph=3∨R.t.ph=4→U64 R.t.seen
 ws:R.t.ph=3→(R.ws.length:Int)<c.small
 ws4:R.t.ph=4→(R.ws.length:Int)≤c.small
 key:startC c k.key≠-1
theorem ck_sread{c:Cfg}{sk:Int}{k:Ck}{A A':Ar}{S S':Sr}(hk:k.part = .sread S)(h:S.step c A=(S' ,A'))(hp:S'.t.ph≠0): k.step c sk A=({k with part:=.sread S'},A'):=by
 simp only [Ck.step,hk,h]; rw [if_neg hp]
theorem ck_sreadE{c:Cfg}{sk:Int}{k:Ck}{A A':Ar}{S S':Sr}(hk:k.part = .sread S)(h:S.step c A=(S' ,A'))(hp:S'.t.ph=0)(h1:S'.t.err≠22)(h2:S'.t.err≠0): k.step c sk A=(k.code S'.t.err S'.t.time,A'):=by
 simp only [Ck.step,hk,h]; rw [if_pos hp,if_neg h1,if_neg h2]
theorem ck_sread0{c:Cfg}{sk:Int}{k:Ck}{A A':Ar}{S S':Sr}(hk:k.part = .sread S)(h:S.step c A=(S' ,A'))(hp:S'.t.ph=0)(h2:S'.t.err=0): k.step c sk A=(k.fin ⟨0,S'.ws,[],0,S'.t.time⟩,A'):=by
 simp only [Ck.step,hk,h]; rw [if_pos hp,if_neg (by rw [h2]; decide),if_pos h2]
theorem ck_sreadG{c:Cfg}{sk:Int}{k:Ck}{A A':Ar}{S S':Sr}(hk:k.part = .sread S)(h:S.step c A=(S' ,A'))(hp:S'.t.ph=0)(h1:S'.t.err=22): k.step c sk A=(k.gone c,A'):=by
 simp only [Ck.step,hk,h]; rw [if_pos hp,if_pos h1]
theorem gone_again{c:Cfg}{k:Ck}(h:k.failed+1≠c.retry): k.gone c = {k with failed:=k.failed+1,part:=.find (newFnd k.key)}:=by
 unfold Ck.gone; rw [if_neg h]; rfl
theorem gone_over{c:Cfg}{k:Ck}(h:k.failed+1=c.retry): k.gone c=({k with failed:=k.failed+1}:Ck).code 17 0:=by
 unfold Ck.gone; rw [if_pos h]
theorem gen2(w:Int): (ctlGen w).tmod 2=ctlGen w % 2:=Int.tmod_eq_emod_of_nonneg (by unfold ctlGen; omega)
theorem st_sread{c:Cfg}(hc:c.Ok){sk:Int}{F:Fr}(hF:HF F){k:Ck}{A:Ar}{n:Int}(hA:ArW c A n)(hn:n≤1000000000)(hK:KOk c k){S:Sr}(hk:k.part = .sread S)(hS:SrOk c k S): CkT c sk F k A:=by
 intro E hE
 simp only [Frm,hk] at hE
 subst hE
 have hI:=hA.ari hc hn
 have hN:=hA.2.1
 have hc':=hc
 simp only [Cfg.Ok] at hc'
 obtain⟨⟨nu,ep,ph,se,fa,cm,ti,er⟩,ws⟩:=S
 obtain⟨s1,s2,s3,s4,s5,s6,s6b,s7⟩:=hS
 simp only at s1 s2 s3 s4 s5 s6 s6b s7
 subst s4
 have hct:=ctlAt_ok hc s2
 have hkf:=hK.failed
 have hU:=hA.u64 (ctlAt c nu).toNat
 rcases s1 with rfl | rfl | rfl
 ·generalize hw:A.ws.getD (ctlAt c nu).toNat 0=w at *
  have gone:∀(hd:ctlLive w=false∨¬ctlEpoch w=ep),k.step c sk A=(k.gone c,A.load (ctlAt c nu)):=fun hd=>
   ck_sreadG (S':=⟨⟨nu,ep,0,w,fa,cm,A.steps+1,22⟩,[]⟩) hk (by simp only [Sr.step,Sm.end,hw]; rw [if_pos hd]; rfl) rfl rfl
  cases hl:ctlLive w with
  | false=>
   have e:=gone (.inl hl)
   by_cases hr:k.failed+1=c.retry
   ·rw [gone_over hr] at e; rw [e]
    exact bx_done (r1h c k A hc hI nu ep se fa cm ti 0 w ws s2 (by omega) hw hU hl (by omega) hr F hF) fun v=>cls_Z rfl rfl rfl
   ·rw [gone_again hr] at e; rw [e]
    exact bx_more (r1g c k A hc hI nu ep se fa cm ti 0 w ws s2 (by omega) hw hU hl (by omega) hr s7).fr (cls_ren [(11,41),(12,42),(13,43)] rfl fun h u=>by kernel_rfl)
  | true=>
   by_cases he:ctlEpoch w=ep
   ·by_cases hg:ctlGen w=0
    ·have e:k.step c sk A=(k.code 20 (A.steps+1),A.load (ctlAt c nu)):=ck_sreadE (S':=⟨⟨nu,ep,0,w,fa,cm,A.steps+1,20⟩,[]⟩) hk (by simp only [Sr.step,Sm.end,hw]; rw [if_neg (by simp [hl,he]),if_pos hg]; rfl) rfl (by simp) (by simp)
     rw [e]
     exact bx_done (r1b c k A hc hI nu ep se fa cm ti 0 w ws s2 (by omega) hw hU hl he hg F hF) fun v=>cls_Z rfl rfl rfl
    ·have e:k.step c sk A=({k with part:=.sread ⟨⟨nu,ep,3,w,fa,cm,A.steps+1,0⟩,[]⟩},A.load (ctlAt c nu)):=ck_sread hk (by simp only [Sr.step,Sm.end,hw]; rw [if_neg (by simp [hl,he]),if_neg hg]; rfl) (by simp)
     rw [e]
     exact bx_more (r1a c k A hc hI nu ep se fa cm ti 0 w ws s2 (by omega) hw hU hl he hg).fr (cls_nil 12 8 .u64 54 [] rfl fun h u=>by kernel_rfl)
   ·have e:=gone (.inr he)
    by_cases hr:k.failed+1=c.retry
    ·rw [gone_over hr] at e; rw [e]
     exact bx_done (r1f c k A hc hI nu ep se fa cm ti 0 w ws s2 (by omega) hw hU hl he (by omega) hr F hF) fun v=>cls_Z rfl rfl rfl
    ·rw [gone_again hr] at e; rw [e]
     exact bx_more (r1e c k A hc hI nu ep se fa cm ti 0 w ws s2 (by omega) hw hU hl he (by omega) hr s7).fr (cls_ren [(11,41),(12,42),(13,43)] rfl fun h u=>by kernel_rfl)
 ·have hs:=s5 (.inl rfl)
  have hb:=buf_ok hc s2 (g:=ctlGen se % 2) (by omega) (j:=(ws.length:Int)) ⟨by omega,s6 rfl⟩
  have hb2:bufAt c nu ((ctlGen se).tmod 2)=bufAt c nu (ctlGen se % 2):=by rw [gen2]
  by_cases hr:(ws.length:Int)+1=c.small
  ·have e:k.step c sk A=({k with part:=.sread ⟨⟨nu,ep,4,se,fa,cm,ti,0⟩,ws++[A.ws.getD (bufAt c nu (ctlGen se % 2)+(ws.length:Int)).toNat 0]⟩},A.load (bufAt c nu (ctlGen se % 2)+(ws.length:Int))):=ck_sread hk (by simp only [Sr.step]; rw [if_pos (by simp; omega)]) (by simp)
   rw [e]
   exact bx_more (r3b c k A hc hI nu ep se fa cm ti 0 _ ws _ hs s2 hb2 (by omega) (by omega) (by omega) rfl hr).fr (cls_ren [(12,42)] rfl fun h u=>by kernel_rfl)
  ·have e:k.step c sk A=({k with part:=.sread ⟨⟨nu,ep,3,se,fa,cm,ti,0⟩,ws++[A.ws.getD (bufAt c nu (ctlGen se % 2)+(ws.length:Int)).toNat 0]⟩},A.load (bufAt c nu (ctlGen se % 2)+(ws.length:Int))):=ck_sread hk (by simp only [Sr.step]; rw [if_neg (by simp; omega)]) (by simp)
   rw [e]
   exact bx_more (r3a c k A hc hI nu ep se fa cm ti 0 _ ws _ hs s2 hb2 (by omega) (by omega) (by omega) rfl hr).fr (cls_ren [(12,42)] rfl fun h u=>by kernel_rfl)
 ·have hs:=s5 (.inr rfl)
  have hws:=s6b rfl
  cases hst:stillW se (A.ws.getD (ctlAt c nu).toNat 0) with
  | true=>
   have e:k.step c sk A=(k.fin ⟨0,ws,[],0,ti⟩,A.load (ctlAt c nu)):=ck_sread0 (S':=⟨⟨nu,ep,0,se,fa,cm,ti,0⟩,ws⟩) hk (by simp only [Sr.step,Sm.end]; rw [if_pos hst]) rfl rfl
   rw [e]
   exact bx_done (r4a c k A hc hI nu ep se fa cm ti 0 _ ws s2 (by omega) hs rfl hU hst (by omega) F hF) fun v=>cls_Y rfl rfl
  | false=>
   by_cases hr:fa+1=c.retry
   ·have e:k.step c sk A=(k.code 17 ti,A.load (ctlAt c nu)):=ck_sreadE (S':=⟨⟨nu,ep,0,se,fa+1,cm,ti,17⟩,ws⟩) hk (by simp only [Sr.step,Sm.fail,Sm.end]; rw [if_neg (by rw [hst]; decide),if_pos hr]) rfl (by simp) (by simp)
    rw [e]
    exact bx_done (r4c c k A hc hI nu ep se fa cm ti 0 _ ws s2 (by omega) hs rfl hU hst (by omega) hr F hF) fun v=>cls_Z rfl rfl rfl
   ·have e:k.step c sk A=({k with part:=.sread ⟨⟨nu,ep,1,se,fa+1,cm,ti,0⟩,ws⟩},A.load (ctlAt c nu)):=ck_sread hk (by simp only [Sr.step,Sm.fail]; rw [if_neg (by rw [hst]; decide),if_neg hr]) (by simp)
    rw [e]
    exact bx_more (r4b c k A hc hI nu ep se fa cm ti 0 _ ws s2 (by omega) hs rfl hU hst (by omega) hr).fr (cls_ren [] rfl fun h u=>by kernel_rfl)
end Go.Proofs.YtnnoeefjnpcfnaaGreatDoor
/- a list is begun; a scan of none; what is not right. -/
set_option maxRecDepth 100000
set_option maxHeartbeats 0
namespace Go.Proofs.YtnnoeefjnpcfnaaGreatDoor
open Go.Sx
theorem bg_none(c:Cfg)(k:Ck)(v:Value)(hc:c.Ok)(kd ke hd:Int)(lg:Bool)(ws pth:List Int)(hw:ws.length≤1000)(hp:pth.length≤1000)(hk:kd<1∨9<kd):
  Ct Tryz.prog 13 (stB (clI c k v) kd ke hd lg ws pth (clI c k v) .no):=by
 have hc':=hc
 simp only [Cfg.Ok] at hc'
 refine cX 83 xqI Tryz.func13 fun g F => ?_
 refine xN fun b1 => ?_
 refine xB (decide (kd<1)) (fun h2 => ?_) (fun h2 => ?_)
 ·skip
  replace h2:=decT h2
  exact xR () trivial
 ·skip
  replace h2:=decF h2
  refine xT (decide (kd>9)) (by first | (simp; done) | (simp; omega)) ?_
  exact xR () trivial
theorem bg_scan0(c:Cfg)(k:Ck)(v:Value)(hc:c.Ok)(kd ke hd:Int)(lg:Bool)(ws pth:List Int)(hw:ws.length≤1000)(hp:pth.length≤1000)(hk:kd=9)(h0:k.ret=[]):
  Ct Tryz.prog 13 (stB (clI c k v) kd ke hd lg ws pth (clZo c ((k.op1 kd ke lg ws hd pth).code 0 0) v (rB 45 46)) .yes):=by
 have hc':=hc
 simp only [Cfg.Ok] at hc'
 refine cX 83 xqI Tryz.func13 fun g F => ?_
 refine xN fun b1 => ?_
 refine xF (decide (kd<1)) (by first | (simp; done) | (simp; omega)) ?_
 refine xF (decide (kd>9)) (by first | (simp; done) | (simp; omega)) ?_
 refine xN fun b2 => ?_
 refine xW0 _ (view_none 12 (b:=b2) .u64 54) ?_ sc_st
 refine xAp 12 (some {block:=b2,off:=0}) (0) (encI .u64) 0 1 ([]) 54 (ws) (.i 45) (oneI _) 8 (.slice (g 0).a (ws).length (g 0).c) (by first | (simp; done) | (simp; omega)) (fun F=>(src_sl (i:=9) (d:=0) (sz:=1) (t:=54) (by kernel_rfl))) (fun a12_ c12_ => ?_)
 refine xN fun b3 => ?_
 refine xW0 _ (view_none 13 (b:=b3) .i64 3) ?_ sc_st
 refine xAp 13 (some {block:=b3,off:=0}) (0) (encI .i64) 0 1 ([]) 3 (pth) (.i 47) (oneI _) 8 (.slice (g 1).a (pth).length (g 1).c) (by first | (simp; done) | (simp; omega)) (fun F=>(src_sl (i:=10) (d:=0) (sz:=1) (t:=3) (by kernel_rfl))) (fun a13_ c13_ => ?_)
 refine xF (kd==8) (by first | (simp; done) | (simp; omega)) ?_
 refine xT (kd==9) (by first | (simp; done) | (simp; omega)) ?_
 refine xT ((↑k.ret.length:Int)==(0:Int)) (by first | (simp; done) | (simp; omega)) ?_
 refine xN fun b4 => ?_
 exact xR () trivial
end Go.Proofs.YtnnoeefjnpcfnaaGreatDoor
/- to find, to create, to remove. -/
set_option maxRecDepth 100000
set_option maxHeartbeats 0
namespace Go.Proofs.YtnnoeefjnpcfnaaGreatDoor
open Go.Sx
theorem bg_find(c:Cfg)(k:Ck)(v:Value)(hc:c.Ok)(kd ke hd:Int)(lg:Bool)(ws pth:List Int)(hw:ws.length≤1000)(hp:pth.length≤1000)(hk:3≤kd∧kd≤5)(hs:startC c ke≠-1)(h0:kd=3→ws.length≠0):
  Ct Tryz.prog 13 (stB (clI c k v) kd ke hd lg ws pth (clFd c (k.op1 kd ke lg ws hd pth) (newFnd ke) 41 (rB 45 46)) .yes):=by
 have hc':=hc
 simp only [Cfg.Ok] at hc'
 refine cX 83 xqI Tryz.func13 fun g F => ?_
 refine xN fun b1 => ?_
 refine xF (decide (kd<1)) (by first | (simp; done) | (simp; omega)) ?_
 refine xF (decide (kd>9)) (by first | (simp; done) | (simp; omega)) ?_
 refine xN fun b2 => ?_
 refine xW0 _ (view_none 12 (b:=b2) .u64 54) ?_ sc_st
 refine xAp 12 (some {block:=b2,off:=0}) (0) (encI .u64) 0 1 ([]) 54 (ws) (.i 45) (oneI _) 8 (.slice (g 0).a (ws).length (g 0).c) (by first | (simp; done) | (simp; omega)) (fun F=>(src_sl (i:=9) (d:=0) (sz:=1) (t:=54) (by kernel_rfl))) (fun a12_ c12_ => ?_)
 refine xN fun b3 => ?_
 refine xW0 _ (view_none 13 (b:=b3) .i64 3) ?_ sc_st
 refine xAp 13 (some {block:=b3,off:=0}) (0) (encI .i64) 0 1 ([]) 3 (pth) (.i 47) (oneI _) 8 (.slice (g 1).a (pth).length (g 1).c) (by first | (simp; done) | (simp; omega)) (fun F=>(src_sl (i:=10) (d:=0) (sz:=1) (t:=3) (by kernel_rfl))) (fun a13_ c13_ => ?_)
 refine xF (kd==8) (by first | (simp; done) | (simp; omega)) ?_
 refine xF (kd==9) (by first | (simp; done) | (simp; omega)) ?_
 refine xF (kd==6) (by first | (simp; done) | (simp; omega)) ?_
 refine xF (kd==7) (by first | (simp; done) | (simp; omega)) ?_
 refine xCy [] [] (Tg.n) ⟨[(2,[.n,.n,.n,.n,.n,.n,.n,.n,.n,.i 3,.n,.n,.n,.n,.i 45,.n,.i 47,.c,.n,.c,.n,.i 7,.i 8,.n,.n,.n,.c,.c,.n,.n,.c,.i 9,.c,.i 10]),(3,[.i 4]),(4,[.c,.c,.c,.c,.c,.c]),(5,[]),(6,[]),(9,[]),(10,[]),(7,[]),(8,[]),(0,[]),(1,[]),(40,[.n,.n,.n,.i 45,.n,.i 47]),(45,[]),(47,[])],97⟩ Tryz.call42 (fun F' h=>(t_Start (c) hc (ke)).fr) fun xn4 n4 hxn4 => ?_
 subst hxn4
 refine xF (startC c ke == -1) (by first | (simp; done) | (simp; omega)) ?_
 refine xB (kd==3) (fun h5 => ?_) (fun h5 => ?_)
 ·skip
  replace h5:=decT h5
  refine xF ((↑([]++ws).length:Int)==(0:Int)) (by simp [*]; done) ?_
  refine xN fun b6 => ?_
  refine xN fun b7 => ?_
  refine xF (kd==1) (by first | (simp; done) | (simp; omega)) ?_
  refine xF (kd==2) (by first | (simp; done) | (simp; omega)) ?_
  refine xN fun b8 => ?_
  refine xA ?_ ?_
  ·skip
   refine xN fun b9 => ?_
   refine xCy [] [] (Tg.n) ⟨[(2,[.n,.n,.n,.n,.n,.n,.n,.n,.n,.i 3,.n,.n,.n,.n,.i 45,.n,.i 47,.c,.n,.c,.n,.i 7,.i 8,.n,.n,.n,.c,.c,.n,.n,.c,.i 9,.c,.i 10]),(3,[.i 4]),(4,[.c,.c,.c,.c,.c,.c]),(5,[]),(6,[]),(9,[]),(10,[]),(7,[]),(8,[]),(0,[]),(1,[]),(40,[.n,.n,.n,.i 45,.n,.i 47]),(45,[]),(47,[]),(98,[.i 2]),(99,[.n,.n,.n,.i 45,.n,.i 47]),(103,[.i 2]),(104,(List.replicate 9 .n))],146⟩ Tryz.call42 (fun F' h=>(t_Start (c) hc (ke)).fr) fun xn10 n10 hxn10 => ?_
   subst hxn10
   refine xF (startC c ke == -1) (by first | (simp; done) | (simp; omega)) ?_
   refine xN fun b11 => ?_
   refine xN fun b12 => ?_
   exact xR () trivial
  ·skip
   refine xN fun b13 => ?_
   refine xN fun b14 => ?_
   refine xCy [] [] (Tg.n) ⟨[(2,[.n,.n,.n,.n,.n,.n,.n,.n,.n,.i 3,.n,.n,.n,.n,.i 45,.n,.i 47,.c,.n,.c,.n,.i 7,.i 8,.n,.n,.n,.c,.c,.n,.n,.c,.i 9,.c,.i 10]),(3,[.i 4]),(4,[.c,.c,.c,.c,.c,.c]),(5,[]),(6,[]),(9,[]),(10,[]),(7,[]),(8,[]),(0,[]),(1,[]),(40,[.n,.n,.n,.i 45,.n,.i 47]),(45,[]),(47,[]),(98,[.i 2]),(99,[.n,.n,.n,.i 45,.n,.i 47]),(103,[.i 2]),(104,[.c]),(105,(List.replicate 9 .n))],147⟩ Tryz.call42 (fun F' h=>(t_Start (c) hc (ke)).fr) fun xn15 n15 hxn15 => ?_
   subst hxn15
   refine xF (startC c ke == -1) (by first | (simp; done) | (simp; omega)) ?_
   refine xN fun b16 => ?_
   exact xR () trivial
 ·skip
  replace h5:=decF h5
  refine xN fun b17 => ?_
  refine xN fun b18 => ?_
  refine xF (kd==1) (by first | (simp; done) | (simp; omega)) ?_
  refine xF (kd==2) (by first | (simp; done) | (simp; omega)) ?_
  refine xN fun b19 => ?_
  refine xA ?_ ?_
  ·skip
   refine xN fun b20 => ?_
   refine xCy [] [] (Tg.n) ⟨[(2,[.n,.n,.n,.n,.n,.n,.n,.n,.n,.i 3,.n,.n,.n,.n,.i 45,.n,.i 47,.c,.n,.c,.n,.i 7,.i 8,.n,.n,.n,.c,.c,.n,.n,.c,.i 9,.c,.i 10]),(3,[.i 4]),(4,[.c,.c,.c,.c,.c,.c]),(5,[]),(6,[]),(9,[]),(10,[]),(7,[]),(8,[]),(0,[]),(1,[]),(40,[.n,.n,.n,.i 45,.n,.i 47]),(45,[]),(47,[]),(98,[.i 2]),(99,[.n,.n,.n,.i 45,.n,.i 47]),(103,[.i 2]),(104,(List.replicate 9 .n))],146⟩ Tryz.call42 (fun F' h=>(t_Start (c) hc (ke)).fr) fun xn21 n21 hxn21 => ?_
   subst hxn21
   refine xF (startC c ke == -1) (by first | (simp; done) | (simp; omega)) ?_
   refine xN fun b22 => ?_
   refine xN fun b23 => ?_
   exact xR () trivial
  ·skip
   refine xN fun b24 => ?_
   refine xN fun b25 => ?_
   refine xCy [] [] (Tg.n) ⟨[(2,[.n,.n,.n,.n,.n,.n,.n,.n,.n,.i 3,.n,.n,.n,.n,.i 45,.n,.i 47,.c,.n,.c,.n,.i 7,.i 8,.n,.n,.n,.c,.c,.n,.n,.c,.i 9,.c,.i 10]),(3,[.i 4]),(4,[.c,.c,.c,.c,.c,.c]),(5,[]),(6,[]),(9,[]),(10,[]),(7,[]),(8,[]),(0,[]),(1,[]),(40,[.n,.n,.n,.i 45,.n,.i 47]),(45,[]),(47,[]),(98,[.i 2]),(99,[.n,.n,.n,.i 45,.n,.i 47]),(103,[.i 2]),(104,[.c]),(105,(List.replicate 9 .n))],147⟩ Tryz.call42 (fun F' h=>(t_Start (c) hc (ke)).fr) fun xn26 n26 hxn26 => ?_
   subst hxn26
   refine xF (startC c ke == -1) (by first | (simp; done) | (simp; omega)) ?_
   refine xN fun b27 => ?_
   exact xR () trivial
end Go.Proofs.YtnnoeefjnpcfnaaGreatDoor
/- to list, to create, to remove. -/
set_option maxRecDepth 100000
set_option maxHeartbeats 0
namespace Go.Proofs.YtnnoeefjnpcfnaaGreatDoor
open Go.Sx
theorem bg_list(c:Cfg)(k:Ck)(v:Value)(hc:c.Ok)(kd ke hd:Int)(lg:Bool)(ws pth:List Int)(hw:ws.length≤1000)(hp:pth.length≤1000)(hk:kd=8):
  Ct Tryz.prog 13 (stB (clI c k v) kd ke hd lg ws pth (clL0 c (k.op1 kd ke lg ws hd pth) newLs 41 (rB 45 46)) .yes):=by
 have hc':=hc
 simp only [Cfg.Ok] at hc'
 refine cX 83 xnI Tryz.func13 fun g F => ?_
 refine xN fun b1 => ?_
 refine xF (decide (kd<1)) (by first | (simp; done) | (simp; omega)) ?_
 refine xF (decide (kd>9)) (by first | (simp; done) | (simp; omega)) ?_
 refine xN fun b2 => ?_
 refine xW0 _ (view_none 12 (b:=b2) .u64 54) ?_ sc_st
 refine xAp 12 (some {block:=b2,off:=0}) (0) (encI .u64) 0 1 ([]) 54 (ws) (.i 45) (oneI _) 8 (.slice (g 0).a (ws).length (g 0).c) (by first | (simp; done) | (simp; omega)) (fun F=>(src_sl (i:=9) (d:=0) (sz:=1) (t:=54) (by kernel_rfl))) (fun a12_ c12_ => ?_)
 refine xN fun b3 => ?_
 refine xW0 _ (view_none 13 (b:=b3) .i64 3) ?_ sc_st
 refine xAp 13 (some {block:=b3,off:=0}) (0) (encI .i64) 0 1 ([]) 3 (pth) (.i 47) (oneI _) 8 (.slice (g 1).a (pth).length (g 1).c) (by first | (simp; done) | (simp; omega)) (fun F=>(src_sl (i:=10) (d:=0) (sz:=1) (t:=3) (by kernel_rfl))) (fun a13_ c13_ => ?_)
 refine xT (kd==8) (by first | (simp; done) | (simp; omega)) ?_
 refine xN fun b4 => ?_
 refine xN fun b5 => ?_
 refine xCy [] [] (Tg.c) ⟨[(2,[.n,.n,.n,.n,.n,.n,.n,.n,.n,.i 3,.n,.n,.n,.n,.i 45,.n,.i 47,.c,.n,.c,.n,.i 7,.i 8,.n,.n,.n,.c,.c,.n,.n,.c,.i 9,.c,.i 10]),(3,[.i 4]),(4,[.c,.c,.c,.c,.c,.c]),(5,[]),(6,[]),(9,[]),(10,[]),(7,[]),(8,[]),(0,[]),(1,[]),(40,[.n,.n,.n,.i 45,.n,.i 47]),(45,[]),(47,[]),(54,[.i 2]),(55,(List.replicate 9 .n))],96⟩ Tryz.call48 (fun F' h=>(t_check (c) hc).fr) fun _ n6 _ => ?_
 refine xN fun b7 => ?_
 refine xN fun b8 => ?_
 exact xR () trivial
theorem bg_create(c:Cfg)(k:Ck)(v:Value)(hc:c.Ok)(kd ke hd:Int)(lg:Bool)(ws pth:List Int)(hw:ws.length≤1000)(hp:pth.length≤1000)(hk:kd=1)(hs:startC c ke≠-1):
  Ct Tryz.prog 13 (stB (clI c k v) kd ke hd lg ws pth (clCr c (k.op1 kd ke lg ws hd pth) (newCr ke lg) 41 (rB 45 46)) .yes):=by
 have hc':=hc
 simp only [Cfg.Ok] at hc'
 refine cX 83 xnI Tryz.func13 fun g F => ?_
 refine xN fun b1 => ?_
 refine xF (decide (kd<1)) (by first | (simp; done) | (simp; omega)) ?_
 refine xF (decide (kd>9)) (by first | (simp; done) | (simp; omega)) ?_
 refine xN fun b2 => ?_
 refine xW0 _ (view_none 12 (b:=b2) .u64 54) ?_ sc_st
 refine xAp 12 (some {block:=b2,off:=0}) (0) (encI .u64) 0 1 ([]) 54 (ws) (.i 45) (oneI _) 8 (.slice (g 0).a (ws).length (g 0).c) (by first | (simp; done) | (simp; omega)) (fun F=>(src_sl (i:=9) (d:=0) (sz:=1) (t:=54) (by kernel_rfl))) (fun a12_ c12_ => ?_)
 refine xN fun b3 => ?_
 refine xW0 _ (view_none 13 (b:=b3) .i64 3) ?_ sc_st
 refine xAp 13 (some {block:=b3,off:=0}) (0) (encI .i64) 0 1 ([]) 3 (pth) (.i 47) (oneI _) 8 (.slice (g 1).a (pth).length (g 1).c) (by first | (simp; done) | (simp; omega)) (fun F=>(src_sl (i:=10) (d:=0) (sz:=1) (t:=3) (by kernel_rfl))) (fun a13_ c13_ => ?_)
 refine xF (kd==8) (by first | (simp; done) | (simp; omega)) ?_
 refine xF (kd==9) (by first | (simp; done) | (simp; omega)) ?_
 refine xF (kd==6) (by first | (simp; done) | (simp; omega)) ?_
 refine xF (kd==7) (by first | (simp; done) | (simp; omega)) ?_
 refine xCy [] [] (Tg.n) ⟨[(2,[.n,.n,.n,.n,.n,.n,.n,.n,.n,.i 3,.n,.n,.n,.n,.i 45,.n,.i 47,.c,.n,.c,.n,.i 7,.i 8,.n,.n,.n,.c,.c,.n,.n,.c,.i 9,.c,.i 10]),(3,[.i 4]),(4,[.c,.c,.c,.c,.c,.c]),(5,[]),(6,[]),(9,[]),(10,[]),(7,[]),(8,[]),(0,[]),(1,[]),(40,[.n,.n,.n,.i 45,.n,.i 47]),(45,[]),(47,[])],97⟩ Tryz.call42 (fun F' h=>(t_Start (c) hc (ke)).fr) fun xn4 n4 hxn4 => ?_
 subst hxn4
 refine xF (startC c ke == -1) (by first | (simp; done) | (simp; omega)) ?_
 refine xF (kd==3) (by first | (simp; done) | (simp; omega)) ?_
 refine xN fun b5 => ?_
 refine xN fun b6 => ?_
 refine xT (kd==1) (by first | (simp; done) | (simp; omega)) ?_
 refine xA ?_ ?_
 ·skip
  refine xN fun b7 => ?_
  refine xCy [] [] (Tg.n) ⟨[(2,[.n,.n,.n,.n,.n,.n,.n,.n,.n,.i 3,.n,.n,.n,.n,.i 45,.n,.i 47,.c,.n,.c,.n,.i 7,.i 8,.n,.n,.n,.c,.c,.n,.n,.c,.i 9,.c,.i 10]),(3,[.i 4]),(4,[.c,.c,.c,.c,.c,.c]),(5,[]),(6,[]),(9,[]),(10,[]),(7,[]),(8,[]),(0,[]),(1,[]),(40,[.n,.n,.n,.i 45,.n,.i 47]),(45,[]),(47,[]),(98,[.i 2]),(99,[.n,.n,.n,.i 45,.n,.i 47]),(102,(List.replicate 9 .n))],144⟩ Tryz.call42 (fun F' h=>(t_Start (c) hc (ke)).fr) fun xn8 n8 hxn8 => ?_
  subst hxn8
  refine xF (startC c ke == -1) (by first | (simp; done) | (simp; omega)) ?_
  refine xN fun b9 => ?_
  refine xN fun b10 => ?_
  refine xN fun b11 => ?_
  exact xR () trivial
 ·skip
  refine xN fun b12 => ?_
  refine xN fun b13 => ?_
  refine xCy [] [] (Tg.n) ⟨[(2,[.n,.n,.n,.n,.n,.n,.n,.n,.n,.i 3,.n,.n,.n,.n,.i 45,.n,.i 47,.c,.n,.c,.n,.i 7,.i 8,.n,.n,.n,.c,.c,.n,.n,.c,.i 9,.c,.i 10]),(3,[.i 4]),(4,[.c,.c,.c,.c,.c,.c]),(5,[]),(6,[]),(9,[]),(10,[]),(7,[]),(8,[]),(0,[]),(1,[]),(40,[.n,.n,.n,.i 45,.n,.i 47]),(45,[]),(47,[]),(98,[.i 2]),(99,[.n,.n,.n,.i 45,.n,.i 47]),(102,[.c]),(103,(List.replicate 9 .n))],145⟩ Tryz.call42 (fun F' h=>(t_Start (c) hc (ke)).fr) fun xn14 n14 hxn14 => ?_
  subst hxn14
  refine xF (startC c ke == -1) (by first | (simp; done) | (simp; omega)) ?_
  refine xN fun b15 => ?_
  refine xN fun b16 => ?_
  exact xR () trivial
theorem bg_remove(c:Cfg)(k:Ck)(v:Value)(hc:c.Ok)(kd ke hd:Int)(lg:Bool)(ws pth:List Int)(hw:ws.length≤1000)(hp:pth.length≤1000)(hk:kd=2)(hs:startC c ke≠-1):
  Ct Tryz.prog 13 (stB (clI c k v) kd ke hd lg ws pth (clRm c (k.op1 kd ke lg ws hd pth) (newRm ke) 41 (rB 45 46)) .yes):=by
 have hc':=hc
 simp only [Cfg.Ok] at hc'
 refine cX 83 xnI Tryz.func13 fun g F => ?_
 refine xN fun b1 => ?_
 refine xF (decide (kd<1)) (by first | (simp; done) | (simp; omega)) ?_
 refine xF (decide (kd>9)) (by first | (simp; done) | (simp; omega)) ?_
 refine xN fun b2 => ?_
 refine xW0 _ (view_none 12 (b:=b2) .u64 54) ?_ sc_st
 refine xAp 12 (some {block:=b2,off:=0}) (0) (encI .u64) 0 1 ([]) 54 (ws) (.i 45) (oneI _) 8 (.slice (g 0).a (ws).length (g 0).c) (by first | (simp; done) | (simp; omega)) (fun F=>(src_sl (i:=9) (d:=0) (sz:=1) (t:=54) (by kernel_rfl))) (fun a12_ c12_ => ?_)
 refine xN fun b3 => ?_
 refine xW0 _ (view_none 13 (b:=b3) .i64 3) ?_ sc_st
 refine xAp 13 (some {block:=b3,off:=0}) (0) (encI .i64) 0 1 ([]) 3 (pth) (.i 47) (oneI _) 8 (.slice (g 1).a (pth).length (g 1).c) (by first | (simp; done) | (simp; omega)) (fun F=>(src_sl (i:=10) (d:=0) (sz:=1) (t:=3) (by kernel_rfl))) (fun a13_ c13_ => ?_)
 refine xF (kd==8) (by first | (simp; done) | (simp; omega)) ?_
 refine xF (kd==9) (by first | (simp; done) | (simp; omega)) ?_
 refine xF (kd==6) (by first | (simp; done) | (simp; omega)) ?_
 refine xF (kd==7) (by first | (simp; done) | (simp; omega)) ?_
 refine xCy [] [] (Tg.n) ⟨[(2,[.n,.n,.n,.n,.n,.n,.n,.n,.n,.i 3,.n,.n,.n,.n,.i 45,.n,.i 47,.c,.n,.c,.n,.i 7,.i 8,.n,.n,.n,.c,.c,.n,.n,.c,.i 9,.c,.i 10]),(3,[.i 4]),(4,[.c,.c,.c,.c,.c,.c]),(5,[]),(6,[]),(9,[]),(10,[]),(7,[]),(8,[]),(0,[]),(1,[]),(40,[.n,.n,.n,.i 45,.n,.i 47]),(45,[]),(47,[])],97⟩ Tryz.call42 (fun F' h=>(t_Start (c) hc (ke)).fr) fun xn4 n4 hxn4 => ?_
 subst hxn4
 refine xF (startC c ke == -1) (by first | (simp; done) | (simp; omega)) ?_
 refine xF (kd==3) (by first | (simp; done) | (simp; omega)) ?_
 refine xN fun b5 => ?_
 refine xN fun b6 => ?_
 refine xF (kd==1) (by first | (simp; done) | (simp; omega)) ?_
 refine xT (kd==2) (by first | (simp; done) | (simp; omega)) ?_
 refine xA ?_ ?_
 ·skip
  refine xN fun b7 => ?_
  refine xCy [] [] (Tg.n) ⟨[(2,[.n,.n,.n,.n,.n,.n,.n,.n,.n,.i 3,.n,.n,.n,.n,.i 45,.n,.i 47,.c,.n,.c,.n,.i 7,.i 8,.n,.n,.n,.c,.c,.n,.n,.c,.i 9,.c,.i 10]),(3,[.i 4]),(4,[.c,.c,.c,.c,.c,.c]),(5,[]),(6,[]),(9,[]),(10,[]),(7,[]),(8,[]),(0,[]),(1,[]),(40,[.n,.n,.n,.i 45,.n,.i 47]),(45,[]),(47,[]),(98,[.i 2]),(99,[.n,.n,.n,.i 45,.n,.i 47]),(103,(List.replicate 9 .n))],145⟩ Tryz.call42 (fun F' h=>(t_Start (c) hc (ke)).fr) fun xn8 n8 hxn8 => ?_
  subst hxn8
  refine xF (startC c ke == -1) (by first | (simp; done) | (simp; omega)) ?_
  refine xN fun b9 => ?_
  refine xN fun b10 => ?_
  refine xN fun b11 => ?_
  exact xR () trivial
 ·skip
  refine xN fun b12 => ?_
  refine xN fun b13 => ?_
  refine xCy [] [] (Tg.n) ⟨[(2,[.n,.n,.n,.n,.n,.n,.n,.n,.n,.i 3,.n,.n,.n,.n,.i 45,.n,.i 47,.c,.n,.c,.n,.i 7,.i 8,.n,.n,.n,.c,.c,.n,.n,.c,.i 9,.c,.i 10]),(3,[.i 4]),(4,[.c,.c,.c,.c,.c,.c]),(5,[]),(6,[]),(9,[]),(10,[]),(7,[]),(8,[]),(0,[]),(1,[]),(40,[.n,.n,.n,.i 45,.n,.i 47]),(45,[]),(47,[]),(98,[.i 2]),(99,[.n,.n,.n,.i 45,.n,.i 47]),(103,[.c]),(104,(List.replicate 9 .n))],146⟩ Tryz.call42 (fun F' h=>(t_Start (c) hc (ke)).fr) fun xn14 n14 hxn14 => ?_
  subst hxn14
  refine xF (startC c ke == -1) (by first | (simp; done) | (simp; omega)) ?_
  refine xN fun b15 => ?_
  refine xN fun b16 => ?_
  exact xR () trivial
end Go.Proofs.YtnnoeefjnpcfnaaGreatDoor
/- what may not be. -/
set_option maxRecDepth 100000
set_option maxHeartbeats 0
namespace Go.Proofs.YtnnoeefjnpcfnaaGreatDoor
open Go.Sx
theorem bg_key(c:Cfg)(k:Ck)(v:Value)(hc:c.Ok)(kd ke hd:Int)(lg:Bool)(ws pth:List Int)(hw:ws.length≤1000)(hp:pth.length≤1000)(hk:1≤kd∧kd≤5)(hs:startC c ke = -1):
  Ct Tryz.prog 13 (stB (clI c k v) kd ke hd lg ws pth (clZo c ((k.op1 kd ke lg ws hd pth).code 1 0) v (rB 45 46)) .yes):=by
 have hc':=hc
 simp only [Cfg.Ok] at hc'
 refine cX 83 xnI Tryz.func13 fun g F => ?_
 refine xN fun b1 => ?_
 refine xF (decide (kd<1)) (by first | (simp; done) | (simp; omega)) ?_
 refine xF (decide (kd>9)) (by first | (simp; done) | (simp; omega)) ?_
 refine xN fun b2 => ?_
 refine xW0 _ (view_none 12 (b:=b2) .u64 54) ?_ sc_st
 refine xAp 12 (some {block:=b2,off:=0}) (0) (encI .u64) 0 1 ([]) 54 (ws) (.i 45) (oneI _) 8 (.slice (g 0).a (ws).length (g 0).c) (by first | (simp; done) | (simp; omega)) (fun F=>(src_sl (i:=9) (d:=0) (sz:=1) (t:=54) (by kernel_rfl))) (fun a12_ c12_ => ?_)
 refine xN fun b3 => ?_
 refine xW0 _ (view_none 13 (b:=b3) .i64 3) ?_ sc_st
 refine xAp 13 (some {block:=b3,off:=0}) (0) (encI .i64) 0 1 ([]) 3 (pth) (.i 47) (oneI _) 8 (.slice (g 1).a (pth).length (g 1).c) (by first | (simp; done) | (simp; omega)) (fun F=>(src_sl (i:=10) (d:=0) (sz:=1) (t:=3) (by kernel_rfl))) (fun a13_ c13_ => ?_)
 refine xF (kd==8) (by first | (simp; done) | (simp; omega)) ?_
 refine xF (kd==9) (by first | (simp; done) | (simp; omega)) ?_
 refine xF (kd==6) (by first | (simp; done) | (simp; omega)) ?_
 refine xF (kd==7) (by first | (simp; done) | (simp; omega)) ?_
 refine xCy [] [] (Tg.n) ⟨[(2,[.n,.n,.n,.n,.n,.n,.n,.n,.n,.i 3,.n,.n,.n,.n,.i 45,.n,.i 47,.c,.n,.c,.n,.i 7,.i 8,.n,.n,.n,.c,.c,.n,.n,.c,.i 9,.c,.i 10]),(3,[.i 4]),(4,[.c,.c,.c,.c,.c,.c]),(5,[]),(6,[]),(9,[]),(10,[]),(7,[]),(8,[]),(0,[]),(1,[]),(40,[.n,.n,.n,.i 45,.n,.i 47]),(45,[]),(47,[])],97⟩ Tryz.call42 (fun F' h=>(t_Start (c) hc (ke)).fr) fun xn4 n4 hxn4 => ?_
 subst hxn4
 refine xT (startC c ke == -1) (by first | (simp; done) | (simp; omega)) ?_
 refine xN fun b5 => ?_
 exact xR () trivial
theorem bg_no(c:Cfg)(k:Ck)(v:Value)(hc:c.Ok)(kd ke hd:Int)(lg:Bool)(ws pth:List Int)(hw:ws.length≤1000)(hp:pth.length≤1000)(hk:kd=3)(hs:startC c ke≠-1)(h0:ws.length=0):
  Ct Tryz.prog 13 (stB (clI c k v) kd ke hd lg ws pth (clZo c ((k.op1 kd ke lg ws hd pth).code 1 0) v (rB 45 46)) .yes):=by
 have hc':=hc
 simp only [Cfg.Ok] at hc'
 refine cX 83 xnI Tryz.func13 fun g F => ?_
 refine xN fun b1 => ?_
 refine xF (decide (kd<1)) (by first | (simp; done) | (simp; omega)) ?_
 refine xF (decide (kd>9)) (by first | (simp; done) | (simp; omega)) ?_
 refine xN fun b2 => ?_
 refine xW0 _ (view_none 12 (b:=b2) .u64 54) ?_ sc_st
 refine xAp 12 (some {block:=b2,off:=0}) (0) (encI .u64) 0 1 ([]) 54 (ws) (.i 45) (oneI _) 8 (.slice (g 0).a (ws).length (g 0).c) (by first | (simp; done) | (simp; omega)) (fun F=>(src_sl (i:=9) (d:=0) (sz:=1) (t:=54) (by kernel_rfl))) (fun a12_ c12_ => ?_)
 refine xN fun b3 => ?_
 refine xW0 _ (view_none 13 (b:=b3) .i64 3) ?_ sc_st
 refine xAp 13 (some {block:=b3,off:=0}) (0) (encI .i64) 0 1 ([]) 3 (pth) (.i 47) (oneI _) 8 (.slice (g 1).a (pth).length (g 1).c) (by first | (simp; done) | (simp; omega)) (fun F=>(src_sl (i:=10) (d:=0) (sz:=1) (t:=3) (by kernel_rfl))) (fun a13_ c13_ => ?_)
 refine xF (kd==8) (by first | (simp; done) | (simp; omega)) ?_
 refine xF (kd==9) (by first | (simp; done) | (simp; omega)) ?_
 refine xF (kd==6) (by first | (simp; done) | (simp; omega)) ?_
 refine xF (kd==7) (by first | (simp; done) | (simp; omega)) ?_
 refine xCy [] [] (Tg.n) ⟨[(2,[.n,.n,.n,.n,.n,.n,.n,.n,.n,.i 3,.n,.n,.n,.n,.i 45,.n,.i 47,.c,.n,.c,.n,.i 7,.i 8,.n,.n,.n,.c,.c,.n,.n,.c,.i 9,.c,.i 10]),(3,[.i 4]),(4,[.c,.c,.c,.c,.c,.c]),(5,[]),(6,[]),(9,[]),(10,[]),(7,[]),(8,[]),(0,[]),(1,[]),(40,[.n,.n,.n,.i 45,.n,.i 47]),(45,[]),(47,[])],97⟩ Tryz.call42 (fun F' h=>(t_Start (c) hc (ke)).fr) fun xn4 n4 hxn4 => ?_
 subst hxn4
 refine xF (startC c ke == -1) (by first | (simp; done) | (simp; omega)) ?_
 refine xT (kd==3) (by first | (simp; done) | (simp; omega)) ?_
 refine xT ((↑([]++ws).length:Int)==(0:Int)) (by simp [*]; done) ?_
 refine xN fun b5 => ?_
 exact xR () trivial
theorem bg_h1(c:Cfg)(k:Ck)(v:Value)(hc:c.Ok)(kd ke hd:Int)(lg:Bool)(ws pth:List Int)(hw:ws.length≤1000)(hp:pth.length≤1000)(hk:6≤kd∧kd≤7)(hh:hd<0):
  Ct Tryz.prog 13 (stB (clI c k v) kd ke hd lg ws pth (clZo c ((k.op1 kd ke lg ws hd pth).code 1 0) v (rB 45 46)) .yes):=by
 have hc':=hc
 simp only [Cfg.Ok] at hc'
 refine cX 83 xnI Tryz.func13 fun g F => ?_
 refine xN fun b1 => ?_
 refine xF (decide (kd<1)) (by first | (simp; done) | (simp; omega)) ?_
 refine xF (decide (kd>9)) (by first | (simp; done) | (simp; omega)) ?_
 refine xN fun b2 => ?_
 refine xW0 _ (view_none 12 (b:=b2) .u64 54) ?_ sc_st
 refine xAp 12 (some {block:=b2,off:=0}) (0) (encI .u64) 0 1 ([]) 54 (ws) (.i 45) (oneI _) 8 (.slice (g 0).a (ws).length (g 0).c) (by first | (simp; done) | (simp; omega)) (fun F=>(src_sl (i:=9) (d:=0) (sz:=1) (t:=54) (by kernel_rfl))) (fun a12_ c12_ => ?_)
 refine xN fun b3 => ?_
 refine xW0 _ (view_none 13 (b:=b3) .i64 3) ?_ sc_st
 refine xAp 13 (some {block:=b3,off:=0}) (0) (encI .i64) 0 1 ([]) 3 (pth) (.i 47) (oneI _) 8 (.slice (g 1).a (pth).length (g 1).c) (by first | (simp; done) | (simp; omega)) (fun F=>(src_sl (i:=10) (d:=0) (sz:=1) (t:=3) (by kernel_rfl))) (fun a13_ c13_ => ?_)
 refine xF (kd==8) (by first | (simp; done) | (simp; omega)) ?_
 refine xF (kd==9) (by first | (simp; done) | (simp; omega)) ?_
 refine xB (kd==6) (fun h4 => ?_) (fun h4 => ?_)
 ·skip
  replace h4:=decT h4
  refine xN fun b5 => ?_
  refine xN fun b6 => ?_
  refine xT (decide (hd<0)) (by first | (simp; done) | (simp; omega)) ?_
  refine xN fun b7 => ?_
  exact xR () trivial
 ·skip
  replace h4:=decF h4
  refine xT (kd==7) (by first | (simp; done) | (simp; omega)) ?_
  refine xN fun b8 => ?_
  refine xN fun b9 => ?_
  refine xT (decide (hd<0)) (by first | (simp; done) | (simp; omega)) ?_
  refine xN fun b10 => ?_
  exact xR () trivial
end Go.Proofs.YtnnoeefjnpcfnaaGreatDoor
/- a handle that may not be. -/
set_option maxRecDepth 100000
set_option maxHeartbeats 0
namespace Go.Proofs.YtnnoeefjnpcfnaaGreatDoor
open Go.Sx
theorem bg_h2(c:Cfg)(k:Ck)(v:Value)(hc:c.Ok)(kd ke hd:Int)(lg:Bool)(ws pth:List Int)(hw:ws.length≤1000)(hp:pth.length≤1000)(hk:6≤kd∧kd≤7)(hh:0≤hd)(hl:(k.hs.length:Int)≤hd):
  Ct Tryz.prog 13 (stB (clI c k v) kd ke hd lg ws pth (clZo c ((k.op1 kd ke lg ws hd pth).code 1 0) v (rB 45 46)) .yes):=by
 have hc':=hc
 simp only [Cfg.Ok] at hc'
 refine cX 83 xnI Tryz.func13 fun g F => ?_
 refine xN fun b1 => ?_
 refine xF (decide (kd<1)) (by first | (simp; done) | (simp; omega)) ?_
 refine xF (decide (kd>9)) (by first | (simp; done) | (simp; omega)) ?_
 refine xN fun b2 => ?_
 refine xW0 _ (view_none 12 (b:=b2) .u64 54) ?_ sc_st
 refine xAp 12 (some {block:=b2,off:=0}) (0) (encI .u64) 0 1 ([]) 54 (ws) (.i 45) (oneI _) 8 (.slice (g 0).a (ws).length (g 0).c) (by first | (simp; done) | (simp; omega)) (fun F=>(src_sl (i:=9) (d:=0) (sz:=1) (t:=54) (by kernel_rfl))) (fun a12_ c12_ => ?_)
 refine xN fun b3 => ?_
 refine xW0 _ (view_none 13 (b:=b3) .i64 3) ?_ sc_st
 refine xAp 13 (some {block:=b3,off:=0}) (0) (encI .i64) 0 1 ([]) 3 (pth) (.i 47) (oneI _) 8 (.slice (g 1).a (pth).length (g 1).c) (by first | (simp; done) | (simp; omega)) (fun F=>(src_sl (i:=10) (d:=0) (sz:=1) (t:=3) (by kernel_rfl))) (fun a13_ c13_ => ?_)
 refine xF (kd==8) (by first | (simp; done) | (simp; omega)) ?_
 refine xF (kd==9) (by first | (simp; done) | (simp; omega)) ?_
 refine xB (kd==6) (fun h4 => ?_) (fun h4 => ?_)
 ·skip
  replace h4:=decT h4
  refine xN fun b5 => ?_
  refine xN fun b6 => ?_
  refine xF (decide (hd<0)) (by first | (simp; done) | (simp; omega)) ?_
  refine xT (decide (hd≥↑k.hs.length)) (by first | (simp; done) | (simp; omega)) ?_
  refine xN fun b7 => ?_
  exact xR () trivial
 ·skip
  replace h4:=decF h4
  refine xT (kd==7) (by first | (simp; done) | (simp; omega)) ?_
  refine xN fun b8 => ?_
  refine xN fun b9 => ?_
  refine xF (decide (hd<0)) (by first | (simp; done) | (simp; omega)) ?_
  refine xT (decide (hd≥↑k.hs.length)) (by first | (simp; done) | (simp; omega)) ?_
  refine xN fun b10 => ?_
  exact xR () trivial
theorem bg_h3(c:Cfg)(k:Ck)(v:Value)(hc:c.Ok)(kd ke hd:Int)(lg:Bool)(ws pth:List Int)(hw:ws.length≤1000)(hp:pth.length≤1000)(hk:6≤kd∧kd≤7)(hh:0≤hd∧hd<(k.hs.length:Int))(ho:(k.hs.getD hd.toNat dHd).op=false):
  Ct Tryz.prog 13 (stB (clI c k v) kd ke hd lg ws pth (clZo c ((k.op1 kd ke lg ws hd pth).code 1 0) v (rB 45 46)) .yes):=by
 have hc':=hc
 simp only [Cfg.Ok] at hc'
 refine cX 83 xnI Tryz.func13 fun g F => ?_
 refine xN fun b1 => ?_
 refine xF (decide (kd<1)) (by first | (simp; done) | (simp; omega)) ?_
 refine xF (decide (kd>9)) (by first | (simp; done) | (simp; omega)) ?_
 refine xN fun b2 => ?_
 refine xW0 _ (view_none 12 (b:=b2) .u64 54) ?_ sc_st
 refine xAp 12 (some {block:=b2,off:=0}) (0) (encI .u64) 0 1 ([]) 54 (ws) (.i 45) (oneI _) 8 (.slice (g 0).a (ws).length (g 0).c) (by first | (simp; done) | (simp; omega)) (fun F=>(src_sl (i:=9) (d:=0) (sz:=1) (t:=54) (by kernel_rfl))) (fun a12_ c12_ => ?_)
 refine xN fun b3 => ?_
 refine xW0 _ (view_none 13 (b:=b3) .i64 3) ?_ sc_st
 refine xAp 13 (some {block:=b3,off:=0}) (0) (encI .i64) 0 1 ([]) 3 (pth) (.i 47) (oneI _) 8 (.slice (g 1).a (pth).length (g 1).c) (by first | (simp; done) | (simp; omega)) (fun F=>(src_sl (i:=10) (d:=0) (sz:=1) (t:=3) (by kernel_rfl))) (fun a13_ c13_ => ?_)
 refine xF (kd==8) (by first | (simp; done) | (simp; omega)) ?_
 refine xF (kd==9) (by first | (simp; done) | (simp; omega)) ?_
 refine xB (kd==6) (fun h4 => ?_) (fun h4 => ?_)
 ·skip
  replace h4:=decT h4
  refine xN fun b5 => ?_
  refine xN fun b6 => ?_
  refine xF (decide (hd<0)) (by first | (simp; done) | (simp; omega)) ?_
  refine xF (decide (hd≥↑k.hs.length)) (by first | (simp; done) | (simp; omega)) ?_
  refine xO (k.hs.length≤k.hs.length∧0≤hd∧hd < ↑k.hs.length) (by omega) ?_
  refine xFs 6 ((g r0.d).a) ((g r0.d).c) (encHd) (dHd) 3 (k.hs) 77 (hd.toNat) 2 false 1 [Value.bool (k.hs.getD hd.toNat dHd).op] .n (show hd.toNat<(k.hs).length by omega) rfl rfl (by simp) ?_
  refine xT (!(k.hs.getD hd.toNat dHd).op) (by rw [ho]; rfl) ?_
  refine xN fun b7 => ?_
  exact xR () trivial
 ·skip
  replace h4:=decF h4
  refine xT (kd==7) (by first | (simp; done) | (simp; omega)) ?_
  refine xN fun b8 => ?_
  refine xN fun b9 => ?_
  refine xF (decide (hd<0)) (by first | (simp; done) | (simp; omega)) ?_
  refine xF (decide (hd≥↑k.hs.length)) (by first | (simp; done) | (simp; omega)) ?_
  refine xO (k.hs.length≤k.hs.length∧0≤hd∧hd < ↑k.hs.length) (by omega) ?_
  refine xFs 6 ((g r0.d).a) ((g r0.d).c) (encHd) (dHd) 3 (k.hs) 77 (hd.toNat) 2 false 1 [Value.bool (k.hs.getD hd.toNat dHd).op] .n (show hd.toNat<(k.hs).length by omega) rfl rfl (by simp) ?_
  refine xT (!(k.hs.getD hd.toNat dHd).op) (by rw [ho]; rfl) ?_
  refine xN fun b10 => ?_
  exact xR () trivial
end Go.Proofs.YtnnoeefjnpcfnaaGreatDoor
/- A client's step, as one thing: it is not busy; what it begins. -/
set_option linter.unusedSimpArgs false
set_option maxRecDepth 100000
set_option maxHeartbeats 0
namespace Go.Proofs.YtnnoeefjnpcfnaaGreatDoor
open Go.Sx
theorem t_stepI(c:Cfg)(k:Ck)(A:Ar)(v:Value): Ct Tryz.prog 14 (stS A (clI c k v) A (clI c k v) .yes):=by
 refine cX 75 xqI Tryz.func14 fun g F => ?_
 exact xR () trivial
theorem t_stepN(v:Value): Ct Tryz.prog 14 (sU [.s .np,.s (.o v)] [] 0 [.s .yes] []):=by
 refine cX 75 xqI Tryz.func14 fun g F => ?_
 exact xR () trivial
end Go.Proofs.YtnnoeefjnpcfnaaGreatDoor
/- What a client begins, as one thing. -/
set_option linter.unusedSimpArgs false
set_option maxRecDepth 100000
namespace Go.Proofs.YtnnoeefjnpcfnaaGreatDoor
open Go.Sx
abbrev BGN: Nat:=13
abbrev opR(ws pth:List Int): List SE:=[.sl 0 (encI .u64) 0 1 ws 54,.sl 1 (encI .i64) 0 1 pth 3]
abbrev opS(kd ke hd:Int)(lg:Bool)(ws pth:List Int): List SV:=[.i .i64 kd,.i .i64 ke,.bo lg,.s 0 ws.length,.i .i64 hd,.s 1 pth.length]
def BgW(E:List SE)(c:Cfg)(kd ke hd:Int)(lg:Bool)(ws pth:List Int)(k':Ck)(d:Bool): Prop := ∀g F w,In ((E++opR ws pth).map (SE.e g)) F w→
 Calls Tryz.prog BGN #[.pointer (some ⟨(g 2).b,0,none⟩),.agg ((opS kd ke hd lg ws pth).map (SV.v g)).toArray] w fun e w'=>e = .returned (.bool d)∧In ([.res (CliR c k' (g 2).b)]++(opR ws pth).map (SE.e g)) F w'
abbrev stBX(c:Cfg)(k:Ck)(b:Nat)(kd ke hd:Int)(lg:Bool)(ws pth:List Int)(k':Ck)(d:Bool): Sp Unit:=
 ⟨[.s (.pb 2 b 0),.g (opS kd ke hd lg ws pth)],(.rs 2 fun _=>CliR c k b) :: opR ws pth,3,fun _=>True,fun _=>[.s (.bo d)],fun _=>(.rs 2 fun _=>CliR c k' b) :: opR ws pth⟩
theorem bgx{c:Cfg}{k k':Ck}{kd ke hd:Int}{lg:Bool}{ws pth:List Int}{d:Bool}(h:∀E,Frm c k E→BgW E c kd ke hd lg ws pth k' d)(b:Nat): Ct Tryz.prog BGN (stBX c k b kd ke hd lg ws pth k' d):=by
 intro g F w hi
 have hi':In (.res (CliR c k b) :: (opR ws pth).map (SE.e g)) F w:=hi
 obtain⟨f,⟨fc,f2,rfl,⟨E,g',hE,hb,hd'⟩,h2⟩,hfit,hr⟩:=hi'
 subst hb
 have hin:In ((E++opR ws pth).map (SE.e (mixR 2 g g'))) F w:=by
  rw [List.map_append]
  exact⟨fc++f2,dens_append.2 ⟨fc,f2,rfl,hd' g,h2⟩,hfit,hr⟩
 refine(h E hE _ F w hin).mono ?_
 rintro e w' ⟨rfl,hw⟩
 exact⟨_,_,rfl,⟨(),g,trivial,rfl,rfl⟩,hw⟩
theorem bg_mk{c:Cfg}{k':Ck}{E E':List SE}{kd ke hd:Int}{lg:Bool}{ws pth:List Int}{b:SV}(d:Bool)(hS:Ct Tryz.prog BGN (stB E kd ke hd lg ws pth E' b))(hb:∀h,SV.v h b = .bool d)(hc:Cls c k' E'): BgW E c kd ke hd lg ws pth k' d:=by
 intro g F w hi
 refine(hS g F w hi).mono ?_
 rintro e w' ⟨v,L',rfl,⟨x,ν,_,rfl,rfl⟩,hw⟩
 refine⟨by show Ending.returned (SV.v _ b) = _; rw [hb], ?_⟩
 obtain⟨E'' ,h'',h1,h2,h3⟩:=hc (mixR 40 g ν)
 have hw':In ((E'++opR ws pth).map (SE.e (mixR 40 g ν))) F w':=hw
 rw [List.map_append] at hw'
 obtain⟨f,hf,hfit,hr⟩:=hw'
 obtain⟨f1,f2,rfl,h4,h5⟩:=dens_append.1 hf
 refine⟨f1++f2,⟨f1,f2,rfl,⟨E'' ,h'',h1, ?_,fun u=>h3 u f1 h4⟩,h5⟩,hfit,hr⟩
 rw [h2]; rfl
theorem ck_beg{c:Cfg}{k:Ck}(hk:k.part = .idle){kd ke hd:Int}{lg:Bool}{ws pth:List Int}(h:1≤kd∧kd≤9): (k.begin c kd ke lg ws hd pth).2=true:=by
 unfold Ck.begin
 rw [if_neg (by simp [Ck.busy,hk]; omega)]
/-- of one that has nothing yet -/
theorem t_beginF{c:Cfg}(hc:c.Ok){k:Ck}(hk:k.part = .idle)(h1:k.ret=[])(h2:k.hs=[])(b:Nat)(kd ke hd:Int)(lg:Bool)(ws pth:List Int)(hw:ws.length≤1000)(hp:pth.length≤1000):
  Ct Tryz.prog BGN (stBX c k b kd ke hd lg ws pth (k.begin c kd ke lg ws hd pth).1 (k.begin c kd ke lg ws hd pth).2):=by
 refine bgx (fun E hE => ?_) b
 simp only [Frm,hk] at hE
 obtain⟨v,rfl⟩:=hE
 by_cases hkd:kd<1∨9<kd
 ·have e:k.begin c kd ke lg ws hd pth=(k,false):=by
   unfold Ck.begin; rw [if_pos (by rcases hkd with h | h; exact .inr (.inl h); exact .inr (.inr h))]
  rw [e]
  exact bg_mk false (bg_none c k v hc kd ke hd lg ws pth hw hp hkd) (fun _=>rfl) (cls_ren [] (by simp only [Frm,hk]; exact⟨v,rfl⟩) fun h u=>by kernel_rfl)
 ·have hbs:¬(k.busy=true∨kd<1∨9<kd):=by simp [Ck.busy,hk]; omega
  have R1:∀ {k':Ck},(if kd=8 then({k.op1 kd ke lg ws hd pth with part:=.list newLs}:Ck)
    else if kd=9 then(if (k.op1 kd ke lg ws hd pth).ret=[] then(k.op1 kd ke lg ws hd pth).code 0 0 else(k.op1 kd ke lg ws hd pth).scans 0 0)
    else if kd=6∨kd=7 then
     (if hd<0∨(k.hs.length:Int)≤hd∨(k.hs.getD hd.toNat ⟨0,0,false⟩).op=false then(k.op1 kd ke lg ws hd pth).code 1 0
     else if kd=7 then {k.op1 kd ke lg ws hd pth with part:=.rel ⟨slotAt c (k.hs.getD hd.toNat ⟨0,0,false⟩).slot,false⟩}
     else {k.op1 kd ke lg ws hd pth with part:=.field (newFl c (k.hs.getD hd.toNat ⟨0,0,false⟩).block pth)})
    else if startC c ke = -1∨(kd=3∧ws=[]) then(k.op1 kd ke lg ws hd pth).code 1 0
    else if kd=1 then {k.op1 kd ke lg ws hd pth with part:=.create (newCr ke lg)}
    else if kd=2 then {k.op1 kd ke lg ws hd pth with part:=.remove (newRm ke)}
    else(k.op1 kd ke lg ws hd pth).finds)=k'→k.begin c kd ke lg ws hd pth=(k',true):=by
   rintro k' rfl
   unfold Ck.begin
   rw [if_neg hbs]
  rcases (by omega:kd=8∨kd=9∨(6≤kd∧kd≤7)∨(1≤kd∧kd≤5)) with h8 | h9 | h67 | h15
  ·rw [R1 (if_pos h8)]
   exact bg_mk true (bg_list c k v hc kd ke hd lg ws pth hw hp h8) (fun _=>rfl) (cls_nil 14 10 .i64 3 [(5,45),(6,46),(11,41),(12,42),(13,43)] rfl fun h u=>by kernel_rfl)
  ·rw [R1 ((if_neg (by omega)).trans ((if_pos h9).trans (if_pos h1)))]
   exact bg_mk true (bg_scan0 c k v hc kd ke hd lg ws pth hw hp h9 h1) (fun _=>rfl) (cls_Z rfl rfl rfl)
  ·by_cases hh:hd<0
   ·rw [R1 ((if_neg (by omega)).trans ((if_neg (by omega)).trans ((if_pos (by omega)).trans (if_pos (.inl hh)))))]
    exact bg_mk true (bg_h1 c k v hc kd ke hd lg ws pth hw hp h67 hh) (fun _=>rfl) (cls_Z rfl rfl rfl)
   ·have hl:(k.hs.length:Int)≤hd:=by rw [h2]; simp; omega
    rw [R1 ((if_neg (by omega)).trans ((if_neg (by omega)).trans ((if_pos (by omega)).trans (if_pos (.inr (.inl hl))))))]
    exact bg_mk true (bg_h2 c k v hc kd ke hd lg ws pth hw hp h67 (by omega) hl) (fun _=>rfl) (cls_Z rfl rfl rfl)
  ·by_cases hs:startC c ke = -1
   ·rw [R1 ((if_neg (by omega)).trans ((if_neg (by omega)).trans ((if_neg (by omega)).trans (if_pos (.inl hs)))))]
    exact bg_mk true (bg_key c k v hc kd ke hd lg ws pth hw hp h15 hs) (fun _=>rfl) (cls_Z rfl rfl rfl)
   ·by_cases h3:kd=3∧ws=[]
    ·rw [R1 ((if_neg (by omega)).trans ((if_neg (by omega)).trans ((if_neg (by omega)).trans (if_pos (.inr h3)))))]
     exact bg_mk true (bg_no c k v hc kd ke hd lg ws pth hw hp h3.1 hs (by rw [h3.2]; rfl)) (fun _=>rfl) (cls_Z rfl rfl rfl)
    ·have hn:¬(startC c ke = -1∨(kd=3∧ws=[])):=fun h=>h.elim hs h3
     rcases (by omega:kd=1∨kd=2∨(3≤kd∧kd≤5)) with ha | ha | ha
     ·rw [R1 ((if_neg (by omega)).trans ((if_neg (by omega)).trans ((if_neg (by omega)).trans ((if_neg hn).trans (if_pos ha)))))]
      exact bg_mk true (bg_create c k v hc kd ke hd lg ws pth hw hp ha hs) (fun _=>rfl) (cls_ren [(5,45),(6,46),(11,41),(12,42),(13,43),(14,44)] rfl fun h u=>by kernel_rfl)
     ·rw [R1 ((if_neg (by omega)).trans ((if_neg (by omega)).trans ((if_neg (by omega)).trans ((if_neg hn).trans ((if_neg (by omega)).trans (if_pos ha))))))]
      exact bg_mk true (bg_remove c k v hc kd ke hd lg ws pth hw hp ha hs) (fun _=>rfl) (cls_ren [(5,45),(6,46),(11,41),(12,42),(13,43),(14,44)] rfl fun h u=>by kernel_rfl)
     ·rw [R1 ((if_neg (by omega)).trans ((if_neg (by omega)).trans ((if_neg (by omega)).trans ((if_neg hn).trans ((if_neg (by omega)).trans (if_neg (by omega)))))))]
      exact bg_mk true (bg_find c k v hc kd ke hd lg ws pth hw hp ha hs (fun h3' h0=>h3 ⟨h3',List.length_eq_zero_iff.1 h0⟩)) (fun _=>rfl) (cls_ren [(5,45),(6,46),(11,41),(12,42),(13,43)] rfl fun h u=>by kernel_rfl)
end Go.Proofs.YtnnoeefjnpcfnaaGreatDoor
/- The chapter's example, step by step. -/
set_option linter.unusedSimpArgs false
set_option maxRecDepth 100000
namespace Go.Proofs.YtnnoeefjnpcfnaaGreatDoor
open Go.Sx
theorem st_idle{c:Cfg}{sk:Int}{F:Fr}{k:Ck}{A:Ar}(hk:k.part = .idle): CkT c sk F k A:=by
 intro E hE
 have hE':=hE
 simp only [Frm,hk] at hE'
 obtain⟨v,rfl⟩:=hE'
 have e:k.step c sk A=(k,A):=by simp only [Ck.step,hk]
 rw [e]
 have hb:(!k.busy)=true:=by simp [Ck.busy,hk]
 simp only [hb]
 intro g w hi
 refine((t_stepI c k A v).fr g w hi).mono ?_
 rintro e w' ⟨v' ,L',rfl,⟨x,ν,_,rfl,rfl⟩,hw⟩
 refine⟨rfl, ?_⟩
 have hw':In ((ARp A 0 1++clI c k v).map (SE.e (mixR 40 g ν))) F w':=hw
 rw [List.map_append] at hw'
 obtain⟨f,hf,hfit,hr⟩:=hw'
 obtain⟨f1,f2,rfl,h4,h5⟩:=dens_append.1 hf
 exact⟨f1++(f2++[]),dens_append.2 ⟨f1,f2++[],rfl,h4,f2,[],rfl,⟨clI c k v,g,hE,rfl,fun u=>h5⟩,rfl⟩,by simpa using hfit,hr⟩
/-- what is needed of a step, as it is reckoned -/
def gdA(c:Cfg)(A:Ar): Bool:=decide (A.ws.length=A.n)&&decide ((A.n:Int)=sizeOfC c)&&A.ws.all (fun w=>decide (0≤w∧w≤18446744073709551615))&&decide (0≤A.steps∧A.steps≤1000000000)
theorem gdA_ok{c:Cfg}{A:Ar}(h:gdA c A=true): ArW c A 1000000000:=by
 simp only [gdA,Bool.and_eq_true,decide_eq_true_eq] at h
 obtain⟨⟨⟨h1,h2⟩,h3⟩,h4⟩:=h
 refine⟨h1,h2, ?_,h4⟩
 intro i
 by_cases hi:i<A.ws.length
 ·have:=List.all_eq_true.1 h3 (A.ws[i]) (List.getElem_mem hi)
  simp only [decide_eq_true_eq] at this
  simpa [hi] using this
 ·have e:A.ws.getD i 0=0:=by simp [List.getD_eq_getElem?_getD,List.getElem?_eq_none (Nat.le_of_not_lt hi)]
  rw [e]; omega
def gdK(c:Cfg)(k:Ck): Bool:=match k.part with
 | .idle=>true
 | .find S=>decide ((1≤S.ph∧S.ph≤4)∧(3≤k.kind∧k.kind≤5)∧(0≤S.failed∧S.failed<c.retry)∧startC c S.key≠-1∧(S.ph=2→0≤S.i∧S.i<c.topics)∧(S.err=0∨(S.ph=4∧S.err=12))∧(S.ph=3∨S.ph=4→S.err=0→0≤S.pl∧S.pl<c.topics)∧(k.kind=3→1≤k.ows.length)∧(S.ph=3→S.ep=0))
 | .create K=>decide (((1≤K.h.ph∧K.h.ph≤6)∨K.h.ph=9)∧(0≤K.h.failed∧K.h.failed<c.retry)∧startC c K.h.key≠-1∧(K.h.err=0∨(K.h.ph=9∧(K.h.err=14∨K.h.err=15)))∧(K.h.ph=3∨K.h.ph=4∨K.h.ph=5∨K.h.ph=6∨K.h.ph=9→K.h.holds=true)∧(K.h.ph=3→0≤K.h.i∧K.h.i<c.topics)∧(K.h.ph=3→K.pl = -1∨(0≤K.pl∧K.pl<c.topics))∧(K.h.ph=4∨K.h.ph=5∨K.h.ph=6→0≤K.pl∧K.pl<c.topics)∧(K.h.ph=5→0≤K.seen∧K.seen≤18446744073709551615))
 | .sread R=>decide ((R.t.ph=1∨R.t.ph=3∨R.t.ph=4)∧(0≤R.t.number∧R.t.number<c.topics)∧(0≤R.t.failed∧R.t.failed<c.retry)∧R.t.err=0∧(R.t.ph=3∨R.t.ph=4→0≤R.t.seen∧R.t.seen≤18446744073709551615)∧(R.t.ph=3→(R.ws.length:Int)<c.small)∧(R.t.ph=4→(R.ws.length:Int)≤c.small)∧startC c k.key≠-1)
 | _=>false
def gdAll(c:Cfg)(k:Ck)(A:Ar): Bool:=gdA c A&&decide ((0≤k.id∧k.id<c.clients)∧(0≤k.failed∧k.failed<c.retry)∧k.ows.length≤1000)&&gdK c k
theorem gd_ok{c:Cfg}(hc:c.Ok){sk:Int}{F:Fr}(hF:HF F){k:Ck}{A:Ar}(h:gdAll c k A=true): CkT c sk F k A:=by
 simp only [gdAll,Bool.and_eq_true,decide_eq_true_eq] at h
 obtain⟨⟨h1,h2⟩,h3⟩:=h
 have hA:=gdA_ok h1
 have hK:KOk c k:=⟨h2.1,h2.2.1,h2.2.2⟩
 unfold gdK at h3
 split at h3
 ·rename_i hp; exact st_idle hp
 ·rename_i S hp
  simp only [decide_eq_true_eq] at h3
  obtain⟨a1,a2,a3,a4,a5,a6,a7,a8,a9⟩:=h3
  exact st_find hc hF hA (by omega) hK hp ⟨a1,a2,a3,a4,a5,a6,a7,a8,a9⟩
 ·rename_i S hp
  simp only [decide_eq_true_eq] at h3
  obtain⟨a1,a2,a3,a4,a5,a6,a7,a8,a9⟩:=h3
  exact st_create hc hF hA (by omega) hp ⟨a1,a2,a3,a4,a5,a6,a7,a8,a9⟩
 ·rename_i S hp
  simp only [decide_eq_true_eq] at h3
  obtain⟨a1,a2,a3,a4,a5,a6,a7,a8⟩:=h3
  exact st_sread hc hF hA (by omega) hK hp ⟨a1,a2,a3,a4,a5,a6,a7,a8⟩
 ·exact absurd h3 (by decide)
/-- so many steps -/
def run(c:Cfg)(sk:Int)(p:Ck×Ar): Nat→Ck×Ar
 | 0=>p
 | j+1=>(run c sk p j).1.step c sk (run c sk p j).2
def runs(p:Ck×Ar): Bool:=(List.range 20).all fun j=>gdAll c0 (run c0 skC p j).1 (run c0 skC p j).2
theorem t_run{p:Ck×Ar}(h:runs p=true){F:Fr}(hF:HF F)(b:Nat)(j:Nat)(hj:j<20):
  CtF Tryz.prog F STEP (stX c0 (run c0 skC p j).1 (run c0 skC p j).2 b (run c0 skC p (j+1)).1 (run c0 skC p (j+1)).2 (!(run c0 skC p (j+1)).1.busy)):=
 bx (gd_ok c0_ok hF (List.all_eq_true.1 h j (List.mem_range.2 hj))) b
def p1: Ck×Ar:=(((newCk 0).begin c0 4 5 false [] 0 []).1,A0)
def p2: Ck×Ar:=(((run c0 skC p1 20).1.begin c0 1 5 false [] 0 []).1,(run c0 skC p1 20).2)
def p3: Ck×Ar:=(((run c0 skC p2 20).1.begin c0 4 5 false [] 0 []).1,(run c0 skC p2 20).2)
theorem runs1: runs p1=true:=by kernel_rfl
theorem runs2: runs p2=true:=by kernel_rfl
theorem runs3: runs p3=true:=by kernel_rfl
def isIdle(k:Ck): Bool:=match k.part with
 | .idle=>true
 | _=>false
theorem codes: ((run c0 skC p1 20).1.res.code,(run c0 skC p2 20).1.res.code,(run c0 skC p3 20).1.res.code,isIdle (run c0 skC p1 20).1&&isIdle (run c0 skC p2 20).1&&isIdle (run c0 skC p3 20).1)=(12,0,20,true):=by kernel_rfl
end Go.Proofs.YtnnoeefjnpcfnaaGreatDoor
/- The chapter's example goes as it should. -/
set_option linter.unusedSimpArgs false
set_option maxRecDepth 100000
set_option maxHeartbeats 0
namespace Go.Proofs.YtnnoeefjnpcfnaaGreatDoor
open Go.Sx
abbrev RES: Nat:=19
/-- what is told of one that isn't busy -/
theorem t_Res(c:Cfg)(k:Ck)(b:Nat)(hk:k.part = .idle)(h1:k.res.ws.length≤1000000)(h2:k.res.ks.length≤1000000): Ct Tryz.prog RES (sU [.s (.pb 2 b 0)] [.rs 2 fun _=>CliR c k b] 3
  [.g [.i .i64 k.res.code,.s 3 k.res.ws.length,.s 4 k.res.ks.length,.i .u64 k.res.n,.i .i64 k.res.cm]] [.rs 2 fun _=>CliR c k b,.sl 3 (encI .u64) 0 1 k.res.ws 54,.sl 4 (encI .i64) 0 1 k.res.ks 3]):=by
 intro g F w hi
 have hi':In [.res (CliR c k b)] F w:=hi
 obtain⟨f,⟨fc,f2,rfl,⟨E,g',hE,hb,hd⟩,h3⟩,hfit,hr⟩:=hi'
 obtain rfl:f2=[]:=h3
 subst hb
 have hE':=hE
 simp only [Frm,hk] at hE'
 obtain⟨v,rfl⟩:=hE'
 have hin:In ((clI c k v).map (SE.e (mixR 2 g g'))) F w:=⟨fc,hd g,by simpa using hfit,hr⟩
 refine(t_ResE c k v h1 h2 _ F w hin).mono ?_
 rintro e w' ⟨v' ,L',rfl,⟨x,ν,_,rfl,rfl⟩,hw⟩
 have hw':In ((clI c k v).map (SE.e (mixR 2 g g'))++[.sl (ν 41).a (ν 41).c (encI .u64) 0 1 k.res.ws 54,.sl (ν 42).a (ν 42).c (encI .i64) 0 1 k.res.ks 3]) F w':=hw
 obtain⟨f,hf,hfit',hr'⟩:=hw'
 obtain⟨f1,f2,rfl,h4,h5⟩:=dens_append.1 hf
 refine⟨_,_,rfl,⟨(),fun r=>bif Nat.beq r 3 then ν 41 else ν 42,trivial,rfl,rfl⟩, ?_⟩
 exact⟨f1++f2,⟨f1,f2,rfl,⟨clI c k v,g',hE,rfl,fun u=>h4⟩,h5⟩,hfit',hr'⟩
theorem t_awN: Ct Tryz.prog 34 (⟨[.g cfgL0,.s (.sp 0 1 1),.s (.l .i64 0)],[schA 0 1,schB 1],2,fun _=>True,fun nb=>[.s (.pb 2 nb 0)],fun nb=>[.rs 2 fun _=>CliR c0 (newCk 0) nb]⟩:Sp Nat):=cast (by kernel_rfl) (t_New c0 c0_ok 0 (by simp only [c0]; omega))
/-- an op without rows, as it is handed in -/
theorem t_begZ{k:Ck}(hk:k.part = .idle)(h1:k.ret=[])(h2:k.hs=[])(b:Nat)(kd ke hd:Int)(lg:Bool): Ct Tryz.prog BGN (⟨[.s (.pb 2 b 0),.g [.i .i64 kd,.i .i64 ke,.bo lg,.ns,.i .i64 hd,.ns]],[.rs 2 fun _=>CliR c0 k b],3,fun _=>True,
  fun _=>[.s (.bo (k.begin c0 kd ke lg [] hd []).2)],fun _=>[.rs 2 fun _=>CliR c0 (k.begin c0 kd ke lg [] hd []).1 b]⟩:Sp Unit):=by
 intro g F w hi
 have hi':In [.res (CliR c0 k b)] F w:=hi
 have hin:In ([.res (CliR c0 k b)]++(opR [] []).map (SE.e fun _=>⟨0,none,0⟩)) F w:=by
  obtain⟨f,hf,hfit,hr⟩:=hi'
  exact⟨f,dens_snoc (x:=.sl none 0 (encI .i64) 0 1 [] 3) ⟨sizedI _,.inl ⟨rfl,rfl,rfl,rfl⟩⟩ (dens_snoc (x:=.sl none 0 (encI .u64) 0 1 [] 54) ⟨sizedI _,.inl ⟨rfl,rfl,rfl,rfl⟩⟩ hf),hfit,hr⟩
 refine(t_beginF c0_ok hk h1 h2 b kd ke hd lg [] [] (by simp) (by simp) (fun _=>⟨0,none,0⟩) F w hin).mono ?_
 rintro e w' ⟨v,L',rfl,⟨x,ν,_,rfl,rfl⟩,hw⟩
 refine⟨_,_,rfl,⟨(),ν,trivial,rfl,rfl⟩, ?_⟩
 obtain⟨f,⟨f1,f2,rfl,h3,h4⟩,hfit,hr⟩:=hw
 obtain⟨f3,f4,rfl,h5,f5,f6,rfl,h6,h7⟩:=h4
 obtain rfl:f6=[]:=h7
 rcases h5.2 with ⟨_,_,_,rfl⟩ | ⟨b,off,pre,post,hb,_⟩
 ·rcases h6.2 with ⟨_,_,_,rfl⟩ | ⟨b,off,pre,post,hb,_⟩
  ·exact⟨f1++[],⟨f1,[],rfl,h3,rfl⟩,by simpa using hfit,hr⟩
  ·exact absurd (show(none:Option Addr)=some _ from hb) (by simp)
 ·exact absurd (show(none:Option Addr)=some _ from hb) (by simp)
theorem elimR{ι : Type}{P:(Nat×Option Addr×Nat)→ι→Prop}(h0:∀a c J,P (0,a,c) J)(h1:∀a c J,P (1,a,c) J)(h2:∀a c J,P (2,a,c) J)(h3:∀a c J,P (3,a,c) J): ∀(i:Nat×Option Addr×Nat) J,i.1≤3→P i J
 | (0,a,c),J,_=>h0 a c J
 | (1,a,c),J,_=>h1 a c J
 | (2,a,c),J,_=>h2 a c J
 | (3,a,c),J,_=>h3 a c J
 | (n+4,_,_),_,h=>absurd h (by simp)
/-- ahead of each round of the example -/
def S4: Nat→Ck×Ar
 | 0=>(newCk 0,A0)
 | 1=>run c0 skC p1 20
 | 2=>run c0 skC p2 20
 | _=>run c0 skC p3 20
def cds(i:Nat): List Int:=([12,0,20]:List Int).take i
abbrev opC: List Value:=[.int .i64 4,.int .i64 5,.bool false,.slice none 0 0,.int .i64 0,.slice none 0 0,.int .i64 1,.int .i64 5,.bool false,.slice none 0 0,.int .i64 0,.slice none 0 0,.int .i64 4,.int .i64 5,.bool false,.slice none 0 0,.int .i64 0,.slice none 0 0]
abbrev beS(k:Ck)(b:Nat)(kd ke:Int)(k':Ck): Sp Unit:=⟨[.s (.pb 2 b 0),.g [.l .i64 kd,.l .i64 ke,.no,.ns,.l .i64 0,.ns]],[.rs 2 fun _=>CliR c0 k b],3,fun _=>True,fun _=>[.s .yes],fun _=>[.rs 2 fun _=>CliR c0 k' b]⟩
theorem t_b1(b:Nat): Ct Tryz.prog BGN (beS (S4 0).1 b 4 5 (run c0 skC p1 0).1):=cast (by kernel_rfl) (t_begZ (k:=(S4 0).1) (by kernel_rfl) (by kernel_rfl) (by kernel_rfl) b 4 5 0 false)
theorem t_b2(b:Nat): Ct Tryz.prog BGN (beS (S4 1).1 b 1 5 (run c0 skC p2 0).1):=cast (by kernel_rfl) (t_begZ (k:=(S4 1).1) (by kernel_rfl) (by kernel_rfl) (by kernel_rfl) b 1 5 0 false)
theorem t_b3(b:Nat): Ct Tryz.prog BGN (beS (S4 2).1 b 4 5 (run c0 skC p3 0).1):=cast (by kernel_rfl) (t_begZ (k:=(S4 2).1) (by kernel_rfl) (by kernel_rfl) (by kernel_rfl) b 4 5 0 false)
theorem view_pick{L L':List Ent}(idx:List Nat)(h:(pick L idx,places L.length idx)=(L',true)): View L L':=by
 simp only [Prod.mk.injEq] at h
 have:=view_idx (L:=L) idx h.2
 rw [h.1] at this
 exact this
theorem t_st1(b j:Nat)(hj:j<20)(F:Fr)(hF:HF F): CtF Tryz.prog F STEP (stX c0 (run c0 skC p1 j).1 (run c0 skC p1 j).2 b (run c0 skC p1 (j+1)).1 (run c0 skC p1 (j+1)).2 (!(run c0 skC p1 (j+1)).1.busy)):=t_run runs1 hF b j hj
theorem t_rs1(b j:Nat)(hj:j=20): Ct Tryz.prog RES (sU [.s (.pb 2 b 0)] [.rs 2 fun _=>CliR c0 (run c0 skC p1 j).1 b] 3
  [.g [.l .i64 12,.s 3 (run c0 skC p1 j).1.res.ws.length,.s 4 (run c0 skC p1 j).1.res.ks.length,.i .u64 (run c0 skC p1 j).1.res.n,.i .i64 (run c0 skC p1 j).1.res.cm]] [.rs 2 fun _=>CliR c0 (run c0 skC p1 j).1 b,.sl 3 (encI .u64) 0 1 (run c0 skC p1 j).1.res.ws 54,.sl 4 (encI .i64) 0 1 (run c0 skC p1 j).1.res.ks 3]):=by
 subst hj
 exact cast (by kernel_rfl) (t_Res c0 (run c0 skC p1 20).1 b (by kernel_rfl) (of_decide_eq_true (by kernel_rfl)) (of_decide_eq_true (by kernel_rfl)))
theorem t_st2(b j:Nat)(hj:j<20)(F:Fr)(hF:HF F): CtF Tryz.prog F STEP (stX c0 (run c0 skC p2 j).1 (run c0 skC p2 j).2 b (run c0 skC p2 (j+1)).1 (run c0 skC p2 (j+1)).2 (!(run c0 skC p2 (j+1)).1.busy)):=t_run runs2 hF b j hj
theorem t_rs2(b j:Nat)(hj:j=20): Ct Tryz.prog RES (sU [.s (.pb 2 b 0)] [.rs 2 fun _=>CliR c0 (run c0 skC p2 j).1 b] 3
  [.g [.l .i64 0,.s 3 (run c0 skC p2 j).1.res.ws.length,.s 4 (run c0 skC p2 j).1.res.ks.length,.i .u64 (run c0 skC p2 j).1.res.n,.i .i64 (run c0 skC p2 j).1.res.cm]] [.rs 2 fun _=>CliR c0 (run c0 skC p2 j).1 b,.sl 3 (encI .u64) 0 1 (run c0 skC p2 j).1.res.ws 54,.sl 4 (encI .i64) 0 1 (run c0 skC p2 j).1.res.ks 3]):=by
 subst hj
 exact cast (by kernel_rfl) (t_Res c0 (run c0 skC p2 20).1 b (by kernel_rfl) (of_decide_eq_true (by kernel_rfl)) (of_decide_eq_true (by kernel_rfl)))
theorem t_st3(b j:Nat)(hj:j<20)(F:Fr)(hF:HF F): CtF Tryz.prog F STEP (stX c0 (run c0 skC p3 j).1 (run c0 skC p3 j).2 b (run c0 skC p3 (j+1)).1 (run c0 skC p3 (j+1)).2 (!(run c0 skC p3 (j+1)).1.busy)):=t_run runs3 hF b j hj
theorem t_rs3(b j:Nat)(hj:j=20): Ct Tryz.prog RES (sU [.s (.pb 2 b 0)] [.rs 2 fun _=>CliR c0 (run c0 skC p3 j).1 b] 3
  [.g [.l .i64 20,.s 3 (run c0 skC p3 j).1.res.ws.length,.s 4 (run c0 skC p3 j).1.res.ks.length,.i .u64 (run c0 skC p3 j).1.res.n,.i .i64 (run c0 skC p3 j).1.res.cm]] [.rs 2 fun _=>CliR c0 (run c0 skC p3 j).1 b,.sl 3 (encI .u64) 0 1 (run c0 skC p3 j).1.res.ws 54,.sl 4 (encI .i64) 0 1 (run c0 skC p3 j).1.res.ks 3]):=by
 subst hj
 exact cast (by kernel_rfl) (t_Res c0 (run c0 skC p3 20).1 b (by kernel_rfl) (of_decide_eq_true (by kernel_rfl)) (of_decide_eq_true (by kernel_rfl)))
theorem t_awake(F:Fr)(hF:HF F): CtF Tryz.prog F 9 (sU [] [] 0 [.s .yes] []):=by
 refine cF 68 xwI Tryz.func9 fun g => ?_
 refine xCy [] [] (Tg.l [Tg.c,Tg.c,Tg.c,Tg.c,Tg.c,Tg.c,Tg.c,Tg.c,Tg.c]) ⟨[],40⟩ Tryz.call33 (fun F' h=>(t_cfg0).fr) fun _ n1 _ => ?_
 refine xN fun b2 => ?_
 refine xCy [] [] ((Tg.l [Tg.i 42,Tg.c])) ⟨[(40,[.c,.c,.c,.c,.c,.c,.c,.c,.c]),(42,[.i 43,.n,.n,.n,.n,.n,.c]),(43,[])],82⟩ Tryz.call38 (fun F' h=>(t_Make0).fr) fun _ n4 _ => ?_
 refine xCy [] [] (Tg.i 82) ⟨[(40,[.c,.c,.c,.c,.c,.c,.c,.c,.c]),(42,[.i 43,.n,.n,.n,.n,.n,.c]),(43,[]),(82,[.i 83]),(83,[.c,.c,.c,.c,.c,.c])],122⟩ Tryz.call35 (fun F' h=>(t_sch).fr) fun _ n7 _ => ?_
 refine xCy [⟨(n7 0).b,none,0⟩,⟨(n7 1).b,none,0⟩] [3,4] (Tg.i 122) ⟨[(40,[.c,.c,.c,.c,.c,.c,.c,.c,.c]),(42,[.i 43,.n,.n,.n,.n,.n,.c]),(43,[]),(122,[])],162⟩ Tryz.call34 (fun F' h=>(t_awN).fr) fun xn11 n11 hxn11 => ?_
 refine xN fun b12 => ?_
 refine xW0 _ (view_nil (encI .i64) 0 1 55 (sizedI _)) (xW0 _ (view_idx [1,2,3,4,5] (by kernel_rfl)) (xLoop xwI Tryz.func9 [0,1,0,1,1,1,1,1,1,1] [.b 0,.c [1,1,1,1,1,1,1,1]] [2,4,5,6,7] [0,1,2,3,4] (fun i:Nat×Option Addr×Nat=>[(2,.pointer (some ⟨(n4 0).b,0,none⟩)),(4,.pointer (some ⟨xn11,0,none⟩)),(5,.slice i.2.1 (cds i.1).length i.2.2),(6,.slice (some ⟨b12,0,none⟩) 3 3),(7,.int .i64 i.1)]) (fun _=>[(2,.i 0),(4,.i 2),(5,.i 4),(6,.i 3),(7,.c)]) (fun i=>(ARp (S4 i.1).2 0 1).map (SE.e n4)++[.res (CliR c0 (S4 i.1).1 xn11),.pts b12 opC 32,.sl i.2.1 i.2.2 (encI .i64) 0 1 (cds i.1) 55]) (fun _=>⟨[(0,[.i 1,.n,.n,.n,.n,.n,.c]),(1,[]),(2,[]),(3,[.c,.c,.c,.c,.c,.c,.c,.c,.c,.c,.c,.c,.c,.c,.c,.c,.c,.c]),(4,[])],10⟩) (fun i=>i.1≤3) (fun i=>3-i.1) (0,none,0) (by simp) (elimR (fun a c J hJ => ?_) (fun a c J hJ => ?_) (fun a c J hJ => ?_) (fun a c J hJ => ?_))) sc_st) sc_st
 ·skip
  refine xCy [⟨0,none,0⟩,⟨0,none,0⟩,⟨0,none,0⟩] [2] (Tg.c) ⟨[(0,[.i 1,.n,.n,.n,.n,.n,.c]),(1,[]),(3,[.c,.c,.c,.c,.c,.c,.c,.c,.c,.c,.c,.c,.c,.c,.c,.c,.c,.c]),(4,[]),(2,[])],50⟩ Tryz.call13 (fun F' h=>(t_b1 (xn11)).fr) fun _ n1 _ => ?_
  refine xW0 _ (view_idx [0,1,4,2,3] (by kernel_rfl)) (xLoop xwI Tryz.func9 [0,1,0,1,0,0,1,0,0,1,0,1,1,1,1,1,1,1] [.b 2,.c [1,1,0,0,1,0,0,1,0,1,1,1,1,1,1,1],.b 1,.c [1,1,0,0,1,0,1,1,1,1,1,1,1],.j J,.b 0,.c [1,1,1,1,1,1,1,1]] [2,4,5,6,7,8] [0,1,2,3,4] (fun j:Nat=>[(2,.pointer (some ⟨(n4 0).b,0,none⟩)),(4,.pointer (some ⟨xn11,0,none⟩)),(5,.slice a ([]:List Int).length c),(6,.slice (some ⟨b12,0,none⟩) 3 3),(7,.int .i64 0),(8,.int .i64 j)]) (fun _=>[(2,.i 0),(4,.i 2),(5,.i 4),(6,.i 3),(7,.c)]) (fun j=>(ARp (run c0 skC p1 j).2 0 1).map (SE.e n4)++[.res (CliR c0 (run c0 skC p1 j).1 xn11),.pts b12 opC 32,.sl a c (encI .i64) 0 1 ([]:List Int) 55]) (fun _=>⟨[(0,[.i 1,.n,.n,.n,.n,.n,.c]),(1,[]),(2,[]),(3,[.c,.c,.c,.c,.c,.c,.c,.c,.c,.c,.c,.c,.c,.c,.c,.c,.c,.c]),(4,[])],10⟩) (fun j=>j≤20) (fun j=>20-j) 0 (by omega) (fun j J2 hI hJ2 => ?_)) sc_st
  refine xB (decide ((↑j:Int)<(20:Int))) (fun h2 => ?_) (fun h2 => ?_)
  ·skip
   replace h2:=decT h2
   refine xCy [⟨(n4 0).b,none,0⟩,⟨0,(n4 1).a,(n4 1).c⟩,⟨0,none,0⟩] [0,1,2] (Tg.n) ⟨[(3,[.c,.c,.c,.c,.c,.c,.c,.c,.c,.c,.c,.c,.c,.c,.c,.c,.c,.c]),(4,[]),(0,[.i 1,.n,.n,.n,.n,.n,.c]),(1,[]),(2,[])],52⟩ Tryz.call14 (fun F' h=>t_st1 (xn11) (j) (by omega) F' (hF.mono h)) fun _ n4 _ => ?_
   refine xO (InK IntKind.i64 (↑j+1)) (by simp only [InK] at *; omega) ?_
   exact xW0 _ (view_idx [2,3,4,0,1] (by kernel_rfl)) (xJ hJ2 (j+1) (show 20-(j+1)<20-j by omega) (show j+1≤20 by omega)) sc_st
  ·skip
   replace h2:=decF h2
   refine xCy [⟨0,none,0⟩,⟨0,none,0⟩,⟨0,none,0⟩] [2] (Tg.l [Tg.c,Tg.i 12,Tg.i 13,Tg.n,Tg.n]) ⟨[(0,[.i 1,.n,.n,.n,.n,.n,.c]),(1,[]),(3,[.c,.c,.c,.c,.c,.c,.c,.c,.c,.c,.c,.c,.c,.c,.c,.c,.c,.c]),(4,[]),(2,[]),(12,[]),(13,[])],52⟩ Tryz.call19 (fun F' h=>(t_rs1 (xn11) (j) (by omega)).fr) fun _ n7 _ => ?_
   refine xN fun b8 => ?_
   refine xAp 3 (a) (c) (encI .i64) 0 1 ([]) 55 [12] (.i 4) (oneI _) 8 (.slice (some ⟨b8,0,none⟩) 1 1) (by first | (simp; done) | (simp; omega)) (fun F=>(src_pts (i:=7) (n:=1) (c:=1) (cs:=cellsOf (encI .i64) [12]) (t:=55) (by kernel_rfl))) (fun a3_ c3_ => ?_)
   exact xW0 _ (view_pick (L':=(ARp (S4 1).2 0 1).map (SE.e n4)++[.res (CliR c0 (S4 1).1 xn11),.pts b12 opC 32,.sl a3_ c3_ (encI .i64) 0 1 (cds 1) 55]) [0,1,4,2,3] (by obtain rfl:j=20:=(by omega); kernel_rfl)) (xJ hJ (1,a3_,c3_) (show 3-1<3-0 by decide) (show 1≤3 by decide)) sc_st
 ·skip
  refine xCy [⟨0,none,0⟩,⟨0,none,0⟩,⟨0,none,0⟩] [2] (Tg.c) ⟨[(0,[.i 1,.n,.n,.n,.n,.n,.c]),(1,[]),(3,[.c,.c,.c,.c,.c,.c,.c,.c,.c,.c,.c,.c,.c,.c,.c,.c,.c,.c]),(4,[]),(2,[])],50⟩ Tryz.call13 (fun F' h=>(t_b2 (xn11)).fr) fun _ n1 _ => ?_
  refine xW0 _ (view_idx [0,1,4,2,3] (by kernel_rfl)) (xLoop xwI Tryz.func9 [0,1,0,1,0,0,1,0,0,1,0,1,1,1,1,1,1,1] [.b 2,.c [1,1,0,0,1,0,0,1,0,1,1,1,1,1,1,1],.b 1,.c [1,1,0,0,1,0,1,1,1,1,1,1,1],.j J,.b 0,.c [1,1,1,1,1,1,1,1]] [2,4,5,6,7,8] [0,1,2,3,4] (fun j:Nat=>[(2,.pointer (some ⟨(n4 0).b,0,none⟩)),(4,.pointer (some ⟨xn11,0,none⟩)),(5,.slice a ([12]:List Int).length c),(6,.slice (some ⟨b12,0,none⟩) 3 3),(7,.int .i64 1),(8,.int .i64 j)]) (fun _=>[(2,.i 0),(4,.i 2),(5,.i 4),(6,.i 3),(7,.c)]) (fun j=>(ARp (run c0 skC p2 j).2 0 1).map (SE.e n4)++[.res (CliR c0 (run c0 skC p2 j).1 xn11),.pts b12 opC 32,.sl a c (encI .i64) 0 1 ([12]:List Int) 55]) (fun _=>⟨[(0,[.i 1,.n,.n,.n,.n,.n,.c]),(1,[]),(2,[]),(3,[.c,.c,.c,.c,.c,.c,.c,.c,.c,.c,.c,.c,.c,.c,.c,.c,.c,.c]),(4,[])],10⟩) (fun j=>j≤20) (fun j=>20-j) 0 (by omega) (fun j J2 hI hJ2 => ?_)) sc_st
  refine xB (decide ((↑j:Int)<(20:Int))) (fun h2 => ?_) (fun h2 => ?_)
  ·skip
   replace h2:=decT h2
   refine xCy [⟨(n4 0).b,none,0⟩,⟨0,(n4 1).a,(n4 1).c⟩,⟨0,none,0⟩] [0,1,2] (Tg.n) ⟨[(3,[.c,.c,.c,.c,.c,.c,.c,.c,.c,.c,.c,.c,.c,.c,.c,.c,.c,.c]),(4,[]),(0,[.i 1,.n,.n,.n,.n,.n,.c]),(1,[]),(2,[])],52⟩ Tryz.call14 (fun F' h=>t_st2 (xn11) (j) (by omega) F' (hF.mono h)) fun _ n4 _ => ?_
   refine xO (InK IntKind.i64 (↑j+1)) (by simp only [InK] at *; omega) ?_
   exact xW0 _ (view_idx [2,3,4,0,1] (by kernel_rfl)) (xJ hJ2 (j+1) (show 20-(j+1)<20-j by omega) (show j+1≤20 by omega)) sc_st
  ·skip
   replace h2:=decF h2
   refine xCy [⟨0,none,0⟩,⟨0,none,0⟩,⟨0,none,0⟩] [2] (Tg.l [Tg.c,Tg.i 12,Tg.i 13,Tg.n,Tg.n]) ⟨[(0,[.i 1,.n,.n,.n,.n,.n,.c]),(1,[]),(3,[.c,.c,.c,.c,.c,.c,.c,.c,.c,.c,.c,.c,.c,.c,.c,.c,.c,.c]),(4,[]),(2,[]),(12,[]),(13,[])],52⟩ Tryz.call19 (fun F' h=>(t_rs2 (xn11) (j) (by omega)).fr) fun _ n7 _ => ?_
   refine xN fun b8 => ?_
   refine xAp 3 (a) (c) (encI .i64) 0 1 ([12]) 55 [0] (.i 4) (oneI _) 8 (.slice (some ⟨b8,0,none⟩) 1 1) (by first | (simp; done) | (simp; omega)) (fun F=>(src_pts (i:=7) (n:=1) (c:=1) (cs:=cellsOf (encI .i64) [0]) (t:=55) (by kernel_rfl))) (fun a3_ c3_ => ?_)
   exact xW0 _ (view_pick (L':=(ARp (S4 2).2 0 1).map (SE.e n4)++[.res (CliR c0 (S4 2).1 xn11),.pts b12 opC 32,.sl a3_ c3_ (encI .i64) 0 1 (cds 2) 55]) [0,1,4,2,3] (by obtain rfl:j=20:=(by omega); kernel_rfl)) (xJ hJ (2,a3_,c3_) (show 3-2<3-1 by decide) (show 2≤3 by decide)) sc_st
 ·skip
  refine xCy [⟨0,none,0⟩,⟨0,none,0⟩,⟨0,none,0⟩] [2] (Tg.c) ⟨[(0,[.i 1,.n,.n,.n,.n,.n,.c]),(1,[]),(3,[.c,.c,.c,.c,.c,.c,.c,.c,.c,.c,.c,.c,.c,.c,.c,.c,.c,.c]),(4,[]),(2,[])],50⟩ Tryz.call13 (fun F' h=>(t_b3 (xn11)).fr) fun _ n1 _ => ?_
  refine xW0 _ (view_idx [0,1,4,2,3] (by kernel_rfl)) (xLoop xwI Tryz.func9 [0,1,0,1,0,0,1,0,0,1,0,1,1,1,1,1,1,1] [.b 2,.c [1,1,0,0,1,0,0,1,0,1,1,1,1,1,1,1],.b 1,.c [1,1,0,0,1,0,1,1,1,1,1,1,1],.j J,.b 0,.c [1,1,1,1,1,1,1,1]] [2,4,5,6,7,8] [0,1,2,3,4] (fun j:Nat=>[(2,.pointer (some ⟨(n4 0).b,0,none⟩)),(4,.pointer (some ⟨xn11,0,none⟩)),(5,.slice a ([12,0]:List Int).length c),(6,.slice (some ⟨b12,0,none⟩) 3 3),(7,.int .i64 2),(8,.int .i64 j)]) (fun _=>[(2,.i 0),(4,.i 2),(5,.i 4),(6,.i 3),(7,.c)]) (fun j=>(ARp (run c0 skC p3 j).2 0 1).map (SE.e n4)++[.res (CliR c0 (run c0 skC p3 j).1 xn11),.pts b12 opC 32,.sl a c (encI .i64) 0 1 ([12,0]:List Int) 55]) (fun _=>⟨[(0,[.i 1,.n,.n,.n,.n,.n,.c]),(1,[]),(2,[]),(3,[.c,.c,.c,.c,.c,.c,.c,.c,.c,.c,.c,.c,.c,.c,.c,.c,.c,.c]),(4,[])],10⟩) (fun j=>j≤20) (fun j=>20-j) 0 (by omega) (fun j J2 hI hJ2 => ?_)) sc_st
  refine xB (decide ((↑j:Int)<(20:Int))) (fun h2 => ?_) (fun h2 => ?_)
  ·skip
   replace h2:=decT h2
   refine xCy [⟨(n4 0).b,none,0⟩,⟨0,(n4 1).a,(n4 1).c⟩,⟨0,none,0⟩] [0,1,2] (Tg.n) ⟨[(3,[.c,.c,.c,.c,.c,.c,.c,.c,.c,.c,.c,.c,.c,.c,.c,.c,.c,.c]),(4,[]),(0,[.i 1,.n,.n,.n,.n,.n,.c]),(1,[]),(2,[])],52⟩ Tryz.call14 (fun F' h=>t_st3 (xn11) (j) (by omega) F' (hF.mono h)) fun _ n4 _ => ?_
   refine xO (InK IntKind.i64 (↑j+1)) (by simp only [InK] at *; omega) ?_
   exact xW0 _ (view_idx [2,3,4,0,1] (by kernel_rfl)) (xJ hJ2 (j+1) (show 20-(j+1)<20-j by omega) (show j+1≤20 by omega)) sc_st
  ·skip
   replace h2:=decF h2
   refine xCy [⟨0,none,0⟩,⟨0,none,0⟩,⟨0,none,0⟩] [2] (Tg.l [Tg.c,Tg.i 12,Tg.i 13,Tg.n,Tg.n]) ⟨[(0,[.i 1,.n,.n,.n,.n,.n,.c]),(1,[]),(3,[.c,.c,.c,.c,.c,.c,.c,.c,.c,.c,.c,.c,.c,.c,.c,.c,.c,.c]),(4,[]),(2,[]),(12,[]),(13,[])],52⟩ Tryz.call19 (fun F' h=>(t_rs3 (xn11) (j) (by omega)).fr) fun _ n7 _ => ?_
   refine xN fun b8 => ?_
   refine xAp 3 (a) (c) (encI .i64) 0 1 ([12,0]) 55 [20] (.i 4) (oneI _) 8 (.slice (some ⟨b8,0,none⟩) 1 1) (by first | (simp; done) | (simp; omega)) (fun F=>(src_pts (i:=7) (n:=1) (c:=1) (cs:=cellsOf (encI .i64) [20]) (t:=55) (by kernel_rfl))) (fun a3_ c3_ => ?_)
   exact xW0 _ (view_pick (L':=(ARp (S4 3).2 0 1).map (SE.e n4)++[.res (CliR c0 (S4 3).1 xn11),.pts b12 opC 32,.sl a3_ c3_ (encI .i64) 0 1 (cds 3) 55]) [0,1,4,2,3] (by obtain rfl:j=20:=(by omega); kernel_rfl)) (xJ hJ (3,a3_,c3_) (show 3-3<3-2 by decide) (show 3≤3 by decide)) sc_st
 ·skip
  refine xO ((cds (3:Nat)).length≤(cds (3:Nat)).length∧(0:Int)≤(0:Int)∧(0:Int)<(↑(cds (3:Nat)).length:Int)) (by decide) ?_
  refine xO (Int.toNat 0<(cds 3).length) (by decide) ?_
  refine xT ((12:Int)==(12:Int)) rfl ?_
  refine xO ((3:Nat)≤(cds (3:Nat)).length∧(0:Int)≤(1:Int)∧(1:Int)<(↑(3:Nat):Int)) (by decide) ?_
  refine xO (Int.toNat 1<(cds 3).length) (by decide) ?_
  refine xT ((0:Int)==(0:Int)) rfl ?_
  refine xO ((3:Nat)≤(cds (3:Nat)).length∧(0:Int)≤(2:Int)∧(2:Int)<(↑(3:Nat):Int)) (by decide) ?_
  refine xO (Int.toNat 2<(cds 3).length) (by decide) ?_
  exact xR () trivial
end Go.Proofs.YtnnoeefjnpcfnaaGreatDoor
/- The law ClientNil, as it is run. -/
set_option linter.unusedSimpArgs false
set_option maxRecDepth 100000
set_option maxHeartbeats 0
namespace Go.Proofs.YtnnoeefjnpcfnaaGreatDoor
open Go.Sx
theorem t_NewI(id:Int)(h:0≤id∧id<3): Ct Tryz.prog 34 (⟨[.g cfgL0,.s (.sp 0 1 1),.s (.i .i64 id)],[schA 0 1,schB 1],2,fun _=>True,fun nb=>[.s (.pb 2 nb 0)],fun nb=>[.rs 2 fun _=>CliR c0 (newCk id) nb]⟩:Sp Nat):=cast (by kernel_rfl) (t_New c0 c0_ok id (show 0≤id∧id<c0.clients from h))
theorem t_NewO(id:Int)(h:id<0∨3≤id): Ct Tryz.prog 34 (sU [.g cfgL0,.s (.sp 0 1 1),.s (.i .i64 id)] [schA 0 1,schB 1] 2 [.s .np] [schA 0 1,schB 1]):=cast (by kernel_rfl) (t_NewB c0 c0_ok id (show id<0∨c0.clients≤id from h))
theorem t_New1: Ct Tryz.prog 34 (⟨[.g cfgL0,.s (.sp 0 1 1),.s (.l .i64 1)],[schA 0 1,schB 1],2,fun _=>True,fun nb=>[.s (.pb 2 nb 0)],fun nb=>[.rs 2 fun _=>CliR c0 (newCk 1) nb]⟩:Sp Nat):=cast (by kernel_rfl) (t_NewI 1 (by omega))
theorem t_NewL: Ct Tryz.prog 34 (sU [.g cfgL0,.s .ns,.s (.l .i64 0)] [] 0 [.s .np] []):=cast (by kernel_rfl) (t_NewN c0 c0_ok 0)
theorem t_bgN(kd ke hd:Int)(lg:Bool)(v1 v2:Value): Ct Tryz.prog BGN (sU [.s .np,.g [.i .i64 kd,.i .i64 ke,.bo lg,.o v1,.i .i64 hd,.o v2]] [] 0 [.s .no] []):=by
 refine cX 83 xqI Tryz.func13 fun g F => ?_
 refine xN fun b1 => ?_
 exact xR () trivial
theorem t_rsN: Ct Tryz.prog RES (sU [.s .np] [] 0 [.g [.l .i64 0,.ns,.ns,.l .u64 0,.l .i64 0]] []):=by
 refine cX 20 xqI Tryz.func19 fun g F => ?_
 refine xN fun b1 => ?_
 exact xR () trivial
theorem beg_is(kd:Int): ((newCk 1).begin c0 kd 1 false [1] 0 []).2=decide (1≤kd∧kd≤9):=by
 by_cases h:1≤kd∧kd≤9
 ·rw [decide_eq_true h]; exact ck_beg rfl h
 ·rw [decide_eq_false h]
  unfold Ck.begin
  rw [if_pos (by omega)]
theorem t_beK(b:Nat)(kd:Int): Ct Tryz.prog BGN (⟨[.s (.pb 2 b 0),.g [.i .i64 kd,.l .i64 1,.no,.sp 0 1 1,.l .i64 0,.ns]],[.rs 2 fun _=>CliR c0 (newCk 1) b,.pts 0 [.l .u64 1] 54],3,fun _=>True,
  fun _=>[.s (.bo (decide (1≤kd∧kd≤9)))],fun _=>[.rs 2 fun _=>CliR c0 ((newCk 1).begin c0 kd 1 false [1] 0 []).1 b]⟩:Sp Unit):=by
 intro g F w hi
 have hi':In [.res (CliR c0 (newCk 1) b),.pts (g 0).b (cellsOf (encI .u64) [1]) 54] F w:=hi
 have hi2:=view_lit (L:=[.res (CliR c0 (newCk 1) b),.pts (g 0).b (cellsOf (encI .u64) [1]) 54]) 1 (b:=(g 0).b) .u64 [1] 54 (by decide) rfl F w hi'
 have hin:In ([.res (CliR c0 (newCk 1) b)]++(opR [1] []).map (SE.e fun r=>bif Nat.beq r 0 then⟨0,some ⟨(g 0).b,0,none⟩,1⟩ else⟨0,none,0⟩)) F w:=by
  obtain⟨f,hf,hfit,hr⟩:=hi2
  exact⟨f,dens_snoc (x:=.sl none 0 (encI .i64) 0 1 [] 3) ⟨sizedI _,.inl ⟨rfl,rfl,rfl,rfl⟩⟩ hf,hfit,hr⟩
 refine(t_beginF c0_ok (k:=newCk 1) rfl rfl rfl b kd 1 0 false [1] [] (by simp) (by simp) (fun r=>bif Nat.beq r 0 then⟨0,some ⟨(g 0).b,0,none⟩,1⟩ else⟨0,none,0⟩) F w hin).mono ?_
 rintro e w' ⟨v,L',rfl,⟨x,ν,_,rfl,rfl⟩,hw⟩
 refine⟨_,_,rfl,⟨(),ν,trivial, ?_,rfl⟩, ?_⟩
 ·show retV _ [.s (.bo ((newCk 1).begin c0 kd 1 false [1] 0 []).2)] = _
  rw [beg_is]; rfl
 ·exact view_idx (L:=[.res (CliR c0 ((newCk 1).begin c0 kd 1 false [1] 0 []).1 b),.sl (some ⟨(g 0).b,0,none⟩) 1 (encI .u64) 0 1 [1] 54,.sl none 0 (encI .i64) 0 1 [] 3]) [0] rfl F w' hw
theorem law_a(kd id:Int)(h:0≤id∧id<3)(F:Fr)(hF:HF F): CtF Tryz.prog F 8 (⟨[.s (.i .i64 kd),.s (.i .i64 id)],[],0,fun x=>x=true,fun x=>[.s (.bo x)],fun _=>[]⟩:Sp Bool):=by
 refine cF 116 xwI Tryz.func8 fun g => ?_
 refine xCy [] [] (Tg.l [Tg.c,Tg.c,Tg.c,Tg.c,Tg.c,Tg.c,Tg.c,Tg.c,Tg.c]) ⟨[],40⟩ Tryz.call33 (fun F' h=>(t_cfg0).fr) fun _ n1 _ => ?_
 refine xN fun b2 => ?_
 refine xCy [] [] (Tg.i 42) ⟨[(40,[.c,.c,.c,.c,.c,.c,.c,.c,.c]),(42,[.i 43]),(43,[.c,.c,.c,.c,.c,.c])],82⟩ Tryz.call35 (fun F' h=>(t_sch).fr) fun _ n4 _ => ?_
 refine xCy [⟨(n4 0).b,none,0⟩,⟨(n4 1).b,none,0⟩] [1,2] (Tg.i 82) ⟨[(40,[.c,.c,.c,.c,.c,.c,.c,.c,.c]),(82,[])],122⟩ Tryz.call34 (fun F' h=>(t_NewI (id) (by omega)).fr) fun xn8 n8 hxn8 => ?_
 refine xCy [] [] (Tg.i 122) ⟨[(40,[.c,.c,.c,.c,.c,.c,.c,.c,.c]),(82,[]),(122,[.i 123]),(123,[.c,.c,.c,.c,.c,.c])],162⟩ Tryz.call35 (fun F' h=>(t_sch).fr) fun _ n10 _ => ?_
 refine xCy [⟨(n10 0).b,none,0⟩,⟨(n10 1).b,none,0⟩] [2,3] (Tg.i 162) ⟨[(40,[.c,.c,.c,.c,.c,.c,.c,.c,.c]),(82,[]),(162,[])],202⟩ Tryz.call34 (fun F' h=>(t_New1).fr) fun xn13 n13 hxn13 => ?_
 refine xN fun b14 => ?_
 refine xCy [⟨b14,none,0⟩,⟨0,none,0⟩,⟨0,none,0⟩] [2,3] (Tg.n) ⟨[(40,[.c,.c,.c,.c,.c,.c,.c,.c,.c]),(82,[]),(162,[])],244⟩ Tryz.call13 (fun F' h=>(t_beK (xn13) (kd)).fr) fun _ n21 _ => ?_
 refine xN fun b22 => ?_
 refine xN fun b23 => ?_
 refine xCy [] [] (Tg.c) ⟨[(40,[.c,.c,.c,.c,.c,.c,.c,.c,.c]),(82,[]),(162,[]),(245,[.c,.c,.c,.c,.c]),(247,[.c,.c,.c,.c,.c])],289⟩ Tryz.call9 (fun F' h=>t_awake F' (hF.mono h)) fun _ n34 _ => ?_
 refine xCy [] [] (Tg.c) ⟨[(40,[.c,.c,.c,.c,.c,.c,.c,.c,.c]),(82,[]),(162,[]),(245,[.c,.c,.c,.c,.c]),(247,[.c,.c,.c,.c,.c])],329⟩ Tryz.call13 (fun F' h=>(t_bgN (1) (1) (0) (false) (Value.slice none 0 0) (Value.slice none 0 0)).fr) fun _ n42 _ => ?_
 refine xCy [] [] (Tg.c) ⟨[(40,[.c,.c,.c,.c,.c,.c,.c,.c,.c]),(82,[]),(162,[]),(245,[.c,.c,.c,.c,.c]),(247,[.c,.c,.c,.c,.c])],369⟩ Tryz.call14 (fun F' h=>(t_stepN (Value.pointer none)).fr) fun _ n52 _ => ?_
 refine xCy [] [] (Tg.l [Tg.c,Tg.c,Tg.c,Tg.c,Tg.c]) ⟨[(40,[.c,.c,.c,.c,.c,.c,.c,.c,.c]),(82,[]),(162,[]),(245,[.c,.c,.c,.c,.c]),(247,[.c,.c,.c,.c,.c])],409⟩ Tryz.call19 (fun F' h=>(t_rsN).fr) fun _ n61 _ => ?_
 refine xT (decide (id≥0)) (by first | (simp; done) | (simp; omega)) ?_
 refine xT (true==decide (id<3)) (by first | (simp; done) | (simp; omega)) ?_
 refine xCy [] [] (Tg.i 414) ⟨[(40,[.c,.c,.c,.c,.c,.c,.c,.c,.c]),(82,[]),(162,[]),(245,[.c,.c,.c,.c,.c]),(247,[.c,.c,.c,.c,.c]),(414,[.i 415]),(415,[.c,.c,.c,.c,.c,.c])],454⟩ Tryz.call35 (fun F' h=>(t_sch).fr) fun _ n63 _ => ?_
 refine xCy [⟨(n63 0).b,none,0⟩,⟨(n63 1).b,none,0⟩] [5,6] (Tg.c) ⟨[(40,[.c,.c,.c,.c,.c,.c,.c,.c,.c]),(82,[]),(162,[]),(245,[.c,.c,.c,.c,.c]),(247,[.c,.c,.c,.c,.c]),(414,[.i 415]),(415,[.c,.c,.c,.c,.c,.c])],494⟩ Tryz.call34 (fun F' h=>(t_NewZ (0)).fr) fun _ n69 _ => ?_
 refine xCy [] [] (Tg.c) ⟨[(40,[.c,.c,.c,.c,.c,.c,.c,.c,.c]),(82,[]),(162,[]),(245,[.c,.c,.c,.c,.c]),(247,[.c,.c,.c,.c,.c]),(414,[.i 415]),(415,[.c,.c,.c,.c,.c,.c])],534⟩ Tryz.call34 (fun F' h=>(t_NewL).fr) fun _ n74 _ => ?_
 refine xB (decide (kd≥1)) (fun h75 => ?_) (fun h75 => ?_)
 ·skip
  replace h75:=decT h75
  exact xR (decide (1≤kd∧kd≤9)==decide (kd≤9)) (by simp; omega)
 ·skip
  replace h75:=decF h75
  exact xR (decide (1≤kd∧kd≤9)==false) (by simp; omega)
theorem law_b(kd id:Int)(h:id<0∨3≤id)(F:Fr)(hF:HF F): CtF Tryz.prog F 8 (⟨[.s (.i .i64 kd),.s (.i .i64 id)],[],0,fun x=>x=true,fun x=>[.s (.bo x)],fun _=>[]⟩:Sp Bool):=by
 refine cF 116 xwI Tryz.func8 fun g => ?_
 refine xCy [] [] (Tg.l [Tg.c,Tg.c,Tg.c,Tg.c,Tg.c,Tg.c,Tg.c,Tg.c,Tg.c]) ⟨[],40⟩ Tryz.call33 (fun F' h=>(t_cfg0).fr) fun _ n1 _ => ?_
 refine xN fun b2 => ?_
 refine xCy [] [] (Tg.i 42) ⟨[(40,[.c,.c,.c,.c,.c,.c,.c,.c,.c]),(42,[.i 43]),(43,[.c,.c,.c,.c,.c,.c])],82⟩ Tryz.call35 (fun F' h=>(t_sch).fr) fun _ n4 _ => ?_
 refine xCy [⟨(n4 0).b,none,0⟩,⟨(n4 1).b,none,0⟩] [1,2] (Tg.c) ⟨[(40,[.c,.c,.c,.c,.c,.c,.c,.c,.c]),(42,[.i 43]),(43,[.c,.c,.c,.c,.c,.c])],122⟩ Tryz.call34 (fun F' h=>(t_NewO (id) (by omega)).fr) fun _ n8 _ => ?_
 refine xCy [] [] (Tg.i 122) ⟨[(40,[.c,.c,.c,.c,.c,.c,.c,.c,.c]),(42,[.i 43]),(43,[.c,.c,.c,.c,.c,.c]),(122,[.i 123]),(123,[.c,.c,.c,.c,.c,.c])],162⟩ Tryz.call35 (fun F' h=>(t_sch).fr) fun _ n10 _ => ?_
 refine xCy [⟨(n10 0).b,none,0⟩,⟨(n10 1).b,none,0⟩] [3,4] (Tg.i 162) ⟨[(40,[.c,.c,.c,.c,.c,.c,.c,.c,.c]),(42,[.i 43]),(43,[.c,.c,.c,.c,.c,.c]),(162,[])],202⟩ Tryz.call34 (fun F' h=>(t_New1).fr) fun xn13 n13 hxn13 => ?_
 refine xN fun b14 => ?_
 refine xCy [⟨b14,none,0⟩,⟨0,none,0⟩,⟨0,none,0⟩] [3,4] (Tg.n) ⟨[(40,[.c,.c,.c,.c,.c,.c,.c,.c,.c]),(42,[.i 43]),(43,[.c,.c,.c,.c,.c,.c]),(162,[])],244⟩ Tryz.call13 (fun F' h=>(t_beK (xn13) (kd)).fr) fun _ n21 _ => ?_
 refine xN fun b22 => ?_
 refine xN fun b23 => ?_
 refine xCy [] [] (Tg.c) ⟨[(40,[.c,.c,.c,.c,.c,.c,.c,.c,.c]),(42,[.i 43]),(43,[.c,.c,.c,.c,.c,.c]),(162,[]),(245,[.c,.c,.c,.c,.c]),(247,[.c,.c,.c,.c,.c])],289⟩ Tryz.call9 (fun F' h=>t_awake F' (hF.mono h)) fun _ n34 _ => ?_
 refine xCy [] [] (Tg.c) ⟨[(40,[.c,.c,.c,.c,.c,.c,.c,.c,.c]),(42,[.i 43]),(43,[.c,.c,.c,.c,.c,.c]),(162,[]),(245,[.c,.c,.c,.c,.c]),(247,[.c,.c,.c,.c,.c])],329⟩ Tryz.call13 (fun F' h=>(t_bgN (1) (1) (0) (false) (Value.slice none 0 0) (Value.slice none 0 0)).fr) fun _ n42 _ => ?_
 refine xCy [] [] (Tg.c) ⟨[(40,[.c,.c,.c,.c,.c,.c,.c,.c,.c]),(42,[.i 43]),(43,[.c,.c,.c,.c,.c,.c]),(162,[]),(245,[.c,.c,.c,.c,.c]),(247,[.c,.c,.c,.c,.c])],369⟩ Tryz.call14 (fun F' h=>(t_stepN (Value.pointer none)).fr) fun _ n52 _ => ?_
 refine xCy [] [] (Tg.l [Tg.c,Tg.c,Tg.c,Tg.c,Tg.c]) ⟨[(40,[.c,.c,.c,.c,.c,.c,.c,.c,.c]),(42,[.i 43]),(43,[.c,.c,.c,.c,.c,.c]),(162,[]),(245,[.c,.c,.c,.c,.c]),(247,[.c,.c,.c,.c,.c])],409⟩ Tryz.call19 (fun F' h=>(t_rsN).fr) fun _ n61 _ => ?_
 refine xB (decide (id≥0)) (fun h62 => ?_) (fun h62 => ?_)
 ·skip
  replace h62:=decT h62
  refine xT (false==decide (id<3)) (by first | (simp; done) | (simp; omega)) ?_
  refine xCy [] [] (Tg.i 414) ⟨[(40,[.c,.c,.c,.c,.c,.c,.c,.c,.c]),(42,[.i 43]),(43,[.c,.c,.c,.c,.c,.c]),(162,[]),(245,[.c,.c,.c,.c,.c]),(247,[.c,.c,.c,.c,.c]),(414,[.i 415]),(415,[.c,.c,.c,.c,.c,.c])],454⟩ Tryz.call35 (fun F' h=>(t_sch).fr) fun _ n64 _ => ?_
  refine xCy [⟨(n64 0).b,none,0⟩,⟨(n64 1).b,none,0⟩] [6,7] (Tg.c) ⟨[(40,[.c,.c,.c,.c,.c,.c,.c,.c,.c]),(42,[.i 43]),(43,[.c,.c,.c,.c,.c,.c]),(162,[]),(245,[.c,.c,.c,.c,.c]),(247,[.c,.c,.c,.c,.c]),(414,[.i 415]),(415,[.c,.c,.c,.c,.c,.c])],494⟩ Tryz.call34 (fun F' h=>(t_NewZ (0)).fr) fun _ n70 _ => ?_
  refine xCy [] [] (Tg.c) ⟨[(40,[.c,.c,.c,.c,.c,.c,.c,.c,.c]),(42,[.i 43]),(43,[.c,.c,.c,.c,.c,.c]),(162,[]),(245,[.c,.c,.c,.c,.c]),(247,[.c,.c,.c,.c,.c]),(414,[.i 415]),(415,[.c,.c,.c,.c,.c,.c])],534⟩ Tryz.call34 (fun F' h=>(t_NewL).fr) fun _ n75 _ => ?_
  refine xB (decide (kd≥1)) (fun h76 => ?_) (fun h76 => ?_)
  ·skip
   replace h76:=decT h76
   exact xR (decide (1≤kd∧kd≤9)==decide (kd≤9)) (by simp; omega)
  ·skip
   replace h76:=decF h76
   exact xR (decide (1≤kd∧kd≤9)==false) (by simp; omega)
 ·skip
  replace h62:=decF h62
  refine xCy [] [] (Tg.i 411) ⟨[(40,[.c,.c,.c,.c,.c,.c,.c,.c,.c]),(42,[.i 43]),(43,[.c,.c,.c,.c,.c,.c]),(162,[]),(245,[.c,.c,.c,.c,.c]),(247,[.c,.c,.c,.c,.c]),(411,[.i 412]),(412,[.c,.c,.c,.c,.c,.c])],451⟩ Tryz.call35 (fun F' h=>(t_sch).fr) fun _ n78 _ => ?_
  refine xCy [⟨(n78 0).b,none,0⟩,⟨(n78 1).b,none,0⟩] [6,7] (Tg.c) ⟨[(40,[.c,.c,.c,.c,.c,.c,.c,.c,.c]),(42,[.i 43]),(43,[.c,.c,.c,.c,.c,.c]),(162,[]),(245,[.c,.c,.c,.c,.c]),(247,[.c,.c,.c,.c,.c]),(411,[.i 412]),(412,[.c,.c,.c,.c,.c,.c])],491⟩ Tryz.call34 (fun F' h=>(t_NewZ (0)).fr) fun _ n84 _ => ?_
  refine xCy [] [] (Tg.c) ⟨[(40,[.c,.c,.c,.c,.c,.c,.c,.c,.c]),(42,[.i 43]),(43,[.c,.c,.c,.c,.c,.c]),(162,[]),(245,[.c,.c,.c,.c,.c]),(247,[.c,.c,.c,.c,.c]),(411,[.i 412]),(412,[.c,.c,.c,.c,.c,.c])],531⟩ Tryz.call34 (fun F' h=>(t_NewL).fr) fun _ n89 _ => ?_
  refine xB (decide (kd≥1)) (fun h90 => ?_) (fun h90 => ?_)
  ·skip
   replace h90:=decT h90
   exact xR (decide (1≤kd∧kd≤9)==decide (kd≤9)) (by simp; omega)
  ·skip
   replace h90:=decF h90
   exact xR (decide (1≤kd∧kd≤9)==false) (by simp; omega)
end Go.Proofs.YtnnoeefjnpcfnaaGreatDoor

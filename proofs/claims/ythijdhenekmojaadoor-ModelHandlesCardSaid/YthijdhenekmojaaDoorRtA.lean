/- Walks: what functions of the program and of the document compute, part 1 of those on which ModelHandles rests. -/
import Derived.Test.YthijdhenekmojaaDoorMdA
import Derived.Test.YthijdhenekmojaaDoorChecked
import Derived.WalkKit
import Derived.LaidEql
import Derived.Stop.Asserts
import Derived.RowKitTokens

set_option linter.unusedVariables false
set_option linter.unusedSimpArgs false
/- Which functions are entered. -/
namespace Go.Proofs.YthijdhenekmojaaDoor
open Go.Sx
def xx: Cx:=⟨[3,4,5,6,7,8,9,10,11,12,13,14,15,16,17,18,19,20,21,22,23,24,25,26,27,28,29,30,31,32,33,34,35,36,37,38,39,40,41,42,43,44,45,46,47,48,49,50,51,52,53,54,58,59,60,61,62,63,67,68,69,70,71,72,73,74,75,76,77,78,79,80,81,82,83,84,121],[],[],[3,4,5,6,7,8,9,10,11,12,13,14,15,16,17,18,19,20,21,22,23,24,25,26,27,28,29,30,31,32,33,34,35,36,37,38,39,40,41,42,43,44,45,46,47,48,49,50,51,52,53,54,58,59,60,61,62,63,67,68,69,70,71,72,73,74,75,76,77,78,79,80,81,82,83,84,121]⟩
theorem xxI: Inl Tryd.prog xx:=inl_ok ⟨Tryd.call3,Tryd.call4,Tryd.call5,Tryd.call6,Tryd.call7,Tryd.call8,Tryd.call9,Tryd.call10,Tryd.call11,Tryd.call12,Tryd.call13,Tryd.call14,Tryd.call15,Tryd.call16,Tryd.call17,Tryd.call18,Tryd.call19,Tryd.call20,Tryd.call21,Tryd.call22,Tryd.call23,Tryd.call24,Tryd.call25,Tryd.call26,Tryd.call27,Tryd.call28,Tryd.call29,Tryd.call30,Tryd.call31,Tryd.call32,Tryd.call33,Tryd.call34,Tryd.call35,Tryd.call36,Tryd.call37,Tryd.call38,Tryd.call39,Tryd.call40,Tryd.call41,Tryd.call42,Tryd.call43,Tryd.call44,Tryd.call45,Tryd.call46,Tryd.call47,Tryd.call48,Tryd.call49,Tryd.call50,Tryd.call51,Tryd.call52,Tryd.call53,Tryd.call54,Tryd.call58,Tryd.call59,Tryd.call60,Tryd.call61,Tryd.call62,Tryd.call63,Tryd.call67,Tryd.call68,Tryd.call69,Tryd.call70,Tryd.call71,Tryd.call72,Tryd.call73,Tryd.call74,Tryd.call75,Tryd.call76,Tryd.call77,Tryd.call78,Tryd.call79,Tryd.call80,Tryd.call81,Tryd.call82,Tryd.call83,Tryd.call84,Tryd.call121,trivial⟩ trivial
def xa: Cx:=⟨[3,7,10,11,13,20,21,22,23,29,30,31,32,35,36,37,38,39,40,41,42,43,44,45,46,47,48,49,50,51,52,53,54,58,59,60,61,62,63,67,68,69,70,71,72,73,74,75,76,77,78,79,80,81,82,83,84,121],[],[],[3,7,10,11,13,20,21,22,23,29,30,31,32,35,36,37,38,39,40,41,42,43,44,45,46,47,48,49,50,51,52,53,54,58,59,60,61,62,63,67,68,69,70,71,72,73,74,75,76,77,78,79,80,81,82,83,84,121]⟩
theorem xaI: Inl Tryd.prog xa:=inl_ok ⟨Tryd.call3,Tryd.call7,Tryd.call10,Tryd.call11,Tryd.call13,Tryd.call20,Tryd.call21,Tryd.call22,Tryd.call23,Tryd.call29,Tryd.call30,Tryd.call31,Tryd.call32,Tryd.call35,Tryd.call36,Tryd.call37,Tryd.call38,Tryd.call39,Tryd.call40,Tryd.call41,Tryd.call42,Tryd.call43,Tryd.call44,Tryd.call45,Tryd.call46,Tryd.call47,Tryd.call48,Tryd.call49,Tryd.call50,Tryd.call51,Tryd.call52,Tryd.call53,Tryd.call54,Tryd.call58,Tryd.call59,Tryd.call60,Tryd.call61,Tryd.call62,Tryd.call63,Tryd.call67,Tryd.call68,Tryd.call69,Tryd.call70,Tryd.call71,Tryd.call72,Tryd.call73,Tryd.call74,Tryd.call75,Tryd.call76,Tryd.call77,Tryd.call78,Tryd.call79,Tryd.call80,Tryd.call81,Tryd.call82,Tryd.call83,Tryd.call84,Tryd.call121,trivial⟩ trivial
def xb: Cx:=⟨[3,4,5,6,7,10,11,13,14,15,16,20,21,22,23,25,29,30,31,32,35,36,37,38,39,40,41,42,43,44,45,46,47,48,49,50,51,52,53,54,58,59,60,61,62,63,67,68,69,70,71,72,73,74,75,76,77,78,79,80,81,82,83,84,121],[],[],[3,4,5,6,7,10,11,13,14,15,16,20,21,22,23,25,29,30,31,32,35,36,37,38,39,40,41,42,43,44,45,46,47,48,49,50,51,52,53,54,58,59,60,61,62,63,67,68,69,70,71,72,73,74,75,76,77,78,79,80,81,82,83,84,121]⟩
theorem xbI: Inl Tryd.prog xb:=inl_ok ⟨Tryd.call3,Tryd.call4,Tryd.call5,Tryd.call6,Tryd.call7,Tryd.call10,Tryd.call11,Tryd.call13,Tryd.call14,Tryd.call15,Tryd.call16,Tryd.call20,Tryd.call21,Tryd.call22,Tryd.call23,Tryd.call25,Tryd.call29,Tryd.call30,Tryd.call31,Tryd.call32,Tryd.call35,Tryd.call36,Tryd.call37,Tryd.call38,Tryd.call39,Tryd.call40,Tryd.call41,Tryd.call42,Tryd.call43,Tryd.call44,Tryd.call45,Tryd.call46,Tryd.call47,Tryd.call48,Tryd.call49,Tryd.call50,Tryd.call51,Tryd.call52,Tryd.call53,Tryd.call54,Tryd.call58,Tryd.call59,Tryd.call60,Tryd.call61,Tryd.call62,Tryd.call63,Tryd.call67,Tryd.call68,Tryd.call69,Tryd.call70,Tryd.call71,Tryd.call72,Tryd.call73,Tryd.call74,Tryd.call75,Tryd.call76,Tryd.call77,Tryd.call78,Tryd.call79,Tryd.call80,Tryd.call81,Tryd.call82,Tryd.call83,Tryd.call84,Tryd.call121,trivial⟩ trivial
end Go.Proofs.YthijdhenekmojaaDoor
/- Contracts of the config's and the rows' functions. -/
set_option maxRecDepth 100000
set_option maxHeartbeats 0
namespace Go.Proofs.YthijdhenekmojaaDoor
open Go.Sx
abbrev sU(args:List SA)(pre:List SE)(n:Nat)(ret:List SA)(post:List SE): Sp Unit:=⟨args,pre,n,fun _=>True,fun _=>ret,fun _=>post⟩
abbrev sB(args:List SA)(pre:List SE)(n:Nat)(b:Bool)(post:List SE): Sp Bool:=⟨args,pre,n,fun x=>x=b,fun x=>[.s (.bo x)],fun _=>post⟩
abbrev cfgS(c:Cfg): List SV:=[.i .i64 c.topics,.i .i64 c.small,.i .i64 c.slots,.i .i64 c.clients,.i .i64 c.s0,.i .i64 c.n0,.i .i64 c.s1,.i .i64 c.n1,.i .i64 c.retry]
theorem t_plan(c:Cfg)(hc:c.Ok): Ct Tryd.prog 9 (sU [.g (cfgS c)] [] 0 [.s .ni] []):=by
 simp only [Cfg.Ok] at hc
 refine cX 7 xxI Tryd.func9 fun g F => ?_
 refine xN fun b1 => ?_
 refine xN fun b2 => ?_
 refine xN fun b3 => ?_
 refine xN fun b4 => ?_
 refine xN fun b5 => ?_
 refine xN fun b6 => ?_
 refine xF (decide (c.topics<1)) (by first | (simp; done) | (simp; omega)) ?_
 refine xF (decide (c.topics>8)) (by first | (simp; done) | (simp; omega)) ?_
 refine xF (decide (c.small<4)) (by first | (simp; done) | (simp; omega)) ?_
 refine xF (decide (c.small>32)) (by first | (simp; done) | (simp; omega)) ?_
 refine xF (decide (c.slots<1)) (by first | (simp; done) | (simp; omega)) ?_
 refine xF (decide (c.slots>8)) (by first | (simp; done) | (simp; omega)) ?_
 refine xF (decide (c.clients<1)) (by first | (simp; done) | (simp; omega)) ?_
 refine xF (decide (c.clients>8)) (by first | (simp; done) | (simp; omega)) ?_
 refine xF (decide (c.retry<1)) (by first | (simp; done) | (simp; omega)) ?_
 refine xF (decide (c.retry>8)) (by first | (simp; done) | (simp; omega)) ?_
 refine xF (decide (c.s0<4)) (by first | (simp; done) | (simp; omega)) ?_
 refine xF (decide (c.s0>96)) (by first | (simp; done) | (simp; omega)) ?_
 refine xF (decide (c.n0<0)) (by first | (simp; done) | (simp; omega)) ?_
 refine xF (decide (c.n0>12)) (by first | (simp; done) | (simp; omega)) ?_
 refine xF (decide (c.s1<4)) (by first | (simp; done) | (simp; omega)) ?_
 refine xF (decide (c.s1>96)) (by first | (simp; done) | (simp; omega)) ?_
 refine xF (decide (c.n1<0)) (by first | (simp; done) | (simp; omega)) ?_
 refine xF (decide (c.n1>12)) (by first | (simp; done) | (simp; omega)) ?_
 refine xF (!decide (c.s1>c.s0)) (by first | (simp; done) | (simp; omega)) ?_
 exact xR () trivial
def mayB(k:Int): Bool:=decide (1≤k∧k≤2147483647)
theorem t_may(k:Int): Ct Tryd.prog 23 (sB [.s (.i .i64 k)] [] 0 (mayB k) []):=by
 refine cX 9 xxI Tryd.func23 fun g F => ?_
 refine xB (decide (k≥1)) (fun h1 => ?_) (fun h1 => ?_)
 ·skip
  replace h1:=decT h1
  exact xR (decide (k≤2147483647)) (by simp only [mayB]; simp; omega)
 ·skip
  replace h1:=decF h1
  exact xR (false) (by simp only [mayB]; simp; omega)
end Go.Proofs.YthijdhenekmojaaDoor
/- Where a key's search starts; which class words fit. -/
set_option maxRecDepth 100000
set_option maxHeartbeats 0
namespace Go.Proofs.YthijdhenekmojaaDoor
open Go.Sx
abbrev sI(args:List SA)(pre:List SE)(n:Nat)(fact:Int→Prop)(post:List SE): Sp Int:=⟨args,pre,n,fact,fun x=>[.s (.i .i64 x)],fun _=>post⟩
abbrev sW(args:List SA)(pre:List SE)(n:Nat)(fact:Int→Prop)(post:List SE): Sp Int:=⟨args,pre,n,fact,fun x=>[.s (.i .u64 x)],fun _=>post⟩
theorem wr64(r:Int): 0≤IntKind.u64.wrap r∧IntKind.u64.wrap r≤18446744073709551615:=by rw [wrapU64]; omega
theorem wr_id{x:Int}(h:0≤x∧x≤18446744073709551615): IntKind.u64.wrap x=x:=by rw [wrapU64]; omega
theorem t_mix(x:Int)(hx:InK .u64 x): Ct Tryd.prog 24 (sW [.s (.i .u64 x)] [] 0 (fun y=>0≤y∧y≤18446744073709551615) []):=by
 refine cX 17 xaI Tryd.func24 fun g F => ?_
 refine xO ((0:Int)≤(30:Int)) (by omega) ?_
 refine xO ((0:Int)≤(27:Int)) (by omega) ?_
 refine xO ((0:Int)≤(31:Int)) (by omega) ?_
 exact xR (IntKind.u64.wrap ↑(BitVec.ofInt IntKind.u64.bits (IntKind.u64.wrap (IntKind.u64.wrap ↑(BitVec.ofInt IntKind.u64.bits (IntKind.u64.wrap (IntKind.u64.wrap ↑(BitVec.ofInt IntKind.u64.bits x ^^^ BitVec.ofInt IntKind.u64.bits (bShr IntKind.u64 x 30)).toNat*13787848793156543929)) ^^^ BitVec.ofInt IntKind.u64.bits (bShr IntKind.u64 (IntKind.u64.wrap (IntKind.u64.wrap ↑(BitVec.ofInt IntKind.u64.bits x ^^^ BitVec.ofInt IntKind.u64.bits (bShr IntKind.u64 x 30)).toNat*13787848793156543929)) 27)).toNat*10723151780598845931)) ^^^ BitVec.ofInt IntKind.u64.bits (bShr IntKind.u64 (IntKind.u64.wrap (IntKind.u64.wrap ↑(BitVec.ofInt IntKind.u64.bits (IntKind.u64.wrap (IntKind.u64.wrap ↑(BitVec.ofInt IntKind.u64.bits x ^^^ BitVec.ofInt IntKind.u64.bits (bShr IntKind.u64 x 30)).toNat*13787848793156543929)) ^^^ BitVec.ofInt IntKind.u64.bits (bShr IntKind.u64 (IntKind.u64.wrap (IntKind.u64.wrap ↑(BitVec.ofInt IntKind.u64.bits x ^^^ BitVec.ofInt IntKind.u64.bits (bShr IntKind.u64 x 30)).toNat*13787848793156543929)) 27)).toNat*10723151780598845931)) 31)).toNat) (wr64 _)
theorem tm_rng{x t:Int}(hx:0≤x∧x≤18446744073709551615)(ht:1≤t∧t≤8): 0≤x.tmod (IntKind.u64.wrap t)∧x.tmod (IntKind.u64.wrap t)<8:=by
 rw [wr_id (by omega)]
 have h1:=Int.tmod_nonneg t hx.1
 have h2:=Int.tmod_lt_of_pos x (show 0<t by omega)
 omega
theorem tm_in{x t:Int}(hx:0≤x∧x≤18446744073709551615)(ht:1≤t∧t≤8): InK .i64 (x.tmod (IntKind.u64.wrap t)):=by
 have:=tm_rng hx ht
 simp only [InK]; omega
theorem t_start(c:Cfg)(hc:c.Ok)(k:Int): Ct Tryd.prog 12 (sI [.g (cfgS c),.s (.i .i64 k)] [] 0 (fun e=>e<0↔mayB k=false) []):=by
 have hc':=hc
 simp only [Cfg.Ok] at hc
 refine cX 21 xaI Tryd.func12 fun g F => ?_
 refine xN fun b1 => ?_
 refine xC Tryd.call9 (t_plan (c) (by omega)) fun _ n2 _ => ?_
 refine xB (decide (k≥1)) (fun h3 => ?_) (fun h3 => ?_)
 ·skip
  replace h3:=decT h3
  refine xB (!decide (k≤2147483647)) (fun h4 => ?_) (fun h4 => ?_)
  ·skip
   replace h4:=ntT h4
   replace h4:=decF h4
   exact xR (-1) (by simp [mayB]; omega)
  ·skip
   replace h4:=ntF h4
   replace h4:=decT h4
   refine xC Tryd.call24 (t_mix (IntKind.u64.wrap k) (wr64 _)) fun xn6 n6 hxn6 => ?_
   refine xO (IntKind.u64.wrap c.topics≠0) (by rw [wr_id (by omega)]; omega) ?_
   refine xO (InK IntKind.i64 (xn6.tmod (IntKind.u64.wrap c.topics))) (tm_in hxn6 (by omega)) ?_
   exact xR (xn6.tmod (IntKind.u64.wrap c.topics)) (by have:=(tm_rng hxn6 (show 1≤c.topics∧c.topics≤8 by omega)).1; simp [mayB]; omega)
 ·skip
  replace h3:=decF h3
  exact xR (-1) (by simp [mayB]; omega)
def fitsC(c:Cfg)(n:Int): Int:=if n<1 then -1 else if c.s0≥n then 0 else if c.s1≥n then 1 else -1
theorem t_fits(c:Cfg)(hc:c.Ok)(n:Int): Ct Tryd.prog 27 (sI [.g (cfgS c),.s (.i .i64 n)] [] 0 (fun e=>e=fitsC c n) []):=by
 refine cX 16 xaI Tryd.func27 fun g F => ?_
 refine xN fun b1 => ?_
 refine xN fun b2 => ?_
 refine xC Tryd.call9 (t_plan (c) (by omega)) fun _ n3 _ => ?_
 refine xB (decide (n<1)) (fun h4 => ?_) (fun h4 => ?_)
 ·skip
  replace h4:=decT h4
  exact xR (-1) (by unfold fitsC; omega)
 ·skip
  replace h4:=decF h4
  refine xT (decide ((0:Int)<(↑((2:Nat)-(0:Nat)):Int))) rfl ?_
  refine xN fun b5 => ?_
  refine xB (decide (c.s0≥n)) (fun h6 => ?_) (fun h6 => ?_)
  ·skip
   replace h6:=decT h6
   exact xR (0) (by unfold fitsC; omega)
  ·skip
   replace h6:=decF h6
   refine xT (decide (IntKind.i64.wrap ((0:Int)+(1:Int))<(↑((2:Nat)-(0:Nat)):Int))) rfl ?_
   refine xN fun b7 => ?_
   refine xB (decide (c.s1≥n)) (fun h8 => ?_) (fun h8 => ?_)
   ·skip
    replace h8:=decT h8
    exact xR (IntKind.i64.wrap (0+1)) (by show(1:Int) = _; unfold fitsC; omega)
   ·skip
    replace h8:=decF h8
    refine xF (decide (IntKind.i64.wrap (IntKind.i64.wrap ((0:Int)+(1:Int))+(1:Int))<(↑((2:Nat)-(0:Nat)):Int))) rfl ?_
    exact xR (-1) (by unfold fitsC; omega)
end Go.Proofs.YthijdhenekmojaaDoor
/- The model: what is created. -/
set_option maxRecDepth 100000
set_option maxHeartbeats 0
namespace Go.Proofs.YthijdhenekmojaaDoor
open Go.Sx
def ekI(k:Int): Value:=.int .i64 k
def evT(x:Bool×PRow): Value:=.agg #[.bool x.1,.slice x.2.a x.2.xs.length x.2.c]
theorem kI: KeyOk Tryd.prog 3 ekI:=keyOk_int (kk:=.i64) (by kernel_rfl)
theorem kH: KeyOk Tryd.prog 76 ekP:=keyOk_two (by kernel_rfl)
abbrev TopM:= List (Int×Bool×PRow)
abbrev HanM:= List ((Int×Int)×PRow)
abbrev dS(cl ki ke:Int)(la:Bool)(wo:SV)(ha:Int)(pa:SV)(co:Int)(rw rk:SV)(n cm fr to_:Int): List SV:=[.i .i64 cl,.l .i64 ki,.i .i64 ke,.bo la,wo,.i .i64 ha,pa,.i .i64 co,rw,rk,.i .u64 n,.i .i64 cm,.i .i64 fr,.i .i64 to_]
structure RT where
 b:Bool
 T:TopM
def createM(c:Cfg)(T:TopM)(ke:Int)(la:Bool)(co:Int): RT:=
 if mayB ke=false then⟨co==1,T⟩ else
 if co=0 then(if (kget T ke).isSome=true∨(T.length:Int)=c.topics then⟨false,T⟩ else⟨true,kset T ke (la,.nil)⟩) else
 if co=14 then⟨(kget T ke).isSome,T⟩ else
 if co=15 then⟨!(kget T ke).isSome&&((T.length:Int)==c.topics),T⟩ else⟨co==17,T⟩
abbrev mdl(c:Cfg)(sv hv:SV)(mt:Nat): SE:=.pts 0 (cfgS c++[sv,.mb 1 mt,hv]) 53
abbrev topR(mt:Nat)(T:TopM): SE:=.rs 1 fun _=>KMap mt ekI evT T
theorem may_of{e k:Int}(h:e<0↔mayB k=false)(h2:¬e<0): mayB k=true:=by
 cases hm:mayB k with
 | true=>rfl
 | false=>exact absurd (h.2 hm) h2
theorem t_create(c:Cfg)(hc:c.Ok)(T:TopM)(mt:Nat)(sv hv:Value)(cl ke:Int)(la:Bool)(wo pa rw rk:Value)(ha co n cm fr to_:Int):
  Ct Tryd.prog 8 (⟨[.s (.p 0 0),.g (dS cl 1 ke la (.o wo) ha (.o pa) co (.o rw) (.o rk) n cm fr to_)],[mdl c (.o sv) (.o hv) mt,topR mt T],2,
   fun x=>x=createM c T ke la co,fun x=>[.s (.bo x.b)],fun x=>[mdl c (.o sv) (.o hv) mt,topR mt x.T]⟩:Sp RT):=by
 refine cX 148 xaI Tryd.func8 fun g F => ?_
 refine xN fun b1 => ?_
 refine xC Tryd.call12 (t_start (c) (by omega) (ke)) fun xn2 n2 hxn2 => ?_
 refine xB (decide (xn2<0)) (fun h3 => ?_) (fun h3 => ?_)
 ·skip
  replace h3:=decT h3
  exact xR ({b:=co==1,T:=T}) (by have hm:=hxn2.1 (by assumption); simp [createM,hm])
 ·skip
  replace h3:=decF h3
  refine xA ?_ ?_
  ·skip
   refine xMg 1 (mt) (T) (evT) kI (ke) (false,PRow.nil) true ?_
   refine xN fun b4 => ?_
   refine xN fun b5 => ?_
   refine xMl 1 (mt) (T) ekI evT ?_
   refine xB (co==0) (fun h6 => ?_) (fun h6 => ?_)
   ·skip
    replace h6:=decT h6
    refine xB ((kget T ke).isSome) (fun h7 => ?_) (fun h7 => ?_)
    ·skip
     exact xR ({b:=false,T:=T}) (by have hm:=may_of hxn2 (by assumption); simp [createM,hm, *])
    ·skip
     refine xB (↑(List.length T)==c.topics) (fun h8 => ?_) (fun h8 => ?_)
     ·skip
      replace h8:=decT h8
      exact xR ({b:=false,T:=T}) (by have hm:=may_of hxn2 (by assumption); simp [createM,hm, *])
     ·skip
      replace h8:=decF h8
      refine xMs 1 (mt) (T) (evT) kI (ke) (la,PRow.nil) ?_
      exact xR ({b:=true,T:=kset T ke (la,PRow.nil)}) (by have hm:=may_of hxn2 (by assumption); simp [createM,hm, *])
   ·skip
    replace h6:=decF h6
    refine xB (co==14) (fun h9 => ?_) (fun h9 => ?_)
    ·skip
     replace h9:=decT h9
     exact xR ({b:=(kget T ke).isSome,T:=T}) (by have hm:=may_of hxn2 (by assumption); simp [createM,hm, *])
    ·skip
     replace h9:=decF h9
     refine xB (co==15) (fun h10 => ?_) (fun h10 => ?_)
     ·skip
      replace h10:=decT h10
      refine xB (!(kget T ke).isSome) (fun h11 => ?_) (fun h11 => ?_)
      ·skip
       replace h11:=ntT h11
       exact xR ({b := ↑(List.length T)==c.topics,T:=T}) (by have hm:=may_of hxn2 (by assumption); simp [createM,hm, *])
      ·skip
       replace h11:=ntF h11
       exact xR ({b:=false,T:=T}) (by have hm:=may_of hxn2 (by assumption); simp [createM,hm, *])
     ·skip
      replace h10:=decF h10
      exact xR ({b:=co==17,T:=T}) (by have hm:=may_of hxn2 (by assumption); simp [createM,hm, *])
  ·skip
   refine xN fun b12 => ?_
   refine xMg 1 (mt) (T) (evT) kI (ke) (false,PRow.nil) true ?_
   refine xN fun b13 => ?_
   refine xMl 1 (mt) (T) ekI evT ?_
   refine xB (co==0) (fun h14 => ?_) (fun h14 => ?_)
   ·skip
    replace h14:=decT h14
    refine xB ((kget T ke).isSome) (fun h15 => ?_) (fun h15 => ?_)
    ·skip
     exact xR ({b:=false,T:=T}) (by have hm:=may_of hxn2 (by assumption); simp [createM,hm, *])
    ·skip
     refine xB (↑(List.length T)==c.topics) (fun h16 => ?_) (fun h16 => ?_)
     ·skip
      replace h16:=decT h16
      exact xR ({b:=false,T:=T}) (by have hm:=may_of hxn2 (by assumption); simp [createM,hm, *])
     ·skip
      replace h16:=decF h16
      refine xMs 1 (mt) (T) (evT) kI (ke) (la,PRow.nil) ?_
      exact xR ({b:=true,T:=kset T ke (la,PRow.nil)}) (by have hm:=may_of hxn2 (by assumption); simp [createM,hm, *])
   ·skip
    replace h14:=decF h14
    refine xB (co==14) (fun h17 => ?_) (fun h17 => ?_)
    ·skip
     replace h17:=decT h17
     exact xR ({b:=(kget T ke).isSome,T:=T}) (by have hm:=may_of hxn2 (by assumption); simp [createM,hm, *])
    ·skip
     replace h17:=decF h17
     refine xB (co==15) (fun h18 => ?_) (fun h18 => ?_)
     ·skip
      replace h18:=decT h18
      refine xB (!(kget T ke).isSome) (fun h19 => ?_) (fun h19 => ?_)
      ·skip
       replace h19:=ntT h19
       exact xR ({b := ↑(List.length T)==c.topics,T:=T}) (by have hm:=may_of hxn2 (by assumption); simp [createM,hm, *])
      ·skip
       replace h19:=ntF h19
       exact xR ({b:=false,T:=T}) (by have hm:=may_of hxn2 (by assumption); simp [createM,hm, *])
     ·skip
      replace h18:=decF h18
      exact xR ({b:=co==17,T:=T}) (by have hm:=may_of hxn2 (by assumption); simp [createM,hm, *])
end Go.Proofs.YthijdhenekmojaaDoor
/- Rows that are copied. -/
set_option maxRecDepth 100000
set_option maxHeartbeats 0
namespace Go.Proofs.YthijdhenekmojaaDoor
open Go.Sx
abbrev sR(args:List SA)(pre:List SE)(n:Nat)(ret:List SA)(post:Sx.Rest→List SE): Sp Sx.Rest:=⟨args,pre,n,fun _=>True,fun _=>ret,post⟩
theorem t_cloneS(xs:List Int)(n:Nat)(hn:xs.length=n)(hl:xs.length≤1000000): Ct Tryd.prog 26 (sR [.s (.s 0 n)] [.sl 0 (encI .u64) 0 1 xs 22] 1 [.s (.s 1 n)] fun z=>[.sl 0 (encI .u64) 0 1 xs 22,.rd 1 (encI .u64) 0 1 xs 22 z]):=by
 subst hn
 intro g
 obtain⟨b,a,c,h,rfl⟩:=rf_eta g
 cases a with
 | none=>
  refine ctr_sl_nil (i:=0) rfl ?_
  rintro rfl rfl
  refine cXg 8 xaI Tryd.func26 fun F => ?_
  refine xWr (.i 7) _ ⟨[(0,[]),(7,[])],9⟩ (view_nilrd (encI .u64) 0 1 22 ⟨[],[],(0,0)⟩ (sizedI _)) ?_
  exact xR ⟨[],[],(0,0)⟩ trivial
 | some ad=>
  refine cXg 8 xaI Tryd.func26 fun F => ?_
  refine xN fun b1 => ?_
  refine xAf 22 (some ⟨b1,0,none⟩) 0 xs (sizedI .u64) (oneI _) 8 (.slice (some ad) xs.length c) (by omega) (fun F=>src_sl (i:=0) (d:=0) (sz:=1) (t:=22) (by kernel_rfl)) (fun a' c' r => ?_)
  exact xR r trivial
theorem t_cloneR(xs:List Int)(z0:Sx.Rest)(n:Nat)(hn:xs.length=n)(hl:xs.length≤1000000): Ct Tryd.prog 26 (sR [.s (.s 0 n)] [.rd 0 (encI .u64) 0 1 xs 22 z0] 1 [.s (.s 1 n)] fun z=>[.rd 0 (encI .u64) 0 1 xs 22 z0,.rd 1 (encI .u64) 0 1 xs 22 z]):=by
 subst hn
 intro g
 obtain⟨b,a,c,h,rfl⟩:=rf_eta g
 cases a with
 | none=>
  refine ctr_rd_nil ?_
  rintro rfl rfl
  refine cXg 8 xaI Tryd.func26 fun F => ?_
  refine xWr (.i 7) _ ⟨[(0,[]),(7,[])],9⟩ (view_nilrd (encI .u64) 0 1 22 ⟨[],[],(0,0)⟩ (sizedI _)) ?_
  exact xR ⟨[],[],(0,0)⟩ trivial
 | some ad=>
  refine cXg 8 xaI Tryd.func26 fun F => ?_
  refine xN fun b1 => ?_
  refine xAf 22 (some ⟨b1,0,none⟩) 0 xs (sizedI .u64) (oneI _) 8 (.slice (some ad) xs.length c) (by omega) (fun F=>src_rd (i:=0) (d:=0) (sz:=1) (t:=22) (r:=z0) (by kernel_rfl)) (fun a' c' r => ?_)
  exact xR r trivial
end Go.Proofs.YthijdhenekmojaaDoor
/- The model: what stays, and what is looked up. -/
set_option linter.unusedSimpArgs false
set_option maxRecDepth 100000
set_option maxHeartbeats 0
namespace Go.Proofs.YthijdhenekmojaaDoor
open Go.Sx
abbrev mdl2(c:Cfg)(sv:SV)(mt mh:Nat): SE:=.pts 0 (cfgS c++[sv,.mb 1 mt,.mb 2 mh]) 53
abbrev hpR(mh:Nat)(H:HanM)(ps:List PRow): SE:=.rs 2 fun _=>HP 22 mh H ps
structure RP where
 b:Bool
 T:TopM
 ps:List PRow
def fitsB(c:Cfg)(T:TopM)(ke:Int)(n:Int): Bool:=(kget T ke).isSome&&(if ((kget T ke).getD (false,.nil)).1=true then decide (fitsC c n≥0) else decide (n≤c.small))
/-- is something kept? -/
def pubK(c:Cfg)(T:TopM)(ke n co:Int): Bool:=mayB ke&&decide (n≠0)&&decide (co=0)&&fitsB c T ke n
def pubB(c:Cfg)(T:TopM)(ke n co:Int): Bool:=
 if mayB ke=false∨n=0 then co==1 else
 if co=0 then fitsB c T ke n else if co=12 then !(kget T ke).isSome else
 if co=21 then(kget T ke).isSome && !fitsB c T ke n else decide (co=18∨co=16∨co=17)
def pubR(c:Cfg)(T:TopM)(ps:List PRow)(ke:Int)(ws:List Int)(co:Int)(x:RP): Prop:=
 x.b=pubB c T ke ws.length co∧(if pubK c T ke ws.length co=true then ∃q:PRow,q.xs=ws∧x.T=kset T ke (((kget T ke).getD (false,.nil)).1,q)∧x.ps=ps++[q] else x.T=T∧(x.ps=ps∨x.ps=ps++[]))
def PoolOk(T:TopM)(H:HanM)(ps:List PRow): Prop:=(∀x∈T,x.2.2 = .nil∨x.2.2∈ps)∧∀x∈H,x.2 = .nil∨x.2∈ps
theorem kget_mem{κ β : Type}[DecidableEq κ]{l:List (κ×β)}{k : κ}{x : β}(h:kget l k=some x): ∃k',(k',x)∈l:=by
 unfold kget at h
 cases hf:l.find? (fun x=>x.1==k) with
 | none=>rw [hf] at h; cases h
 | some y=>
  rw [hf] at h
  simp only [Option.map_some,Option.some.injEq] at h
  subst h
  exact⟨y.1,List.mem_of_find?_eq_some hf⟩
theorem pool_row{T:TopM}{H:HanM}{ps:List PRow}(h:PoolOk T H ps)(k:Int): ((kget T k).getD (false,.nil)).2 = .nil∨((kget T k).getD (false,.nil)).2∈ps:=by
 cases hk:kget T k with
 | none=>exact .inl rfl
 | some x=>
  obtain⟨k',hm⟩:=kget_mem hk
  exact h.1 _ hm
end Go.Proofs.YthijdhenekmojaaDoor
/- The model: what is published. -/
set_option linter.unusedSimpArgs false
set_option maxRecDepth 100000
set_option maxHeartbeats 0
namespace Go.Proofs.YthijdhenekmojaaDoor
open Go.Sx
def fitT(c:Cfg)(lg:Bool)(n:Int): Bool:=if lg=true then decide (fitsC c n≥0) else decide (n≤c.small)
theorem t_mfits(c:Cfg)(hc:c.Ok)(sv tv hv wv:Value)(lg:Bool)(n:Int): Ct Tryd.prog 25 (sB [.s (.p 0 0),.g [.bo lg,.o wv],.s (.i .i64 n)] [.pts 0 (cfgS c++[.o sv,.o tv,.o hv]) 53] 1 (fitT c lg n) [.pts 0 (cfgS c++[.o sv,.o tv,.o hv]) 53]):=by
 refine cX 23 xaI Tryd.func25 fun g F => ?_
 refine xN fun b1 => ?_
 refine xB (lg) (fun h2 => ?_) (fun h2 => ?_)
 ·skip
  refine xC Tryd.call27 (t_fits (c) (by omega) (n)) fun xn3 n3 hxn3 => ?_
  subst hxn3
  exact xR (decide (fitsC c n≥0)) (by simp [fitT, *])
 ·skip
  exact xR (decide (n≤c.small)) (by simp [fitT, *])
structure RQ where
 b:Bool
 T:TopM
 ps:List PRow
def pubK'(c:Cfg)(lg is:Bool)(n co:Int): Bool:=decide (co=0)&&(is&&fitT c lg n)
def pubB'(c:Cfg)(lg is:Bool)(n co:Int): Bool:=
 if co=0 then is&&fitT c lg n else if co=12 then !is else if co=21 then is && !(is&&fitT c lg n) else decide (co=18∨co=16∨co=17)
def pubR'(c:Cfg)(T:TopM)(ps:List PRow)(lg is:Bool)(ke:Int)(ws:List Int)(co:Int)(x:RQ): Prop:=
 x.b=pubB' c lg is ws.length co∧(if pubK' c lg is ws.length co=true then ∃q:PRow,q.xs=ws∧x.T=kset T ke (lg,q)∧x.ps=ps++[q] else x.T=T∧x.ps=ps)
theorem t_pub(c:Cfg)(hc:c.Ok)(T:TopM)(H:HanM)(ps:List PRow)(mt mh:Nat)(sv wv:Value)(cl ki ke:Int)(la lg is:Bool)(ws:List Int)(m:Nat)(hm:ws.length=m)(hl:ws.length≤1000000)(pa rw rk:Value)(ha co n cm fr to_:Int):
  Ct Tryd.prog 14 (⟨[.s (.p 0 0),.g (dS cl ki ke la (.s 3 m) ha (.o pa) co (.o rw) (.o rk) n cm fr to_),.g [.bo lg,.o wv],.s (.bo is)],[mdl2 c (.o sv) mt mh,topR mt T,hpR mh H ps,.sl 3 (encI .u64) 0 1 ws 22],4,
   pubR' c T ps lg is ke ws co,fun x=>[.s (.bo x.b)],fun x=>[mdl2 c (.o sv) mt mh,topR mt x.T,hpR mh H x.ps,.sl 3 (encI .u64) 0 1 ws 22]⟩:Sp RQ):=by
 subst hm
 refine cX 58 xaI Tryd.func14 fun g F => ?_
 refine xN fun b1 => ?_
 refine xN fun b2 => ?_
 refine xB (is) (fun h3 => ?_) (fun h3 => ?_)
 ·skip
  refine xC Tryd.call25 (t_mfits (c) (by omega) (sv) (Value.map (some mt)) (Value.map (some mh)) (wv) (lg) (↑ws.length)) fun xn5 n5 hxn5 => ?_
  subst hxn5
  refine xB (co==0) (fun h6 => ?_) (fun h6 => ?_)
  ·skip
   replace h6:=decT h6
   refine xB (fitT c lg ↑ws.length) (fun h7 => ?_) (fun h7 => ?_)
   ·skip
    refine xC Tryd.call26 (t_cloneS (ws) (ws.length) (by omega) (by omega)) fun xn8 n8 hxn8 => ?_
    refine xMs 0 (mt) (T) (evT) kI (ke) (lg,⟨(n8 1).a,(n8 1).c,ws,xn8⟩) ?_
    refine xEnd [1,6] [.res (HP 22 mh (H) (ps)),PRow.ent 22 ⟨(n8 1).a,(n8 1).c,ws,xn8⟩] 2 (HP 22 mh (H) (ps++[⟨(n8 1).a,(n8 1).c,ws,xn8⟩])) (hp_add [⟨(n8 1).a,(n8 1).c,ws,xn8⟩]) ?_
    exact xR ({b:=true,T:=kset T ke (lg,{a:=(n8 1).a,c:=(n8 1).c,xs:=ws,r:=xn8}),ps:=ps++[{a:=(n8 1).a,c:=(n8 1).c,xs:=ws,r:=xn8}]}) (by simp [pubR',pubB',pubK', *])
   ·skip
    exact xR ({b:=false,T:=T,ps:=ps}) (by simp [pubR',pubB',pubK', *])
  ·skip
   replace h6:=decF h6
   refine xB (co==12) (fun h9 => ?_) (fun h9 => ?_)
   ·skip
    replace h9:=decT h9
    exact xR ({b := !is,T:=T,ps:=ps}) (by simp [pubR',pubB',pubK', *])
   ·skip
    replace h9:=decF h9
    refine xB (co==21) (fun h10 => ?_) (fun h10 => ?_)
    ·skip
     replace h10:=decT h10
     refine xT (is) (by assumption) ?_
     exact xR ({b := !fitT c lg ↑ws.length,T:=T,ps:=ps}) (by simp [pubR',pubB',pubK', *])
    ·skip
     replace h10:=decF h10
     refine xB (co==18) (fun h11 => ?_) (fun h11 => ?_)
     ·skip
      replace h11:=decT h11
      exact xR ({b:=true,T:=T,ps:=ps}) (by simp [pubR',pubB',pubK', *])
     ·skip
      replace h11:=decF h11
      refine xB (co==16) (fun h12 => ?_) (fun h12 => ?_)
      ·skip
       replace h12:=decT h12
       exact xR ({b:=true,T:=T,ps:=ps}) (by simp [pubR',pubB',pubK', *])
      ·skip
       replace h12:=decF h12
       refine xB (co==17) (fun h13 => ?_) (fun h13 => ?_)
       ·skip
        replace h13:=decT h13
        exact xR ({b:=true,T:=T,ps:=ps}) (by simp [pubR',pubB',pubK', *])
       ·skip
        replace h13:=decF h13
        exact xR ({b:=false,T:=T,ps:=ps}) (by simp [pubR',pubB',pubK', *])
 ·skip
  refine xB (co==0) (fun h14 => ?_) (fun h14 => ?_)
  ·skip
   replace h14:=decT h14
   exact xR ({b:=false,T:=T,ps:=ps}) (by simp [pubR',pubB',pubK', *])
  ·skip
   replace h14:=decF h14
   refine xB (co==12) (fun h15 => ?_) (fun h15 => ?_)
   ·skip
    replace h15:=decT h15
    exact xR ({b := !is,T:=T,ps:=ps}) (by simp [pubR',pubB',pubK', *])
   ·skip
    replace h15:=decF h15
    refine xB (co==21) (fun h16 => ?_) (fun h16 => ?_)
    ·skip
     replace h16:=decT h16
     refine xF (is) (by assumption) ?_
     exact xR ({b:=false,T:=T,ps:=ps}) (by simp [pubR',pubB',pubK', *])
    ·skip
     replace h16:=decF h16
     refine xB (co==18) (fun h17 => ?_) (fun h17 => ?_)
     ·skip
      replace h17:=decT h17
      exact xR ({b:=true,T:=T,ps:=ps}) (by simp [pubR',pubB',pubK', *])
     ·skip
      replace h17:=decF h17
      refine xB (co==16) (fun h18 => ?_) (fun h18 => ?_)
      ·skip
       replace h18:=decT h18
       exact xR ({b:=true,T:=T,ps:=ps}) (by simp [pubR',pubB',pubK', *])
      ·skip
       replace h18:=decF h18
       refine xB (co==17) (fun h19 => ?_) (fun h19 => ?_)
       ·skip
        replace h19:=decT h19
        exact xR ({b:=true,T:=T,ps:=ps}) (by simp [pubR',pubB',pubK', *])
       ·skip
        replace h19:=decF h19
        exact xR ({b:=false,T:=T,ps:=ps}) (by simp [pubR',pubB',pubK', *])
end Go.Proofs.YthijdhenekmojaaDoor
/- The model: what is published, as it is done. -/
set_option linter.unusedSimpArgs false
set_option maxRecDepth 100000
set_option maxHeartbeats 0
namespace Go.Proofs.YthijdhenekmojaaDoor
open Go.Sx
def doPubR(c:Cfg)(T:TopM)(ps:List PRow)(ke:Int)(ws:List Int)(co:Int)(x:RQ): Prop:=
 if mayB ke=false∨ws.length=0 then x=⟨co==1,T,ps⟩ else pubR' c T ps ((kget T ke).getD (false,.nil)).1 (kget T ke).isSome ke ws co x
theorem doPub_a{c:Cfg}{T:TopM}{ps:List PRow}{ke:Int}{ws:List Int}{co:Int}(h:mayB ke=false∨ws.length=0): doPubR c T ps ke ws co ⟨co==1,T,ps⟩:=by unfold doPubR; rw [if_pos h]
theorem doPub_b{c:Cfg}{T:TopM}{ps:List PRow}{ke:Int}{ws:List Int}{co:Int}{y:RQ}(h1:mayB ke=true)(h2:¬((ws.length:Nat):Int)=0)(hy:pubR' c T ps ((kget T ke).getD (false,.nil)).1 (kget T ke).isSome ke ws co y): doPubR c T ps ke ws co ⟨y.b,y.T,y.ps⟩:=by
 unfold doPubR
 rw [if_neg]
 ·exact hy
 ·rintro(h | h)
  ·rw [h1] at h; cases h
  ·omega
theorem t_doPub(c:Cfg)(hc:c.Ok)(T:TopM)(H:HanM)(ps:List PRow)(mt mh:Nat)(sv:Value)(cl ke:Int)(la:Bool)(ws:List Int)(m:Nat)(hm:ws.length=m)(hl:ws.length≤1000000)(pa rw rk:Value)(ha co n cm fr to_:Int):
  Ct Tryd.prog 8 (⟨[.s (.p 0 0),.g (dS cl 3 ke la (.s 3 m) ha (.o pa) co (.o rw) (.o rk) n cm fr to_)],[mdl2 c (.o sv) mt mh,topR mt T,hpR mh H ps,.sl 3 (encI .u64) 0 1 ws 22],4,
   doPubR c T ps ke ws co,fun x=>[.s (.bo x.b)],fun x=>[mdl2 c (.o sv) mt mh,topR mt x.T,hpR mh H x.ps,.sl 3 (encI .u64) 0 1 ws 22]⟩:Sp RQ):=by
 subst hm
 refine cX 148 xaI Tryd.func8 fun g F => ?_
 refine xN fun b1 => ?_
 refine xC Tryd.call12 (t_start (c) (by omega) (ke)) fun xn2 n2 hxn2 => ?_
 refine xB (decide (xn2<0)) (fun h3 => ?_) (fun h3 => ?_)
 ·skip
  replace h3:=decT h3
  exact xR ({b:=co==1,T:=T,ps:=ps}) (doPub_a (.inl (hxn2.1 (by assumption))))
 ·skip
  replace h3:=decF h3
  refine xB ((↑ws.length:Int)==(0:Int)) (fun h4 => ?_) (fun h4 => ?_)
  ·skip
   replace h4:=decT h4
   exact xR ({b:=co==1,T:=T,ps:=ps}) (doPub_a (.inr (by omega)))
  ·skip
   replace h4:=decF h4
   refine xA ?_ ?_
   ·skip
    refine xMg 1 (mt) (T) (evT) kI (ke) (false,PRow.nil) true ?_
    refine xN fun b5 => ?_
    refine xC Tryd.call14 (t_pub (c) (by omega) (T) (H) (ps) (mt) (mh) (SV.v g (SV.o sv)) (Value.slice ((kget T ke).getD (false,PRow.nil)).snd.a ((kget T ke).getD (false,PRow.nil)).snd.xs.length ((kget T ke).getD (false,PRow.nil)).snd.c) (cl) (3) (ke) (la) (((kget T ke).getD (false,PRow.nil)).fst) ((kget T ke).isSome) (ws) (ws.length) (by omega) (by omega) (SV.v g (SV.o pa)) (SV.v g (SV.o rw)) (SV.v g (SV.o rk)) (ha) (co) (n) (cm) (fr) (to_)) fun xn7 n7 hxn7 => ?_
    exact xR (xn7) (doPub_b (may_of hxn2 (by assumption)) (by assumption) (by assumption))
   ·skip
    refine xN fun b8 => ?_
    refine xMg 1 (mt) (T) (evT) kI (ke) (false,PRow.nil) true ?_
    refine xC Tryd.call14 (t_pub (c) (by omega) (T) (H) (ps) (mt) (mh) (SV.v g (SV.o sv)) (Value.slice ((kget T ke).getD (false,PRow.nil)).snd.a ((kget T ke).getD (false,PRow.nil)).snd.xs.length ((kget T ke).getD (false,PRow.nil)).snd.c) (cl) (3) (ke) (la) (((kget T ke).getD (false,PRow.nil)).fst) ((kget T ke).isSome) (ws) (ws.length) (by omega) (by omega) (SV.v g (SV.o pa)) (SV.v g (SV.o rw)) (SV.v g (SV.o rk)) (ha) (co) (n) (cm) (fr) (to_)) fun xn10 n10 hxn10 => ?_
    exact xR (xn10) (doPub_b (may_of hxn2 (by assumption)) (by assumption) (by assumption))
end Go.Proofs.YthijdhenekmojaaDoor
/- The model: what is removed. -/
set_option maxRecDepth 100000
set_option maxHeartbeats 0
namespace Go.Proofs.YthijdhenekmojaaDoor
open Go.Sx
def removeM(T:TopM)(ke:Int)(co:Int): RT:=
 if mayB ke=false then⟨co==1,T⟩ else
 if (kget T ke).isSome=true∧co=0 then⟨true,kdel T ke⟩ else
 if (kget T ke).isSome=false∧co=12 then⟨true,T⟩ else⟨co==17,T⟩
theorem t_remove(c:Cfg)(hc:c.Ok)(T:TopM)(mt:Nat)(sv hv:Value)(cl ke:Int)(la:Bool)(wo pa rw rk:Value)(ha co n cm fr to_:Int):
  Ct Tryd.prog 8 (⟨[.s (.p 0 0),.g (dS cl 2 ke la (.o wo) ha (.o pa) co (.o rw) (.o rk) n cm fr to_)],[mdl c (.o sv) (.o hv) mt,topR mt T],2,
   fun x=>x=removeM T ke co,fun x=>[.s (.bo x.b)],fun x=>[mdl c (.o sv) (.o hv) mt,topR mt x.T]⟩:Sp RT):=by
 refine cX 148 xaI Tryd.func8 fun g F => ?_
 refine xN fun b1 => ?_
 refine xC Tryd.call12 (t_start (c) (by omega) (ke)) fun xn2 n2 hxn2 => ?_
 refine xB (decide (xn2<0)) (fun h3 => ?_) (fun h3 => ?_)
 ·skip
  replace h3:=decT h3
  exact xR ({b:=co==1,T:=T}) (by have hm:=hxn2.1 (by assumption); simp [removeM,hm])
 ·skip
  replace h3:=decF h3
  refine xA ?_ ?_
  ·skip
   refine xMg 1 (mt) (T) (evT) kI (ke) (false,PRow.nil) true ?_
   refine xN fun b4 => ?_
   refine xB ((kget T ke).isSome) (fun h5 => ?_) (fun h5 => ?_)
   ·skip
    refine xB (co==0) (fun h6 => ?_) (fun h6 => ?_)
    ·skip
     replace h6:=decT h6
     refine xMd 1 (mt) (T) (evT) kI (ke) ?_
     exact xR ({b:=true,T:=kdel T ke}) (by have hm:=may_of hxn2 (by assumption); simp [removeM,hm, *])
    ·skip
     replace h6:=decF h6
     refine xF (!(kget T ke).isSome) (by first | (simp; done) | (simp; omega)) ?_
     exact xR ({b:=co==17,T:=T}) (by have hm:=may_of hxn2 (by assumption); simp [removeM,hm, *])
   ·skip
    refine xT (!(kget T ke).isSome) (by simp [*]; done) ?_
    refine xB (co==12) (fun h7 => ?_) (fun h7 => ?_)
    ·skip
     replace h7:=decT h7
     exact xR ({b:=true,T:=T}) (by have hm:=may_of hxn2 (by assumption); simp [removeM,hm, *])
    ·skip
     replace h7:=decF h7
     exact xR ({b:=co==17,T:=T}) (by have hm:=may_of hxn2 (by assumption); simp [removeM,hm, *])
  ·skip
   refine xN fun b8 => ?_
   refine xMg 1 (mt) (T) (evT) kI (ke) (false,PRow.nil) true ?_
   refine xB ((kget T ke).isSome) (fun h9 => ?_) (fun h9 => ?_)
   ·skip
    refine xB (co==0) (fun h10 => ?_) (fun h10 => ?_)
    ·skip
     replace h10:=decT h10
     refine xMd 1 (mt) (T) (evT) kI (ke) ?_
     exact xR ({b:=true,T:=kdel T ke}) (by have hm:=may_of hxn2 (by assumption); simp [removeM,hm, *])
    ·skip
     replace h10:=decF h10
     refine xF (!(kget T ke).isSome) (by first | (simp; done) | (simp; omega)) ?_
     exact xR ({b:=co==17,T:=T}) (by have hm:=may_of hxn2 (by assumption); simp [removeM,hm, *])
   ·skip
    refine xT (!(kget T ke).isSome) (by simp [*]; done) ?_
    refine xB (co==12) (fun h11 => ?_) (fun h11 => ?_)
    ·skip
     replace h11:=decT h11
     exact xR ({b:=true,T:=T}) (by have hm:=may_of hxn2 (by assumption); simp [removeM,hm, *])
    ·skip
     replace h11:=decF h11
     exact xR ({b:=co==17,T:=T}) (by have hm:=may_of hxn2 (by assumption); simp [removeM,hm, *])
end Go.Proofs.YthijdhenekmojaaDoor
/- The model: what is created, beside what handles name. -/
set_option maxRecDepth 100000
set_option maxHeartbeats 0
namespace Go.Proofs.YthijdhenekmojaaDoor
open Go.Sx
theorem t_create2(c:Cfg)(hc:c.Ok)(T:TopM)(mt mh:Nat)(sv:Value)(cl ke:Int)(la:Bool)(wo pa rw rk:Value)(ha co n cm fr to_:Int):
  Ct Tryd.prog 8 (⟨[.s (.p 0 0),.g (dS cl 1 ke la (.o wo) ha (.o pa) co (.o rw) (.o rk) n cm fr to_)],[mdl2 c (.o sv) mt mh,topR mt T],3,
   fun x=>x=createM c T ke la co,fun x=>[.s (.bo x.b)],fun x=>[mdl2 c (.o sv) mt mh,topR mt x.T]⟩:Sp RT):=by
 refine cX 148 xaI Tryd.func8 fun g F => ?_
 refine xN fun b1 => ?_
 refine xC Tryd.call12 (t_start (c) (by omega) (ke)) fun xn2 n2 hxn2 => ?_
 refine xB (decide (xn2<0)) (fun h3 => ?_) (fun h3 => ?_)
 ·skip
  replace h3:=decT h3
  exact xR ({b:=co==1,T:=T}) (by have hm:=hxn2.1 (by assumption); simp [createM,hm])
 ·skip
  replace h3:=decF h3
  refine xA ?_ ?_
  ·skip
   refine xMg 1 (mt) (T) (evT) kI (ke) (false,PRow.nil) true ?_
   refine xN fun b4 => ?_
   refine xN fun b5 => ?_
   refine xMl 1 (mt) (T) ekI evT ?_
   refine xB (co==0) (fun h6 => ?_) (fun h6 => ?_)
   ·skip
    replace h6:=decT h6
    refine xB ((kget T ke).isSome) (fun h7 => ?_) (fun h7 => ?_)
    ·skip
     exact xR ({b:=false,T:=T}) (by have hm:=may_of hxn2 (by assumption); simp [createM,hm, *])
    ·skip
     refine xB (↑(List.length T)==c.topics) (fun h8 => ?_) (fun h8 => ?_)
     ·skip
      replace h8:=decT h8
      exact xR ({b:=false,T:=T}) (by have hm:=may_of hxn2 (by assumption); simp [createM,hm, *])
     ·skip
      replace h8:=decF h8
      refine xMs 1 (mt) (T) (evT) kI (ke) (la,PRow.nil) ?_
      exact xR ({b:=true,T:=kset T ke (la,PRow.nil)}) (by have hm:=may_of hxn2 (by assumption); simp [createM,hm, *])
   ·skip
    replace h6:=decF h6
    refine xB (co==14) (fun h9 => ?_) (fun h9 => ?_)
    ·skip
     replace h9:=decT h9
     exact xR ({b:=(kget T ke).isSome,T:=T}) (by have hm:=may_of hxn2 (by assumption); simp [createM,hm, *])
    ·skip
     replace h9:=decF h9
     refine xB (co==15) (fun h10 => ?_) (fun h10 => ?_)
     ·skip
      replace h10:=decT h10
      refine xB (!(kget T ke).isSome) (fun h11 => ?_) (fun h11 => ?_)
      ·skip
       replace h11:=ntT h11
       exact xR ({b := ↑(List.length T)==c.topics,T:=T}) (by have hm:=may_of hxn2 (by assumption); simp [createM,hm, *])
      ·skip
       replace h11:=ntF h11
       exact xR ({b:=false,T:=T}) (by have hm:=may_of hxn2 (by assumption); simp [createM,hm, *])
     ·skip
      replace h10:=decF h10
      exact xR ({b:=co==17,T:=T}) (by have hm:=may_of hxn2 (by assumption); simp [createM,hm, *])
  ·skip
   refine xN fun b12 => ?_
   refine xMg 1 (mt) (T) (evT) kI (ke) (false,PRow.nil) true ?_
   refine xN fun b13 => ?_
   refine xMl 1 (mt) (T) ekI evT ?_
   refine xB (co==0) (fun h14 => ?_) (fun h14 => ?_)
   ·skip
    replace h14:=decT h14
    refine xB ((kget T ke).isSome) (fun h15 => ?_) (fun h15 => ?_)
    ·skip
     exact xR ({b:=false,T:=T}) (by have hm:=may_of hxn2 (by assumption); simp [createM,hm, *])
    ·skip
     refine xB (↑(List.length T)==c.topics) (fun h16 => ?_) (fun h16 => ?_)
     ·skip
      replace h16:=decT h16
      exact xR ({b:=false,T:=T}) (by have hm:=may_of hxn2 (by assumption); simp [createM,hm, *])
     ·skip
      replace h16:=decF h16
      refine xMs 1 (mt) (T) (evT) kI (ke) (la,PRow.nil) ?_
      exact xR ({b:=true,T:=kset T ke (la,PRow.nil)}) (by have hm:=may_of hxn2 (by assumption); simp [createM,hm, *])
   ·skip
    replace h14:=decF h14
    refine xB (co==14) (fun h17 => ?_) (fun h17 => ?_)
    ·skip
     replace h17:=decT h17
     exact xR ({b:=(kget T ke).isSome,T:=T}) (by have hm:=may_of hxn2 (by assumption); simp [createM,hm, *])
    ·skip
     replace h17:=decF h17
     refine xB (co==15) (fun h18 => ?_) (fun h18 => ?_)
     ·skip
      replace h18:=decT h18
      refine xB (!(kget T ke).isSome) (fun h19 => ?_) (fun h19 => ?_)
      ·skip
       replace h19:=ntT h19
       exact xR ({b := ↑(List.length T)==c.topics,T:=T}) (by have hm:=may_of hxn2 (by assumption); simp [createM,hm, *])
      ·skip
       replace h19:=ntF h19
       exact xR ({b:=false,T:=T}) (by have hm:=may_of hxn2 (by assumption); simp [createM,hm, *])
     ·skip
      replace h18:=decF h18
      exact xR ({b:=co==17,T:=T}) (by have hm:=may_of hxn2 (by assumption); simp [createM,hm, *])
end Go.Proofs.YthijdhenekmojaaDoor
/- The model: what is pinned. -/
set_option linter.unusedSimpArgs false
set_option maxRecDepth 100000
set_option maxHeartbeats 0
namespace Go.Proofs.YthijdhenekmojaaDoor
open Go.Sx
structure RH where
 b:Bool
 H:HanM
def pinB(lg:Bool)(k:Nat)(is:Bool)(co:Int): Bool:=
 if co=0 then is&&lg&&decide ((k:Int)>0) else
 if co=12 then !is else if co=24 then is && !lg else
 if co=20 then is&&lg && !decide ((k:Int)>0) else decide (co=19∨co=17)
def pinR(H:HanM)(p:PRow)(lg is:Bool)(cl co n:Int)(x:RH): Prop:=
 x.b=pinB lg p.xs.length is co∧x.H=if (decide (co=0)&&(is&&lg&&decide ((p.xs.length:Int)>0)))=true then kset H (cl,n) p else H
theorem t_pin(c:Cfg)(p:PRow)(H:HanM)(ps:List PRow)(mt mh:Nat)(sv:Value)(cl ki ke:Int)(la lg is:Bool)(wo pa rw rk:Value)(ha co n cm fr to_:Int)(hn:0≤n∧n≤1000000):
  Ct Tryd.prog 16 (⟨[.s (.p 0 0),.g (dS cl ki ke la (.o wo) ha (.o pa) co (.o rw) (.o rk) n cm fr to_),.g [.bo lg,.o (.slice p.a p.xs.length p.c)],.s (.bo is)],[.pts 0 (cfgS c++[.o sv,.mb 1 mt,.mb 2 mh]) 53,hpR mh H ps],3,
   pinR H p lg is cl co n,fun x=>[.s (.bo x.b)],fun x=>[.pts 0 (cfgS c++[.o sv,.mb 1 mt,.mb 2 mh]) 53,hpR mh x.H ps]⟩:Sp RH):=by
 refine cXv 75 xaI Tryd.func16 _ ⟨[(0,(cfgS c++[SV.o sv,SV.mb 1 mt,SV.mb 2 mh]).map (SV.g id)),(2,[]),(4,[])],5⟩ (fun g=>hp_at (te:=22) (mh:=mh) (H:=H) (ps:=ps) 1) fun g F => ?_
 refine xN fun b1 => ?_
 refine xN fun b2 => ?_
 refine xB (co==0) (fun h3 => ?_) (fun h3 => ?_)
 ·skip
  replace h3:=decT h3
  refine xB (is) (fun h4 => ?_) (fun h4 => ?_)
  ·skip
   refine xB (lg) (fun h5 => ?_) (fun h5 => ?_)
   ·skip
    refine xB (decide ((↑p.xs.length:Int)>(0:Int))) (fun h6 => ?_) (fun h6 => ?_)
    ·skip
     replace h6:=decT h6
     refine xO (InK IntKind.i64 n) (by simp only [InK] at *; omega) ?_
     refine xMs 1 (mh) (H) (PRow.v) kH (cl,n) (p) ?_
     refine xT (is) (by assumption) ?_
     refine xT (lg) (by assumption) ?_
     refine xEnd [1,2] [.res (KMap mh ekP PRow.v (kset H (cl,n) p)),.res (Pool 22 (ps))] 2 (HP 22 mh (kset H (cl,n) p) (ps)) pv_fold ?_
     exact xR ({b:=true,H:=kset H (cl,n) p}) (by have e:decide ((p.xs.length:Int)>0)=true:=decide_eq_true (by omega); simp only [pinR,pinB,e]; simp [*]; done)
    ·skip
     replace h6:=decF h6
     refine xT (is) (by assumption) ?_
     refine xT (lg) (by assumption) ?_
     refine xEnd [1,2] [.res (KMap mh ekP PRow.v (H)),.res (Pool 22 (ps))] 2 (HP 22 mh (H) (ps)) pv_fold ?_
     exact xR ({b:=false,H:=H}) (by have e:decide ((p.xs.length:Int)>0)=false:=decide_eq_false (by omega); simp only [pinR,pinB,e]; simp [*]; done)
   ·skip
    refine xT (is) (by assumption) ?_
    refine xF (lg) (by assumption) ?_
    refine xEnd [1,2] [.res (KMap mh ekP PRow.v (H)),.res (Pool 22 (ps))] 2 (HP 22 mh (H) (ps)) pv_fold ?_
    exact xR ({b:=false,H:=H}) (by simp [pinR,pinB, *]; done)
  ·skip
   refine xF (is) (by assumption) ?_
   refine xEnd [1,2] [.res (KMap mh ekP PRow.v (H)),.res (Pool 22 (ps))] 2 (HP 22 mh (H) (ps)) pv_fold ?_
   exact xR ({b:=false,H:=H}) (by simp [pinR,pinB, *]; done)
 ·skip
  replace h3:=decF h3
  refine xB (co==12) (fun h7 => ?_) (fun h7 => ?_)
  ·skip
   replace h7:=decT h7
   refine xEnd [1,2] [.res (KMap mh ekP PRow.v (H)),.res (Pool 22 (ps))] 2 (HP 22 mh (H) (ps)) pv_fold ?_
   exact xR ({b := !is,H:=H}) (by simp [pinR,pinB, *]; done)
  ·skip
   replace h7:=decF h7
   refine xB (co==24) (fun h8 => ?_) (fun h8 => ?_)
   ·skip
    replace h8:=decT h8
    refine xB (is) (fun h9 => ?_) (fun h9 => ?_)
    ·skip
     refine xEnd [1,2] [.res (KMap mh ekP PRow.v (H)),.res (Pool 22 (ps))] 2 (HP 22 mh (H) (ps)) pv_fold ?_
     exact xR ({b := !lg,H:=H}) (by simp [pinR,pinB, *]; done)
    ·skip
     refine xEnd [1,2] [.res (KMap mh ekP PRow.v (H)),.res (Pool 22 (ps))] 2 (HP 22 mh (H) (ps)) pv_fold ?_
     exact xR ({b:=false,H:=H}) (by simp [pinR,pinB, *]; done)
   ·skip
    replace h8:=decF h8
    refine xB (co==20) (fun h10 => ?_) (fun h10 => ?_)
    ·skip
     replace h10:=decT h10
     refine xB (is) (fun h11 => ?_) (fun h11 => ?_)
     ·skip
      refine xB (lg) (fun h12 => ?_) (fun h12 => ?_)
      ·skip
       refine xEnd [1,2] [.res (KMap mh ekP PRow.v (H)),.res (Pool 22 (ps))] 2 (HP 22 mh (H) (ps)) pv_fold ?_
       exact xR ({b := !decide ((↑p.xs.length:Int)>(0:Int)),H:=H}) (by simp [pinR,pinB, *]; done)
      ·skip
       refine xEnd [1,2] [.res (KMap mh ekP PRow.v (H)),.res (Pool 22 (ps))] 2 (HP 22 mh (H) (ps)) pv_fold ?_
       exact xR ({b:=false,H:=H}) (by simp [pinR,pinB, *]; done)
     ·skip
      refine xEnd [1,2] [.res (KMap mh ekP PRow.v (H)),.res (Pool 22 (ps))] 2 (HP 22 mh (H) (ps)) pv_fold ?_
      exact xR ({b:=false,H:=H}) (by simp [pinR,pinB, *]; done)
    ·skip
     replace h10:=decF h10
     refine xB (co==19) (fun h13 => ?_) (fun h13 => ?_)
     ·skip
      replace h13:=decT h13
      refine xEnd [1,2] [.res (KMap mh ekP PRow.v (H)),.res (Pool 22 (ps))] 2 (HP 22 mh (H) (ps)) pv_fold ?_
      exact xR ({b:=true,H:=H}) (by simp [pinR,pinB, *]; done)
     ·skip
      replace h13:=decF h13
      refine xB (co==17) (fun h14 => ?_) (fun h14 => ?_)
      ·skip
       replace h14:=decT h14
       refine xEnd [1,2] [.res (KMap mh ekP PRow.v (H)),.res (Pool 22 (ps))] 2 (HP 22 mh (H) (ps)) pv_fold ?_
       exact xR ({b:=true,H:=H}) (by simp [pinR,pinB, *]; done)
      ·skip
       replace h14:=decF h14
       refine xEnd [1,2] [.res (KMap mh ekP PRow.v (H)),.res (Pool 22 (ps))] 2 (HP 22 mh (H) (ps)) pv_fold ?_
       exact xR ({b:=false,H:=H}) (by simp [pinR,pinB, *]; done)
end Go.Proofs.YthijdhenekmojaaDoor
/- The model: what is pinned, as it is done; what a topic is. -/
set_option linter.unusedSimpArgs false
set_option maxRecDepth 100000
set_option maxHeartbeats 0
namespace Go.Proofs.YthijdhenekmojaaDoor
open Go.Sx
def doPinR(T:TopM)(H:HanM)(ke cl co n:Int)(x:RH): Prop:=
 if mayB ke=false then x=⟨co==1,H⟩ else pinR H ((kget T ke).getD (false,.nil)).2 ((kget T ke).getD (false,.nil)).1 (kget T ke).isSome cl co n x
theorem doPin_a{T:TopM}{H:HanM}{ke cl co n:Int}(h:mayB ke=false): doPinR T H ke cl co n ⟨co==1,H⟩:=by unfold doPinR; rw [if_pos h]
theorem doPin_b{T:TopM}{H:HanM}{ke cl co n:Int}{y:RH}(h:mayB ke=true)(hy:pinR H ((kget T ke).getD (false,.nil)).2 ((kget T ke).getD (false,.nil)).1 (kget T ke).isSome cl co n y): doPinR T H ke cl co n y:=by
 unfold doPinR
 rw [if_neg (by rw [h]; decide)]
 exact hy
theorem t_doPin(c:Cfg)(hc:c.Ok)(T:TopM)(H:HanM)(ps:List PRow)(mt mh:Nat)(sv:Value)(cl ke:Int)(la:Bool)(wo pa rw rk:Value)(ha co n cm fr to_:Int)(hn:0≤n∧n≤1000000):
  Ct Tryd.prog 8 (⟨[.s (.p 0 0),.g (dS cl 5 ke la (.o wo) ha (.o pa) co (.o rw) (.o rk) n cm fr to_)],[mdl2 c (.o sv) mt mh,topR mt T,hpR mh H ps],3,
   doPinR T H ke cl co n,fun x=>[.s (.bo x.b)],fun x=>[mdl2 c (.o sv) mt mh,topR mt T,hpR mh x.H ps]⟩:Sp RH):=by
 refine cX 148 xaI Tryd.func8 fun g F => ?_
 refine xN fun b1 => ?_
 refine xC Tryd.call12 (t_start (c) (by omega) (ke)) fun xn2 n2 hxn2 => ?_
 refine xB (decide (xn2<0)) (fun h3 => ?_) (fun h3 => ?_)
 ·skip
  replace h3:=decT h3
  exact xR ({b:=co==1,H:=H}) (doPin_a (hxn2.1 (by assumption)))
 ·skip
  replace h3:=decF h3
  refine xA ?_ ?_
  ·skip
   refine xMg 1 (mt) (T) (evT) kI (ke) (false,PRow.nil) true ?_
   refine xN fun b4 => ?_
   refine xC Tryd.call16 (t_pin (c) (((kget T ke).getD (false,PRow.nil)).snd) (H) (ps) (mt) (mh) (sv) (cl) (5) (ke) (la) (((kget T ke).getD (false,PRow.nil)).fst) ((kget T ke).isSome) (wo) (pa) (rw) (rk) (ha) (co) (n) (cm) (fr) (to_) (by omega)) fun xn6 n6 hxn6 => ?_
   exact xR (xn6) (doPin_b (may_of hxn2 (by assumption)) hxn6)
  ·skip
   refine xN fun b7 => ?_
   refine xMg 1 (mt) (T) (evT) kI (ke) (false,PRow.nil) true ?_
   refine xC Tryd.call16 (t_pin (c) (((kget T ke).getD (false,PRow.nil)).snd) (H) (ps) (mt) (mh) (sv) (cl) (5) (ke) (la) (((kget T ke).getD (false,PRow.nil)).fst) ((kget T ke).isSome) (wo) (pa) (rw) (rk) (ha) (co) (n) (cm) (fr) (to_) (by omega)) fun xn9 n9 hxn9 => ?_
   exact xR (xn9) (doPin_b (may_of hxn2 (by assumption)) hxn9)
end Go.Proofs.YthijdhenekmojaaDoor
/- The law's config. -/
set_option linter.unusedSimpArgs false
set_option maxRecDepth 100000
set_option maxHeartbeats 0
namespace Go.Proofs.YthijdhenekmojaaDoor
open Go.Sx
def cf(t:Int): Cfg:={topics:=t,small:=4,slots:=2,clients:=3,s0:=5,n0:=2,s1:=8,n1:=2,retry:=2}
theorem cf_ok{t:Int}(h:1≤t∧t≤4): (cf t).Ok:=by simp only [Cfg.Ok,cf]; omega
theorem and3(n:Int): 0≤IntKind.i64.wrap (↑(BitVec.ofInt IntKind.i64.bits n &&& BitVec.ofInt IntKind.i64.bits 3).toNat)∧IntKind.i64.wrap (↑(BitVec.ofInt IntKind.i64.bits n &&& BitVec.ofInt IntKind.i64.bits 3).toNat)≤3:=by
 have h:(BitVec.ofInt IntKind.i64.bits n &&& BitVec.ofInt IntKind.i64.bits 3).toNat≤3:=by
  rw [BitVec.toNat_and]
  exact Nat.le_trans Nat.and_le_right (by decide)
 have h2:IntKind.i64.wrap (((BitVec.ofInt IntKind.i64.bits n &&& BitVec.ofInt IntKind.i64.bits 3).toNat:Nat):Int)=(((BitVec.ofInt IntKind.i64.bits n &&& BitVec.ofInt IntKind.i64.bits 3).toNat:Nat):Int):=by
  apply wrap_in
  simp only [InK]
  omega
 rw [h2]
 omega
theorem t_config(n:Int): Ct Tryd.prog 6 (⟨[.s (.i .i64 n)],[],0,fun t=>1≤t∧t≤4,fun t=>[.g (cfgS (cf t))],fun _=>[]⟩:Sp Int):=by
 refine cX 8 xaI Tryd.func6 fun g F => ?_
 refine xN fun b1 => ?_
 refine xO (InK IntKind.i64 (1+IntKind.i64.wrap ↑(BitVec.ofInt IntKind.i64.bits n &&& BitVec.ofInt IntKind.i64.bits 3).toNat)) (by have:=and3 n; simp only [InK]; omega) ?_
 refine xN fun b2 => ?_
 refine xN fun b3 => ?_
 refine xN fun b4 => ?_
 exact xR (1+IntKind.i64.wrap ↑(BitVec.ofInt IntKind.i64.bits n &&& BitVec.ofInt IntKind.i64.bits 3).toNat) (by have:=and3 n; show 1≤(1:Int) + _∧(1:Int) + _≤4; omega)
end Go.Proofs.YthijdhenekmojaaDoor
/- What the model of ModelReads becomes, op by op. -/
set_option linter.unusedSimpArgs false
namespace Go.Proofs.YthijdhenekmojaaDoor
open Go.Sx
theorem rs_create{t:Int}(h:1≤t∧t≤4): createM (cf t) [] 1 true 0=⟨true,[(1,true,.nil)]⟩:=by
 unfold createM
 rw [if_neg (by decide),if_pos rfl,if_neg]
 ·rfl
 ·rintro(h1 | h1)
  ·cases h1
  ·simp [cf] at h1; omega
theorem fits5{t:Int}{n:Nat}(h1:1≤n)(h2:n≤5): fitsC (cf t) (n:Int)=0:=by
 unfold fitsC
 rw [if_neg (by omega),if_pos (by show(5:Int)≥n; omega)]
theorem rs_pub{t:Int}{p:PRow}{ps:List PRow}{ws:List Int}{x:RQ}(h1:1≤ws.length)(h2:ws.length≤5)(h:doPubR (cf t) [(1,true,p)] ps 1 ws 0 x): ∃q:PRow,q.xs=ws∧x=⟨true,[(1,true,q)],ps++[q]⟩:=by
 unfold doPubR at h
 rw [if_neg (by
  rintro(h | h)
  ·exact absurd h (by decide)
  ·omega)] at h
 have hk:kget ([(1,true,p)]:TopM) 1=some (true,p):=rfl
 rw [hk] at h
 have hf:fitT (cf t) true (ws.length:Int)=true:=by
  unfold fitT
  rw [if_pos rfl,fits5 h1 h2]
  rfl
 obtain⟨hb,hs⟩:=h
 have hK:pubK' (cf t) true true (ws.length:Int) 0=true:=by
  unfold pubK'; rw [hf]; rfl
 simp only [Option.getD_some,Option.isSome_some] at hb hs
 rw [if_pos hK] at hs
 obtain⟨q,hq,hT,hps⟩:=hs
 refine⟨q,hq, ?_⟩
 have hB:x.b=true:=by
  rw [hb]; unfold pubB'; rw [if_pos rfl,hf]; rfl
 cases x with
 | mk b T ps'=>
  simp only at hB hT hps
  subst hB hT hps
  rfl
theorem rs_pin{p:PRow}{H:HanM}{cl n:Int}{x:RH}(h1:1≤p.xs.length)(h:doPinR [(1,true,p)] H 1 cl 0 n x): x=⟨true,kset H (cl,n) p⟩:=by
 unfold doPinR at h
 rw [if_neg (by decide)] at h
 have hk:kget ([(1,true,p)]:TopM) 1=some (true,p):=rfl
 rw [hk] at h
 obtain⟨hb,hH⟩:=h
 have hd:decide ((p.xs.length:Int)>0)=true:=decide_eq_true (by omega)
 simp only [Option.getD_some,Option.isSome_some] at hb hH
 have hB:x.b=true:=by
  rw [hb]; unfold pinB; rw [if_pos rfl,hd]; rfl
 rw [if_pos (by rw [hd]; rfl)] at hH
 cases x with
 | mk b H'=>
  simp only at hB hH
  subst hB hH
  rfl
theorem tmR(x:Int): InK .i64 (x.tmod 3+3):=by
 have h1:=Int.tmod_lt_of_pos x (show(0:Int)<3 by omega)
 have h2 : -3<x.tmod 3:=by
  have:=Int.tmod_lt_of_pos (-x) (show(0:Int)<3 by omega)
  rw [Int.neg_tmod] at this
  omega
 simp only [InK]; omega
def kOf(w:Int): Int:=(w.tmod 3+3).tmod 3
theorem kOf_rng(w:Int): 0≤kOf w∧kOf w<3:=by
 have h1:=tmR w
 have h2 : -3<w.tmod 3:=by
  have:=Int.tmod_lt_of_pos (-w) (show(0:Int)<3 by omega)
  rw [Int.neg_tmod] at this
  omega
 have h3:=Int.tmod_nonneg 3 (show 0≤w.tmod 3+3 by omega)
 exact⟨h3,Int.tmod_lt_of_pos _ (by omega)⟩
theorem kh1{k:Int}{p r:PRow}: kget (kset (kset ([]:HanM) (k,0) p) (k,1) r) (k,0)=some p:=by simp [kset,kget]
theorem kh2{k:Int}{p r:PRow}: kget (kset (kset ([]:HanM) (k,0) p) (k,1) r) (k,1)=some r:=by simp [kset,kget]
theorem kh3{k j:Int}{p r:PRow}(h:j≠k): kget (kset (kset ([]:HanM) (k,0) p) (k,1) r) (j,0)=none:=by
 have h':k≠j:=fun e=>h e.symm
 simp [kset,kget,h']
theorem kOf_next(w:Int): (kOf w+1).tmod 3≠kOf w:=by
 have h:=kOf_rng w
 rcases (by omega:kOf w=0∨kOf w=1∨kOf w=2) with e | e | e <;> rw [e] <;> decide
theorem rs_remove{p:PRow}: removeM [(1,true,p)] 1 0=⟨true,[]⟩:=by
 unfold removeM
 rw [if_neg (by decide)]
 rfl
end Go.Proofs.YthijdhenekmojaaDoor
/- The model: a new one; what a topic is. -/
set_option linter.unusedSimpArgs false
set_option maxRecDepth 100000
set_option maxHeartbeats 0
namespace Go.Proofs.YthijdhenekmojaaDoor
open Go.Sx
structure NwT where
 mt:Nat
 mh:Nat
abbrev schA: SE:=.pts 0 [.sp 1 2 2] 57
abbrev schB: SE:=.pts 1 [.l .i64 1,.l .i64 0,.l .i64 3,.l .i64 0] 56
theorem t_new(c:Cfg)(hc:c.Ok): Ct Tryd.prog 5 (⟨[.g (cfgS c),.s (.sp 0 1 1)],[schA,schB],2,fun _=>True,fun _=>[.s (.p 2 0)],fun x=>[schA,schB,.pts 2 (cfgS c++[.sp 0 1 1,.mb 3 x.mt,.mb 4 x.mh]) 53,.rs 3 fun _=>KMap x.mt ekI evT [],.rs 4 fun _=>HP 22 x.mh [] []]⟩:Sp NwT):=by
 refine cX 19 xaI Tryd.func5 fun g F => ?_
 refine xN fun b1 => ?_
 refine xC Tryd.call9 (t_plan (c) (by omega)) fun _ n2 _ => ?_
 refine xF (decide ((↑(1:Nat):Int)<(1:Int))) rfl ?_
 refine xF (decide ((↑(1:Nat):Int)>(8:Int))) rfl ?_
 refine xT (decide ((0:Int)<(↑(1:Nat):Int))) rfl ?_
 refine xF (decide ((↑(2:Nat):Int)<(1:Int))) rfl ?_
 refine xF (decide ((↑(2:Nat):Int)>(6:Int))) rfl ?_
 refine xT (decide ((0:Int)<(↑(2:Nat):Int))) rfl ?_
 refine xN fun b3 => ?_
 refine xF (decide ((0:Int)≥(↑(1:Nat):Int))) rfl ?_
 refine xT (decide (IntKind.i64.wrap ((0:Int)+(1:Int))<(↑(2:Nat):Int))) rfl ?_
 refine xN fun b4 => ?_
 refine xF (decide ((0:Int)≥(↑(1:Nat):Int))) rfl ?_
 refine xF (decide (IntKind.i64.wrap (IntKind.i64.wrap ((0:Int)+(1:Int))+(1:Int))<(↑(2:Nat):Int))) rfl ?_
 refine xF (decide (IntKind.i64.wrap ((0:Int)+(1:Int))<(↑(1:Nat):Int))) rfl ?_
 refine xN fun b5 => ?_
 refine xN fun b6 => ?_
 refine xN fun b7 => ?_
 refine xEndL [5,6] [.raw b5 (.map #[] 0),.raw b6 (.map #[] 0)] [.res (KMap b5 ekI evT []),.res (HP 22 b6 [] [])] [66,67] pv_new ?_
 exact xR ({mt:=b5,mh:=b6}) (by assumption)
end Go.Proofs.YthijdhenekmojaaDoor
/- The model: what is read, if it isn't told to be there. -/
set_option linter.unusedSimpArgs false
set_option maxRecDepth 100000
set_option maxHeartbeats 0
namespace Go.Proofs.YthijdhenekmojaaDoor
open Go.Sx
def readN(T:TopM)(ke:Int)(co:Int): Bool:=
 if mayB ke=false then co==1 else
 if co=12 then !(kget T ke).isSome else if co=20 then(kget T ke).isSome&&((((kget T ke).getD (false,.nil)).2.xs.length:Int)==0) else decide (co=19∨co=17)
theorem t_readN(c:Cfg)(hc:c.Ok)(T:TopM)(mt:Nat)(sv hv:Value)(cl ke:Int)(la:Bool)(wo pa rw rk:Value)(ha co n cm fr to_:Int)(hco:co≠0):
  Ct Tryd.prog 8 (⟨[.s (.p 0 0),.g (dS cl 4 ke la (.o wo) ha (.o pa) co (.o rw) (.o rk) n cm fr to_)],[mdl c (.o sv) (.o hv) mt,topR mt T],2,
   fun x=>x=readN T ke co,fun x=>[.s (.bo x)],fun x=>[mdl c (.o sv) (.o hv) mt,topR mt T]⟩:Sp Bool):=by
 refine cX 148 xbI Tryd.func8 fun g F => ?_
 refine xN fun b1 => ?_
 refine xC Tryd.call12 (t_start (c) (by omega) (ke)) fun xn2 n2 hxn2 => ?_
 refine xB (decide (xn2<0)) (fun h3 => ?_) (fun h3 => ?_)
 ·skip
  replace h3:=decT h3
  exact xR (co==1) (by have hm:=hxn2.1 (by assumption); simp [readN,hm])
 ·skip
  replace h3:=decF h3
  refine xA ?_ ?_
  ·skip
   refine xMg 1 (mt) (T) (evT) kI (ke) (false,PRow.nil) true ?_
   refine xN fun b4 => ?_
   refine xN fun b5 => ?_
   refine xN fun b6 => ?_
   refine xF (co==0) (by first | (simp; done) | (simp; omega)) ?_
   refine xB (co==12) (fun h7 => ?_) (fun h7 => ?_)
   ·skip
    replace h7:=decT h7
    exact xR (!(kget T ke).isSome) (by have hm:=may_of hxn2 (by assumption); simp [readN,hm, *])
   ·skip
    replace h7:=decF h7
    refine xB (co==20) (fun h8 => ?_) (fun h8 => ?_)
    ·skip
     replace h8:=decT h8
     refine xB ((kget T ke).isSome) (fun h9 => ?_) (fun h9 => ?_)
     ·skip
      exact xR ((↑((kget T ke).getD (false,PRow.nil)).snd.xs.length:Int)==(0:Int)) (by have hm:=may_of hxn2 (by assumption); simp [readN,hm, *])
     ·skip
      exact xR (false) (by have hm:=may_of hxn2 (by assumption); simp [readN,hm, *])
    ·skip
     replace h8:=decF h8
     refine xB (co==19) (fun h10 => ?_) (fun h10 => ?_)
     ·skip
      replace h10:=decT h10
      exact xR (true) (by have hm:=may_of hxn2 (by assumption); simp [readN,hm, *])
     ·skip
      replace h10:=decF h10
      refine xB (co==17) (fun h11 => ?_) (fun h11 => ?_)
      ·skip
       replace h11:=decT h11
       exact xR (true) (by have hm:=may_of hxn2 (by assumption); simp [readN,hm, *])
      ·skip
       replace h11:=decF h11
       exact xR (false) (by have hm:=may_of hxn2 (by assumption); simp [readN,hm, *])
  ·skip
   refine xN fun b12 => ?_
   refine xMg 1 (mt) (T) (evT) kI (ke) (false,PRow.nil) true ?_
   refine xN fun b13 => ?_
   refine xN fun b14 => ?_
   refine xF (co==0) (by first | (simp; done) | (simp; omega)) ?_
   refine xB (co==12) (fun h15 => ?_) (fun h15 => ?_)
   ·skip
    replace h15:=decT h15
    exact xR (!(kget T ke).isSome) (by have hm:=may_of hxn2 (by assumption); simp [readN,hm, *])
   ·skip
    replace h15:=decF h15
    refine xB (co==20) (fun h16 => ?_) (fun h16 => ?_)
    ·skip
     replace h16:=decT h16
     refine xB ((kget T ke).isSome) (fun h17 => ?_) (fun h17 => ?_)
     ·skip
      exact xR ((↑((kget T ke).getD (false,PRow.nil)).snd.xs.length:Int)==(0:Int)) (by have hm:=may_of hxn2 (by assumption); simp [readN,hm, *])
     ·skip
      exact xR (false) (by have hm:=may_of hxn2 (by assumption); simp [readN,hm, *])
    ·skip
     replace h16:=decF h16
     refine xB (co==19) (fun h18 => ?_) (fun h18 => ?_)
     ·skip
      replace h18:=decT h18
      exact xR (true) (by have hm:=may_of hxn2 (by assumption); simp [readN,hm, *])
     ·skip
      replace h18:=decF h18
      refine xB (co==17) (fun h19 => ?_) (fun h19 => ?_)
      ·skip
       replace h19:=decT h19
       exact xR (true) (by have hm:=may_of hxn2 (by assumption); simp [readN,hm, *])
      ·skip
       replace h19:=decF h19
       exact xR (false) (by have hm:=may_of hxn2 (by assumption); simp [readN,hm, *])
end Go.Proofs.YthijdhenekmojaaDoor
/- The chapter's example. -/
set_option linter.unusedSimpArgs false
set_option maxRecDepth 100000
set_option maxHeartbeats 0
namespace Go.Proofs.YthijdhenekmojaaDoor
open Go.Sx
theorem aw1{t:Int}(h:1≤t∧t≤4): createM (cf t) [] 5 false 0=⟨true,[(5,false,.nil)]⟩:=by
 unfold createM
 rw [if_neg (by decide),if_pos rfl,if_neg]
 ·rfl
 ·rintro(h1 | h1)
  ·cases h1
  ·simp [cf] at h1; omega
theorem t_awake: Ct Tryd.prog 4 (sB [] [] 0 true []):=by
 refine cX 30 xaI Tryd.func4 fun g F => ?_
 refine xC Tryd.call6 (t_config (1)) fun xn1 n1 hxn1 => ?_
 refine xN fun b2 => ?_
 refine xN fun b3 => ?_
 refine xC Tryd.call5 (t_new (cf xn1) (cf_ok (by assumption))) fun xn5 n5 hxn5 => ?_
 refine xC Tryd.call8 (t_readN (cf xn1) (cf_ok (by assumption)) ([]) (xn5.mt) (Value.slice (some {block:=b3,off:=0}) 1 1) (Value.map (some xn5.mh)) (0) (5) (false) (Value.slice none 0 0) (Value.slice none 0 0) (Value.slice none 0 0) (Value.slice none 0 0) (0) (12) (0) (0) (0) (0) (by omega)) fun xn8 n8 hxn8 => ?_
 subst hxn8
 refine xC Tryd.call8 (t_create (cf xn1) (cf_ok (by assumption)) ([]) (xn5.mt) (Value.slice (some {block:=b3,off:=0}) 1 1) (Value.map (some xn5.mh)) (0) (5) (false) (Value.slice none 0 0) (Value.slice none 0 0) (Value.slice none 0 0) (Value.slice none 0 0) (0) (0) (0) (0) (0) (0)) fun xn12 n12 hxn12 => ?_
 subst hxn12
 refine xC Tryd.call8 (t_readN (cf xn1) (cf_ok (by assumption)) ((createM (cf xn1) [] (5:Int) false (0:Int)).2) (xn5.mt) (Value.slice (some {block:=b3,off:=0}) 1 1) (Value.map (some xn5.mh)) (0) (5) (false) (Value.slice none 0 0) (Value.slice none 0 0) (Value.slice none 0 0) (Value.slice none 0 0) (0) (12) (0) (0) (0) (0) (by omega)) fun xn15 n15 hxn15 => ?_
 subst hxn15
 refine xT (readN [] 5 12) rfl ?_
 refine xT ((createM (cf xn1) [] 5 false 0).b) (by rw [aw1 hxn1]) ?_
 exact xR (!readN (createM (cf xn1) [] 5 false 0).T 5 12) (by rw [aw1 hxn1]; rfl)
end Go.Proofs.YthijdhenekmojaaDoor
/- errors.As at a code. -/
namespace Go.Proofs.YthijdhenekmojaaDoor
open Go.RowKit Go.Extern.Stop Go.Stop Go.Extern
theorem as_nil(t:Value)(w:World):
  Calls Tryd.prog 44 #[.nilIface,t] w fun e w'=>e = .returned (.bool false)∧w'=w:=by
 go_enter Tryd.func44,Tryd.ntmps44
 go_wp2
 go_ret
 exact⟨rfl,rfl⟩
theorem Tryd.valueOfP(t:Addr)(w:World): (ReflectliteValue.unpack (.iface 103 (.pointer (some t)))).run Tryd.prog w
  = .ok (.agg #[.pointer (some ⟨1,103,none⟩),.pointer (some ⟨w.heap.size,0,none⟩),.int .u64 150]) (w.alloc (.cells #[.pointer (some t)] 103)):=by kernel_rfl
theorem Tryd.typeP(a:Addr)(w:World): (ReflectliteValue.methodAny (ReflectliteValue.valueError "reflectlite.Value.Type" 0) (fun t _ _ _=>ReflectliteType.toType t) #[.agg #[.pointer (some ⟨1,103,none⟩),.pointer (some a),.int .u64 150]]).run Tryd.prog w
  = .ok (.iface 131 (.agg #[.pointer (some ⟨1,103,none⟩)])) w:=by kernel_rfl
theorem Tryd.methodKind(h:Value)(w:World): (Go.method 290 131 (.agg #[h]) "Kind").run Tryd.prog w = .ok (99,h) w:=by kernel_rfl
theorem Tryd.kindP(w:World): ((ReflectliteType.abiMethod fun t=>Functor.map (fun a:Nat=>Value.int IntKind.u8 (a:Int)) (Rtype.kind t)) #[.pointer (some ⟨1,103,none⟩)]).run Tryd.prog w = .ok (.int .u8 22) w:=by kernel_rfl
theorem Tryd.kindE(w:World): ((ReflectliteType.abiMethod fun t=>Functor.map (fun a:Nat=>Value.int IntKind.u8 (a:Int)) (Rtype.kind t)) #[.pointer (some ⟨1,40,none⟩)]).run Tryd.prog w = .ok (.int .u8 2) w:=by kernel_rfl
theorem rlm(z:Sem Value)(f:TypeId→Addr→Nat→Nat→Sem Value)(v:Value):
  ReflectliteValue.method z f #[v]=(do match ←ReflectliteValue.parts v with | none=>z | some (t,a,fl)=>f t a fl (fl % 32)):=rfl
theorem Tryd.partsP(a:Addr)(w:World): (ReflectliteValue.parts (.agg #[.pointer (some ⟨1,103,none⟩),.pointer (some a),.int .u64 150])).run Tryd.prog w = .ok (some (103,a,150)) w:=by kernel_rfl
theorem Tryd.isNilP(a p:Addr)(W:World)(ha:W.cell? a=some (.pointer (some p))):
  (ReflectliteValue.method (ReflectliteValue.valueError "reflectlite.Value.IsNil" 0) ReflectliteValue.isNil #[.agg #[.pointer (some ⟨1,103,none⟩),.pointer (some a),.int .u64 150]]).run Tryd.prog W = .ok (.bool false) W:=by
 rw [rlm]
 simp only [Sem.run_bind,Tryd.partsP,Result.andThen]
 simp [ReflectliteValue.isNil,loadVar,isAgg,underlying,Tryd.underlying103,ha,Result.andThen]
theorem Tryd.methodElem(h:Value)(w:World): (Go.method 290 131 (.agg #[h]) "Elem").run Tryd.prog w = .ok (109,.agg #[h]) w:=by kernel_rfl
theorem Tryd.methodImplements(h:Value)(w:World): (Go.method 290 131 (.agg #[h]) "Implements").run Tryd.prog w = .ok (110,.agg #[h]) w:=by kernel_rfl
theorem Tryd.methodAssignableTo(h:Value)(w:World): (Go.method 290 131 (.agg #[h]) "AssignableTo").run Tryd.prog w = .ok (107,.agg #[h]) w:=by kernel_rfl
theorem Tryd.elemP(w:World): (ReflectliteType.method ReflectliteType.elem #[.agg #[.pointer (some ⟨1,103,none⟩)]]).run Tryd.prog w = .ok (.iface 131 (.agg #[.pointer (some ⟨1,40,none⟩)])) w:=by kernel_rfl
theorem Tryd.implementsE(w:World): (ReflectliteType.relation "Implements" ReflectliteType.implements_ #[.agg #[.pointer (some ⟨1,40,none⟩)],.iface 131 (.agg #[.pointer (some ⟨1,47,none⟩)])]).run Tryd.prog w = .ok (.bool true) w:=by kernel_rfl
theorem Tryd.typeOfE(v:Value)(w:World): (ReflectliteType.typeOf #[.iface 40 v]).run Tryd.prog w = .ok (.iface 131 (.agg #[.pointer (some ⟨1,40,none⟩)])) w:=by kernel_rfl
theorem Tryd.assignableE(w:World): (ReflectliteType.relation "AssignableTo" ReflectliteType.assignableTo #[.agg #[.pointer (some ⟨1,40,none⟩)],.iface 131 (.agg #[.pointer (some ⟨1,40,none⟩)])]).run Tryd.prog w = .ok (.bool true) w:=by kernel_rfl
theorem Tryd.valueOfE(e:Int)(w:World): (ReflectliteValue.unpack (.iface 40 (.int .i64 e))).run Tryd.prog w
  = .ok (.agg #[.pointer (some ⟨1,40,none⟩),.pointer (some ⟨w.heap.size,0,none⟩),.int .u64 130]) (w.alloc (.cells #[.int .i64 e] 40)):=by kernel_rfl
theorem Tryd.elemOfP(w:World): (Rtype.elem? 103).run Tryd.prog w = .ok (some 40) w:=by kernel_rfl
theorem Tryd.mkE(p:Addr)(w:World): (ReflectliteValue.mk 40 p ReflectliteValue.flagAddr).run Tryd.prog w = .ok (.agg #[.pointer (some ⟨1,40,none⟩),.pointer (some p),.int .u64 386]) w:=by kernel_rfl
theorem Tryd.elemVP(a p:Addr)(W:World)(ha:W.cell? a=some (.pointer (some p))):
  (ReflectliteValue.method (ReflectliteValue.valueError "reflectlite.Value.Elem" 0) ReflectliteValue.elem #[.agg #[.pointer (some ⟨1,103,none⟩),.pointer (some a),.int .u64 150]]).run Tryd.prog W
   = .ok (.agg #[.pointer (some ⟨1,40,none⟩),.pointer (some p),.int .u64 386]) W:=by
 rw [rlm]
 simp only [Sem.run_bind,Tryd.partsP,Result.andThen]
 simp [ReflectliteValue.elem,loadVar,isAgg,underlying,Tryd.underlying103,ha,Result.andThen,Tryd.elemOfP,Tryd.mkE]
theorem rls: ∃s1 s2 s3:String,∀v x:Value,ReflectliteValue.set #[v,x]=(do
  let (some (dst,a,fl),some (src,b,_)):=(←ReflectliteValue.parts v,←ReflectliteValue.parts x)
   | unsupported (.noEntry s1)
  if fl / ReflectliteValue.flagAddr % 2==0 then unsupported (.noEntry s2)
  let val ←loadVar src b
  if ←Rtype.directlyAssignable dst src then storeVar dst a val
  else if ←Rtype.implements dst src then
   if (←Rtype.kind src)==20 then
    match val with
    | .nilIface=>unsupported (.noEntry s3)
    | _=>storeVar dst a val
   else storeVar dst a (.iface src val)
  else panicString ("reflectlite.Set: value of type " ++ (←Rtype.spelt src) ++ " is not assignable to type " ++ (←Rtype.spelt dst))
  pure (.tuple #[])):=⟨_,_,_,fun _ _=>rfl⟩
theorem Tryd.partsEa(a:Addr)(w:World): (ReflectliteValue.parts (.agg #[.pointer (some ⟨1,40,none⟩),.pointer (some a),.int .u64 386])).run Tryd.prog w = .ok (some (40,a,386)) w:=by kernel_rfl
theorem Tryd.partsE(a:Addr)(w:World): (ReflectliteValue.parts (.agg #[.pointer (some ⟨1,40,none⟩),.pointer (some a),.int .u64 130])).run Tryd.prog w = .ok (some (40,a,130)) w:=by kernel_rfl
theorem Tryd.directE(w:World): (Rtype.directlyAssignable 40 40).run Tryd.prog w = .ok true w:=by kernel_rfl
theorem Tryd.setE(ta b:Addr)(e:Int)(old:Value)(W:World)(hb:W.cell? b=some (.int .i64 e))(ht:W.cell? ta=some old)(hf:W.frozen? ta=false):
  (ReflectliteValue.set #[.agg #[.pointer (some ⟨1,40,none⟩),.pointer (some ta),.int .u64 386],.agg #[.pointer (some ⟨1,40,none⟩),.pointer (some b),.int .u64 130]]).run Tryd.prog W
   = .ok (.tuple #[]) (W.setCell ta (.int .i64 e)):=by
 obtain⟨s1,s2,s3,hrls⟩:=rls
 rw [hrls]
 simp only [Sem.run_bind,Tryd.partsEa,Tryd.partsE,Result.andThen]
 simp [ReflectliteValue.flagAddr,loadVar,isAgg,underlying,Tryd.underlying40,hb,Result.andThen,Tryd.directE,storeVar,Value.cells,storeCells,Addr.add]
 rw [run_store Tryd.prog W ta _ _ (by rfl)]
 simp [ht,hf]
set_option maxHeartbeats 4000000 in
theorem as_hit(e:Int)(t:Addr)(old:Value)(w:World)(hg:w.cell? ⟨0,0,none⟩=some (.iface 131 (.agg #[.pointer (some ⟨1,47,none⟩)])))(ht0:w.cell? t=some old)(hf0:w.frozen? t=false):
  Calls Tryd.prog 44 #[.iface 40 (.int .i64 e),.iface 103 (.pointer (some t))] w fun ev w'=>ev = .returned (.bool true)∧w'=((((w.alloc (.cells #[.pointer (some t)] 103)).alloc (.cells #[.pointer (some ⟨1,103,none⟩),.pointer (some ⟨w.heap.size,0,none⟩),.int .u64 150] 115)).alloc (.cells #[.pointer (some ⟨1,103,none⟩),.pointer (some ⟨w.heap.size,0,none⟩),.int .u64 150] 115)).alloc (.cells #[.int .i64 e] 40)).setCell t (.int .i64 e):=by
 have h6 := @run_callFunc_extern Tryd.prog 55 _ (fun args=>ReflectliteValue.unpack (args.getD 0 (.tuple #[]))) Tryd.func55 (by kernel_rfl) (by kernel_rfl) (by kernel_rfl) (by kernel_rfl)
 have h7 := @run_callFunc_extern Tryd.prog 56 _ (ReflectliteValue.methodAny (ReflectliteValue.valueError "reflectlite.Value.Type" 0) (fun t _ _ _=>ReflectliteType.toType t)) Tryd.func56 (by kernel_rfl) (by kernel_rfl) (by kernel_rfl) (by kernel_rfl)
 have h8 := @run_callFunc_extern Tryd.prog 57 _ (ReflectliteValue.method (ReflectliteValue.valueError "reflectlite.Value.IsNil" 0) ReflectliteValue.isNil) Tryd.func57 (by kernel_rfl) (by kernel_rfl) (by kernel_rfl) (by kernel_rfl)
 have h27 := @run_callFunc_extern Tryd.prog 99 _ (ReflectliteType.abiMethod fun t=>do pure (.int .u8 (←Rtype.kind t))) Tryd.func99 (by kernel_rfl) (by kernel_rfl) (by kernel_rfl) (by kernel_rfl)
 have h37 := @run_callFunc_extern Tryd.prog 109 _ (ReflectliteType.method ReflectliteType.elem) Tryd.func109 (by kernel_rfl) (by kernel_rfl) (by kernel_rfl) (by kernel_rfl)
 have h38 := @run_callFunc_extern Tryd.prog 110 _ (ReflectliteType.relation "Implements" ReflectliteType.implements_) Tryd.func110 (by kernel_rfl) (by kernel_rfl) (by kernel_rfl) (by kernel_rfl)
 have h10 := @run_callFunc_extern Tryd.prog 64 _ (ReflectliteType.typeOf) Tryd.func64 (by kernel_rfl) (by kernel_rfl) (by kernel_rfl) (by kernel_rfl)
 have h35 := @run_callFunc_extern Tryd.prog 107 _ (ReflectliteType.relation "AssignableTo" ReflectliteType.assignableTo) Tryd.func107 (by kernel_rfl) (by kernel_rfl) (by kernel_rfl) (by kernel_rfl)
 have h11 := @run_callFunc_extern Tryd.prog 65 _ (ReflectliteValue.method (ReflectliteValue.valueError "reflectlite.Value.Elem" 0) ReflectliteValue.elem) Tryd.func65 (by kernel_rfl) (by kernel_rfl) (by kernel_rfl) (by kernel_rfl)
 have h12 := @run_callFunc_extern Tryd.prog 66 _ (ReflectliteValue.set) Tryd.func66 (by kernel_rfl) (by kernel_rfl) (by kernel_rfl) (by kernel_rfl)
 have xtypeOfE:=Tryd.typeOfE
 have xmethodAssignableTo:=Tryd.methodAssignableTo
 have xassignableE:=Tryd.assignableE
 have xvalueOfE:=Tryd.valueOfE
 have xvalueOfP:=Tryd.valueOfP
 have xtypeP:=Tryd.typeP
 have xmethodKind:=Tryd.methodKind
 have xmethodElem:=Tryd.methodElem
 have xmethodImplements:=Tryd.methodImplements
 have xkindP:=Tryd.kindP
 have xkindE:=Tryd.kindE
 have xelemP:=Tryd.elemP
 have ximplementsE:=Tryd.implementsE
 have n8:=Tryd.isNilP ⟨w.heap.size,0,none⟩ t ((w.alloc (.cells #[.pointer (some t)] 103)).alloc (.cells #[.pointer (some ⟨1,103,none⟩),.pointer (some ⟨w.heap.size,0,none⟩),.int .u64 150] 115)) (by simp)
 have hlt:0<w.heap.size:=by
  rcases Nat.eq_zero_or_pos w.heap.size with h0 | h
  ·simp [World.cell?,h0] at hg
  ·exact h
 have hg2:((w.alloc (.cells #[.pointer (some t)] 103)).alloc (.cells #[.pointer (some ⟨1,103,none⟩),.pointer (some ⟨w.heap.size,0,none⟩),.int .u64 150] 115)).cell? ⟨0,0,none⟩=some (.iface 131 (.agg #[.pointer (some ⟨1,47,none⟩)])):=by
  rw [World.cell?_alloc_lt _ _ ⟨0,0,none⟩ (by simp),World.cell?_alloc_lt _ _ ⟨0,0,none⟩ hlt]; exact hg
 have htl:t.block<w.heap.size:=by
  rcases Nat.lt_or_ge t.block w.heap.size with h | h
  ·exact h
  ·simp [World.cell?,Array.getElem?_eq_none h] at ht0
 have el:=Tryd.elemVP ⟨w.heap.size,0,none⟩ t (((w.alloc (.cells #[.pointer (some t)] 103)).alloc (.cells #[.pointer (some ⟨1,103,none⟩),.pointer (some ⟨w.heap.size,0,none⟩),.int .u64 150] 115)).alloc (.cells #[.pointer (some ⟨1,103,none⟩),.pointer (some ⟨w.heap.size,0,none⟩),.int .u64 150] 115)) (by rw [World.cell?_alloc_lt _ _ ⟨w.heap.size,0,none⟩ (by simp; omega)]; simp)
 have st:=Tryd.setE t ⟨w.heap.size+1+1+1,0,none⟩ e old ((((w.alloc (.cells #[.pointer (some t)] 103)).alloc (.cells #[.pointer (some ⟨1,103,none⟩),.pointer (some ⟨w.heap.size,0,none⟩),.int .u64 150] 115)).alloc (.cells #[.pointer (some ⟨1,103,none⟩),.pointer (some ⟨w.heap.size,0,none⟩),.int .u64 150] 115)).alloc (.cells #[.int .i64 e] 40))
  (by rw [World.cell?_alloc_at _ _ _ _ (by simp)]; rfl)
  (by rw [World.cell?_alloc_lt _ _ t (by simp; omega),World.cell?_alloc_lt _ _ t (by simp; omega),World.cell?_alloc_lt _ _ t (by simp; omega),World.cell?_alloc_lt _ _ t htl]; exact ht0)
  (by rw [World.frozen?_alloc_old _ _ t (by simp; omega),World.frozen?_alloc_old _ _ t (by simp; omega),World.frozen?_alloc_old _ _ t (by simp; omega),World.frozen?_alloc_old _ _ t (Nat.ne_of_lt htl)]; exact hf0)
 go_enter Tryd.func44,Tryd.ntmps44
 go_wp2
 refine wp_loop_rounds 1 ?_
 rw [rounds_succ]
 go_wp2
 go_ret
 exact⟨rfl,rfl⟩
end Go.Proofs.YthijdhenekmojaaDoor
namespace Go.Proofs.YthijdhenekmojaaDoor
open Go.Sx
/-- the cell of the variable errors.errorType -/
def handleV: Value:=.iface 131 (.agg #[.pointer (some ⟨1,47,none⟩)])
theorem as_nilC(t:Value): Ctr Tryd.prog 44 #[.nilIface,t] [] (Ret (.bool false) []):=by
 intro F w hi
 refine(as_nil t w).mono ?_
 rintro e w' ⟨rfl,rfl⟩
 exact⟨_,_,rfl,⟨rfl,rfl⟩,hi⟩
theorem as_hitC(gt:Nat)(gf:Nat×Nat)(b:Nat)(old k:Int): Ctr Tryd.prog 44 #[.iface 40 (.int .i64 k),.iface 103 (.pointer (some ⟨b,0,none⟩))] [.raw 0 (.cells #[handleV] gt gf),.pts b [.int .i64 old] 40]
  (Ret (.bool true) [.raw 0 (.cells #[handleV] gt gf),.pts b [.int .i64 k] 40]):=by
 intro F w hi
 have h0:=(hi.one (i:=0) rfl (b:=0) (o:=.cells #[handleV] gt gf) (fun g hg=>hg)).1
 have hb:=(hi.one (i:=1) rfl (b:=b) (o:=.cells #[.int .i64 old] 40 (0,0)) (fun g hg=>hg)).1
 refine(as_hit k ⟨b,0,none⟩ (.int .i64 old) w (by simp [World.cell?,h0,handleV]) (by simp [World.cell?,hb]) (by simp [World.frozen?,hb])).mono ?_
 rintro e w' ⟨rfl,rfl⟩
 refine⟨_,_,rfl,⟨rfl,rfl⟩, ?_⟩
 have h4:In _ F (((((w.alloc (.cells #[.pointer (some ⟨b,0,none⟩)] 103)).alloc (.cells #[.pointer (some ⟨1,103,none⟩),.pointer (some ⟨w.heap.size,0,none⟩),.int .u64 150] 115)).alloc (.cells #[.pointer (some ⟨1,103,none⟩),.pointer (some ⟨w.heap.size,0,none⟩),.int .u64 150] 115)).alloc (.cells #[.int .i64 k] 40))):=(((hi.alloc (.cells #[.pointer (some ⟨b,0,none⟩)] 103)).alloc (.cells #[.pointer (some ⟨1,103,none⟩),.pointer (some ⟨w.heap.size,0,none⟩),.int .u64 150] 115)).alloc (.cells #[.pointer (some ⟨1,103,none⟩),.pointer (some ⟨w.heap.size,0,none⟩),.int .u64 150] 115)).alloc (.cells #[.int .i64 k] 40)
 obtain⟨h5,h6⟩:=h4.one (i:=1) rfl (b:=b) (o:=.cells #[.int .i64 old] 40 (0,0)) (fun g hg=>hg)
 have h7:=h6 (.cells #[.int .i64 k] 40 (0,0)) (.pts b [.int .i64 k] 40) (((((w.alloc (.cells #[.pointer (some ⟨b,0,none⟩)] 103)).alloc (.cells #[.pointer (some ⟨1,103,none⟩),.pointer (some ⟨w.heap.size,0,none⟩),.int .u64 150] 115)).alloc (.cells #[.pointer (some ⟨1,103,none⟩),.pointer (some ⟨w.heap.size,0,none⟩),.int .u64 150] 115)).alloc (.cells #[.int .i64 k] 40)).setCell ⟨b,0,none⟩ (.int .i64 k)) rfl
  (by simp only [World.setCell]; rw [Array.getElem?_modify,if_pos rfl]; exact congrArg _ h5)
  (fun j hj=>by simp only [World.setCell]; rw [Array.getElem?_modify,if_neg (fun h=>hj h.symm)]) rfl rfl rfl
 exact In.left (L:=[.raw 0 (.cells #[handleV] gt gf),.pts b [.int .i64 k] 40]) (M:=[_,_,_,_]) h7
end Go.Proofs.YthijdhenekmojaaDoor
/- The code of a trouble. -/
set_option maxRecDepth 100000
set_option maxHeartbeats 0
namespace Go.Proofs.YthijdhenekmojaaDoor
open Go.Sx
/-- the frame has the variable errors.errorType -/
def HF(F:Fr): Prop := ∃t f,(0,Obj.cells #[handleV] t f)∈F.f
theorem HF.mono{F F':Fr}(h:HF F)(hF:∀p∈F.f,p∈F'.f): HF F':=by
 obtain⟨t,f,hm⟩:=h
 exact⟨t,f,hF _ hm⟩
theorem t_asE(k:Int)(F:Fr)(hF:HF F): CtF Tryd.prog F 44 (⟨[.s (.ii 40 .i64 k),.s (.ip 103 0)],[.pts 0 [.l .i64 0] 40],1,fun _=>True,fun _=>[.s (.bo true)],fun _=>[.pts 0 [.i .i64 k] 40]⟩:Sp Unit):=by
 intro g w hi
 obtain⟨t,f,hm⟩:=hF
 obtain⟨F',h1,h2⟩:=In.lend hm hi
 refine(as_hitC t f (g 0).b 0 k F' w h1).mono ?_
 rintro e w' ⟨v,post,rfl,⟨rfl,rfl⟩,hw⟩
 exact⟨_,_,rfl,⟨(),rf0,trivial,rfl,rfl⟩,h2 _ _ hw⟩
theorem t_as0(v:Value): Ct Tryd.prog 44 (⟨[.s .ni,.s (.o v)],[],0,fun _=>True,fun _=>[.s (.bo false)],fun _=>[]⟩:Sp Unit):=by
 intro g F w hi
 refine(as_nilC v F w hi).mono ?_
 rintro e w' ⟨v,post,rfl,⟨rfl,rfl⟩,hw⟩
 exact⟨_,_,rfl,⟨(),rf0,trivial,rfl,rfl⟩,hw⟩
def x0: Cx:=⟨[],[],[],[]⟩
theorem x0I: Inl Tryd.prog x0:=inl_ok trivial trivial
theorem t_top0: Ct Tryd.prog 33 (⟨[.s .ni],[],0,fun _=>True,fun _=>[.s (.l .i64 0)],fun _=>[]⟩:Sp Unit):=by
 refine cX 8 x0I Tryd.func33 fun g F => ?_
 refine xN fun b1 => ?_
 refine xC Tryd.call44 (t_as0 (Value.iface (103:Nat) (Value.pointer (some {block:=b1,off:=(0:Nat)})))) fun _ n2 _ => ?_
 refine xF (false) rfl ?_
 exact xR () trivial
theorem t_topE(k:Int)(F:Fr)(hF:HF F): CtF Tryd.prog F 33 (⟨[.s (.ii 40 .i64 k)],[],0,fun _=>True,fun _=>[.s (.i .i64 k)],fun _=>[]⟩:Sp Unit):=by
 refine cF 8 x0I Tryd.func33 fun g => ?_
 refine xN fun b1 => ?_
 refine xCt id Tryd.call44 (fun F' h=>t_asE k F' (hF.mono h)) fun _ n1 _ => ?_
 refine xT (true) rfl ?_
 exact xR () trivial
end Go.Proofs.YthijdhenekmojaaDoor
/- Looking at a field, at the schema of the law. -/
set_option linter.unusedSimpArgs false
set_option maxRecDepth 100000
set_option maxHeartbeats 0
namespace Go.Proofs.YthijdhenekmojaaDoor
open Go.Sx
theorem ink32(x:Int): InK .i64 (IntKind.u32.wrap x):=by
 have:=wrap32_rng x
 simp only [InK]; omega
theorem ink32p(x:Int): InK .i64 (1+IntKind.u32.wrap x):=by
 have:=wrap32_rng x
 simp only [InK]; omega
theorem inkShr{x:Int}(h:0≤x∧x≤18446744073709551615): InK .i64 (bShr .u64 x 32):=by
 have e:bShr .u64 x 32=x / 4294967296:=shr_lit x 32 (by decide)
 rw [e]; simp only [InK]; omega
abbrev wlk(m:Nat)(ask n code:Int): SE:=.pts 3 [.sp 0 1 1,.l .i64 0,.s 4 m,.l .i64 ask,.l .i64 0,.i .u64 n,.i .i64 code] 98
theorem t_check: Ct Tryd.prog 10 (⟨[.s (.sp 0 1 1)],[schA,schB],2,fun _=>True,fun _=>[.s .ni],fun _=>[schA,schB]⟩:Sp Unit):=by
 refine cX 7 xaI Tryd.func10 fun g F => ?_
 refine xF (decide ((↑(1:Nat):Int)<(1:Int))) rfl ?_
 refine xF (decide ((↑(1:Nat):Int)>(8:Int))) rfl ?_
 refine xT (decide ((0:Int)<(↑(1:Nat):Int))) rfl ?_
 refine xF (decide ((↑(2:Nat):Int)<(1:Int))) rfl ?_
 refine xF (decide ((↑(2:Nat):Int)>(6:Int))) rfl ?_
 refine xT (decide ((0:Int)<(↑(2:Nat):Int))) rfl ?_
 refine xN fun b1 => ?_
 refine xF (decide ((0:Int)≥(↑(1:Nat):Int))) rfl ?_
 refine xT (decide (IntKind.i64.wrap ((0:Int)+(1:Int))<(↑(2:Nat):Int))) rfl ?_
 refine xN fun b2 => ?_
 refine xF (decide ((0:Int)≥(↑(1:Nat):Int))) rfl ?_
 refine xF (decide (IntKind.i64.wrap (IntKind.i64.wrap ((0:Int)+(1:Int))+(1:Int))<(↑(2:Nat):Int))) rfl ?_
 refine xF (decide (IntKind.i64.wrap ((0:Int)+(1:Int))<(↑(1:Nat):Int))) rfl ?_
 exact xR () trivial
theorem t_startA: Ct Tryd.prog 29 (⟨[.s (.sp 0 1 1),.s (.l .i64 0),.s (.l .i64 1),.s (.s 2 1)],[schA,schB,.sl 2 (encI .i64) 0 1 [0] 3],3,fun _=>True,fun _=>[.s (.p 3 0)],fun _=>[schA,schB,.sl 2 (encI .i64) 0 1 [0] 3,wlk 1 1 0 0,.sl 4 (encI .i64) 0 1 [0] 3]⟩:Sp Unit):=by
 refine cX 34 xaI Tryd.func29 fun g F => ?_
 refine xF (decide ((↑(1:Nat):Int)<(1:Int))) rfl ?_
 refine xF (decide ((↑(1:Nat):Int)>(8:Int))) rfl ?_
 refine xT (decide ((0:Int)<(↑(1:Nat):Int))) rfl ?_
 refine xF (decide ((↑(2:Nat):Int)<(1:Int))) rfl ?_
 refine xF (decide ((↑(2:Nat):Int)>(6:Int))) rfl ?_
 refine xT (decide ((0:Int)<(↑(2:Nat):Int))) rfl ?_
 refine xN fun b1 => ?_
 refine xF (decide ((0:Int)≥(↑(1:Nat):Int))) rfl ?_
 refine xT (decide (IntKind.i64.wrap ((0:Int)+(1:Int))<(↑(2:Nat):Int))) rfl ?_
 refine xN fun b2 => ?_
 refine xF (decide ((0:Int)≥(↑(1:Nat):Int))) rfl ?_
 refine xF (decide (IntKind.i64.wrap (IntKind.i64.wrap ((0:Int)+(1:Int))+(1:Int))<(↑(2:Nat):Int))) rfl ?_
 refine xF (decide (IntKind.i64.wrap ((0:Int)+(1:Int))<(↑(1:Nat):Int))) rfl ?_
 refine xF (decide ((0:Int)≥(↑(1:Nat):Int))) rfl ?_
 refine xN fun b3 => ?_
 refine xW0 _ (view_none 5 (b:=b3) .i64 3) ?_ sc_st
 refine xAp 5 (some {block:=b3,off:=0}) (0) (encI .i64) 0 1 ([]) 3 ([0]) (.i 28) (oneI _) 8 (.slice (g 2).a ([0]).length (g 2).c) (by first | (simp; done) | (simp; omega)) (fun F=>(src_sl (i:=2) (d:=0) (sz:=1) (t:=3) (by kernel_rfl))) (fun a5_ c5_ => ?_)
 refine xN fun b4 => ?_
 refine xF ((1:Int)==(0:Int)) rfl ?_
 refine xO ((1:Nat)≤(1:Nat)∧(0:Int)≤(0:Int)∧(0:Int)<(1:Int)) (by omega) ?_
 refine xO (0<1) (by omega) ?_
 refine xF (decide ((0:Int)<(0:Int))) rfl ?_
 refine xO ((1:Nat)≤(1:Nat)∧(0:Int)≤(0:Int)∧(0:Int)<(1:Int)) (by omega) ?_
 refine xO (0<1) (by omega) ?_
 refine xF (decide ((0:Int)≥(↑(1:Nat):Int))) rfl ?_
 refine xO ((1:Nat)≤(1:Nat)∧(0:Int)≤(0:Int)∧(0:Int)<(1:Int)) (by omega) ?_
 refine xO (0<1) (by omega) ?_
 refine xF (decide ((0:Int)≥(2:Int))) rfl ?_
 refine xO ((1:Nat)≤(1:Nat)∧(0:Int)≤(0:Int)∧(0:Int)<(1:Int)) (by omega) ?_
 refine xO (0<1) (by omega) ?_
 refine xO (InK IntKind.i64 1) (by simp only [InK] at *; omega) ?_
 exact xR () trivial
theorem t_startB: Ct Tryd.prog 29 (⟨[.s (.sp 0 1 1),.s (.l .i64 0),.s (.l .i64 1),.s (.s 2 2)],[schA,schB,.sl 2 (encI .i64) 0 1 [1,0] 3],3,fun _=>True,fun _=>[.s (.p 3 0)],fun _=>[schA,schB,.sl 2 (encI .i64) 0 1 [1,0] 3,wlk 2 2 0 0,.sl 4 (encI .i64) 0 1 [1,0] 3]⟩:Sp Unit):=by
 refine cX 34 xaI Tryd.func29 fun g F => ?_
 refine xF (decide ((↑(1:Nat):Int)<(1:Int))) rfl ?_
 refine xF (decide ((↑(1:Nat):Int)>(8:Int))) rfl ?_
 refine xT (decide ((0:Int)<(↑(1:Nat):Int))) rfl ?_
 refine xF (decide ((↑(2:Nat):Int)<(1:Int))) rfl ?_
 refine xF (decide ((↑(2:Nat):Int)>(6:Int))) rfl ?_
 refine xT (decide ((0:Int)<(↑(2:Nat):Int))) rfl ?_
 refine xN fun b1 => ?_
 refine xF (decide ((0:Int)≥(↑(1:Nat):Int))) rfl ?_
 refine xT (decide (IntKind.i64.wrap ((0:Int)+(1:Int))<(↑(2:Nat):Int))) rfl ?_
 refine xN fun b2 => ?_
 refine xF (decide ((0:Int)≥(↑(1:Nat):Int))) rfl ?_
 refine xF (decide (IntKind.i64.wrap (IntKind.i64.wrap ((0:Int)+(1:Int))+(1:Int))<(↑(2:Nat):Int))) rfl ?_
 refine xF (decide (IntKind.i64.wrap ((0:Int)+(1:Int))<(↑(1:Nat):Int))) rfl ?_
 refine xF (decide ((0:Int)≥(↑(1:Nat):Int))) rfl ?_
 refine xN fun b3 => ?_
 refine xW0 _ (view_none 5 (b:=b3) .i64 3) ?_ sc_st
 refine xAp 5 (some {block:=b3,off:=0}) (0) (encI .i64) 0 1 ([]) 3 ([1,0]) (.i 28) (oneI _) 8 (.slice (g 2).a ([1,0]).length (g 2).c) (by first | (simp; done) | (simp; omega)) (fun F=>(src_sl (i:=2) (d:=0) (sz:=1) (t:=3) (by kernel_rfl))) (fun a5_ c5_ => ?_)
 refine xN fun b4 => ?_
 refine xF ((2:Int)==(0:Int)) rfl ?_
 refine xO ((2:Nat)≤(2:Nat)∧(0:Int)≤(0:Int)∧(0:Int)<(2:Int)) (by omega) ?_
 refine xO (0<2) (by omega) ?_
 refine xF (decide ((1:Int)<(0:Int))) rfl ?_
 refine xO ((2:Nat)≤(2:Nat)∧(0:Int)≤(0:Int)∧(0:Int)<(2:Int)) (by omega) ?_
 refine xO (0<2) (by omega) ?_
 refine xF (decide ((0:Int)≥(↑(1:Nat):Int))) rfl ?_
 refine xO ((2:Nat)≤(2:Nat)∧(0:Int)≤(0:Int)∧(0:Int)<(2:Int)) (by omega) ?_
 refine xO (0<2) (by omega) ?_
 refine xF (decide ((1:Int)≥(2:Int))) rfl ?_
 refine xO ((2:Nat)≤(2:Nat)∧(0:Int)≤(0:Int)∧(0:Int)<(2:Int)) (by omega) ?_
 refine xO (0<2) (by omega) ?_
 refine xO (InK IntKind.i64 2) (by simp only [InK] at *; omega) ?_
 exact xR () trivial
theorem t_giveA(x:Int)(hxr:0≤x∧x≤18446744073709551615): Ct Tryd.prog 31 (⟨[.s (.p 3 0),.s (.i .u64 x)],[wlk 1 1 0 0,.sl 4 (encI .i64) 0 1 [0] 3,schA,schB],5,fun _=>True,fun _=>[],fun _=>[wlk 1 (-1) x 0,.sl 4 (encI .i64) 0 1 [0] 3,schA,schB]⟩:Sp Unit):=by
 refine cX 39 xaI Tryd.func31 fun g F => ?_
 refine xO ((1:Nat)≤[(0:Int)].length∧(0:Int)≤(0:Int)∧(0:Int)<(↑(1:Nat):Int)) (by first | (simp; done) | (simp; omega)) ?_
 refine xO (Int.toNat (0:Int) < [(0:Int)].length) (by first | (simp; done) | (simp; omega)) ?_
 refine xCutV 1 ((g 4).2) ((g 4).3) (encI IntKind.i64) (0) 1 ([0]) 3 .i64 (1) (.n) (show(0:Int)≤1∧1≤(([0]).length:Int) by first | omega | (simp; done) | (simp; omega)) ?_
 refine xO ((1:Nat)≤[(0:Int)].length∧(0:Int)≤(0:Int)∧(0:Int)<(↑(1:Nat):Int)) (by first | (simp; done) | (simp; omega)) ?_
 refine xO (Int.toNat (0:Int) < [(0:Int)].length) (by first | (simp; done) | (simp; omega)) ?_
 refine xN fun b1 => ?_
 refine xF (decide ((0:Int)≥(↑(1:Nat):Int))) rfl ?_
 refine xF (decide ((0:Int)<(0:Int))) rfl ?_
 refine xF (decide ((0:Int)≥(2:Int))) rfl ?_
 refine xO ((0:Int)≤(0:Int)∧(0:Int)<(2:Int)) (by omega) ?_
 refine xN fun b2 => ?_
 refine xF (decide ((0:Int)≥(↑(1:Nat):Int))) rfl ?_
 refine xF (decide ((0:Int)<(0:Int))) rfl ?_
 refine xF (decide ((0:Int)≥(2:Int))) rfl ?_
 refine xO ((0:Int)≤(0:Int)∧(0:Int)<(2:Int)) (by omega) ?_
 refine xO (InK IntKind.i64 (IntKind.u32.wrap x)) (ink32 _) ?_
 refine xO ((0:Int)≤(32:Int)) (by omega) ?_
 refine xO (InK IntKind.i64 (bShr IntKind.u64 x 32)) (inkShr hxr) ?_
 refine xO (InK IntKind.i64 (1+IntKind.u32.wrap x)) (ink32p _) ?_
 refine xT ((↑(List.drop (Int.toNat (1:Int)) [(0:Int)]).length:Int)==(0:Int)) rfl ?_
 exact xR () trivial
theorem t_giveB: Ct Tryd.prog 31 (⟨[.s (.p 3 0),.s (.l .u64 0)],[wlk 2 2 0 0,.sl 4 (encI .i64) 0 1 [1,0] 3,schA,schB],5,fun _=>True,fun _=>[],fun _=>[wlk 2 (-1) 0 12,.sl 4 (encI .i64) 0 1 [1,0] 3,schA,schB]⟩:Sp Unit):=by
 refine cX 39 xaI Tryd.func31 fun g F => ?_
 refine xO ((2:Nat)≤[(1:Int),(0:Int)].length∧(0:Int)≤(0:Int)∧(0:Int)<(↑(2:Nat):Int)) (by first | (simp; done) | (simp; omega)) ?_
 refine xO (Int.toNat (0:Int) < [(1:Int),(0:Int)].length) (by first | (simp; done) | (simp; omega)) ?_
 refine xCutV 1 ((g 4).2) ((g 4).3) (encI IntKind.i64) (0) 1 ([1,0]) 3 .i64 (1) (.n) (show(0:Int)≤1∧1≤(([1,0]).length:Int) by first | omega | (simp; done) | (simp; omega)) ?_
 refine xO ((2:Nat)≤[(1:Int),(0:Int)].length∧(0:Int)≤(0:Int)∧(0:Int)<(↑(2:Nat):Int)) (by first | (simp; done) | (simp; omega)) ?_
 refine xO (Int.toNat (0:Int) < [(1:Int),(0:Int)].length) (by first | (simp; done) | (simp; omega)) ?_
 refine xN fun b1 => ?_
 refine xF (decide ((0:Int)≥(↑(1:Nat):Int))) rfl ?_
 refine xF (decide ((1:Int)<(0:Int))) rfl ?_
 refine xF (decide ((1:Int)≥(2:Int))) rfl ?_
 refine xO ((0:Int)≤(1:Int)∧(1:Int)<(2:Int)) (by omega) ?_
 refine xN fun b2 => ?_
 refine xF (decide ((0:Int)≥(↑(1:Nat):Int))) rfl ?_
 refine xF (decide ((1:Int)<(0:Int))) rfl ?_
 refine xF (decide ((1:Int)≥(2:Int))) rfl ?_
 refine xO ((0:Int)≤(1:Int)∧(1:Int)<(2:Int)) (by omega) ?_
 refine xF ((↑(List.drop (Int.toNat (1:Int)) [(1:Int),(0:Int)]).length:Int)==(0:Int)) rfl ?_
 exact xR () trivial
end Go.Proofs.YthijdhenekmojaaDoor
/- The model: a field of a handle. -/
set_option linter.unusedSimpArgs false
set_option maxRecDepth 100000
set_option maxHeartbeats 0
namespace Go.Proofs.YthijdhenekmojaaDoor
open Go.Sx
abbrev mdl3(c:Cfg)(mt mh:Nat): SE:=.pts 0 (cfgS c++[.sp 4 1 1,.mb 1 mt,.mb 2 mh]) 53
abbrev schC: SE:=.pts 4 [.sp 5 2 2] 57
abbrev schD: SE:=.pts 5 [.l .i64 1,.l .i64 0,.l .i64 3,.l .i64 0] 56
def rowM(a:Option Addr)(c:Nat)(x:Int)(r:Sx.Rest): PRow:=⟨a,c,[3,x,0],r⟩
def xf: Cx:=⟨[21,30,32],[],[],[17,21,30,32]⟩
theorem xfI: Inl Tryd.prog xf:=inl_ok ⟨Tryd.call21,Tryd.call30,Tryd.call32,trivial⟩ trivial
abbrev ghF(c:Cfg)(mt mh:Nat): Gh:=⟨[(0,(cfgS c++[SV.sp 4 1 1,SV.mb 1 mt,SV.mb 2 mh]).map (SV.g id)),(3,[]),(4,[SV.sp 5 2 2].map (SV.g id)),(5,[SV.l .i64 1,.l .i64 0,.l .i64 3,.l .i64 0].map (SV.g id)),(2,[]),(6,[])],7⟩
abbrev fldS(c:Cfg)(H:HanM)(ps:List PRow)(mt mh:Nat)(cl ke:Int)(la:Bool)(wo rw rk:Value)(ha co n cm fr to_:Int)(pth:List Int)(m:Nat)(v:Bool): Sp Bool:=
 ⟨[.s (.p 0 0),.g (dS cl 6 ke la (.o wo) ha (.s 3 m) co (.o rw) (.o rk) n cm fr to_)],[mdl3 c mt mh,hpR mh H ps,.sl 3 (encI .i64) 0 1 pth 3,schC,schD],6,
   fun b=>b=v,fun b=>[.s (.bo b)],fun _=>[mdl3 c mt mh,hpR mh H ps,.sl 3 (encI .i64) 0 1 pth 3,schC,schD]⟩
theorem t_fieldA(c:Cfg)(H:HanM)(ps:List PRow)(mt mh:Nat)(cl ke:Int)(la:Bool)(wo rw rk:Value)(ha co n cm fr to_:Int)(pa:Option Addr)(pc:Nat)(pr:Sx.Rest)(x:Int)(hxr:0≤x∧x≤18446744073709551615)(hk:kget H (cl,ha)=some (rowM pa pc x pr))(hp:rowM pa pc x pr∈ps):
  Ct Tryd.prog 17 (fldS c H ps mt mh cl ke la wo rw rk ha co n cm fr to_ [0] 1 (decide (co=0)&&decide (n=x))):=by
 refine cXv 85 xfI Tryd.func17 _ (ghF c mt mh) (fun g=>hp_at (te:=22) (mh:=mh) (H:=H) (ps:=ps) 1) fun g F => ?_
 refine xN fun b1 => ?_
 refine xMpE 4 5 (mh) (H) (PRow.v) 22 kH (cl,ha) PRow.nil false id ps (fun x=>.i x) (rowM pa pc x pr) true (by rw [hk]; rfl) (by rw [hk]; rfl) (.inr hp) ?_
 refine xF ((3:Int)==(0:Int)) rfl ?_
 refine xO ((3:Nat)≤(3:Nat)∧(0:Int)≤(0:Int)∧(0:Int)<(3:Int)) (by omega) ?_
 refine xO (0<3) (by omega) ?_
 refine xO ((0:Int)≤(32:Int)) (by omega) ?_
 refine xO (InK IntKind.i64 0) (by simp only [InK] at *; omega) ?_
 refine xC Tryd.call29 (t_startA) fun _ n2 _ => ?_
 refine xF (decide ((1:Int)≥(3:Int))) rfl ?_
 refine xO ((3:Nat)≤(3:Nat)∧(0:Int)≤(1:Int)∧(1:Int)<(3:Int)) (by omega) ?_
 refine xO (1<3) (by omega) ?_
 refine xC Tryd.call31 (t_giveA ((id (rowM pa pc x pr)).xs.getD (Int.toNat 1) 0) (by assumption)) fun _ n5 _ => ?_
 refine xT ((0:Int)==(0:Int)) rfl ?_
 refine xC Tryd.call33 (t_top0) fun _ n6 _ => ?_
 refine xB (co==0) (fun h7 => ?_) (fun h7 => ?_)
 ·skip
  replace h7:=decT h7
  refine xEnd [1,3,4] [.res (KMap mh ekP PRow.v (H)),.res (PoolX 22 (ps) (id (rowM pa pc x pr))),PRow.ent 22 (id (rowM pa pc x pr))] 2 (HP 22 mh (H) (ps)) pv_end0 ?_
  exact xR (n==(id (rowM pa pc x pr)).xs.getD (Int.toNat 1) 0) (by rw [decide_eq_true h7]; show(n==x)=(true&&decide (n=x)); rw [Bool.true_and]; rfl)
 ·skip
  replace h7:=decF h7
  refine xEnd [1,3,4] [.res (KMap mh ekP PRow.v (H)),.res (PoolX 22 (ps) (id (rowM pa pc x pr))),PRow.ent 22 (id (rowM pa pc x pr))] 2 (HP 22 mh (H) (ps)) pv_end0 ?_
  exact xR (false) (by simp; omega)
theorem t_fieldB(c:Cfg)(H:HanM)(ps:List PRow)(mt mh:Nat)(cl ke:Int)(la:Bool)(wo rw rk:Value)(ha co n cm fr to_:Int)(pa:Option Addr)(pc:Nat)(pr:Sx.Rest)(x:Int)(hk:kget H (cl,ha)=some (rowM pa pc x pr))(hp:rowM pa pc x pr∈ps)(F:Fr)(hF:HF F):
  CtF Tryd.prog F 17 (fldS c H ps mt mh cl ke la wo rw rk ha co n cm fr to_ [1,0] 2 (decide (co=12)&&decide (n=0))):=by
 refine cFv 85 xfI Tryd.func17 _ (ghF c mt mh) (fun g=>hp_at (te:=22) (mh:=mh) (H:=H) (ps:=ps) 1) fun g => ?_
 refine xN fun b1 => ?_
 refine xMpE 4 5 (mh) (H) (PRow.v) 22 kH (cl,ha) PRow.nil false id ps (fun x=>.i x) (rowM pa pc x pr) true (by rw [hk]; rfl) (by rw [hk]; rfl) (.inr hp) ?_
 refine xF ((3:Int)==(0:Int)) rfl ?_
 refine xO ((3:Nat)≤(3:Nat)∧(0:Int)≤(0:Int)∧(0:Int)<(3:Int)) (by omega) ?_
 refine xO (0<3) (by omega) ?_
 refine xO ((0:Int)≤(32:Int)) (by omega) ?_
 refine xO (InK IntKind.i64 0) (by simp only [InK] at *; omega) ?_
 refine xC Tryd.call29 (t_startB) fun _ n1 _ => ?_
 refine xF (decide ((2:Int)≥(3:Int))) rfl ?_
 refine xO ((3:Nat)≤(3:Nat)∧(0:Int)≤(2:Int)∧(2:Int)<(3:Int)) (by omega) ?_
 refine xO (2<3) (by omega) ?_
 refine xC Tryd.call31 (t_giveB) fun _ n3 _ => ?_
 refine xF ((12:Int)==(0:Int)) rfl ?_
 refine xCt id Tryd.call33 (fun F' h=>t_topE 12 F' (hF.mono h)) fun _ n5 _ => ?_
 refine xB (co==12) (fun h1 => ?_) (fun h1 => ?_)
 ·replace h1:=decT h1
  refine xEnd [1,3,4] [.res (KMap mh ekP PRow.v (H)),.res (PoolX 22 (ps) (id (rowM pa pc x pr))),PRow.ent 22 (id (rowM pa pc x pr))] 2 (HP 22 mh (H) (ps)) pv_end0 ?_
  exact xR (n==0) (by rw [decide_eq_true h1]; show(n==0)=(true&&decide (n=0)); rw [Bool.true_and]; rfl)
 ·replace h1:=decF h1
  refine xEnd [1,3,4] [.res (KMap mh ekP PRow.v (H)),.res (PoolX 22 (ps) (id (rowM pa pc x pr))),PRow.ent 22 (id (rowM pa pc x pr))] 2 (HP 22 mh (H) (ps)) pv_end0 ?_
  exact xR (false) (by simp; omega)
theorem t_field0(c:Cfg)(H:HanM)(ps:List PRow)(mt mh:Nat)(cl ke:Int)(la:Bool)(wo rw rk pa:Value)(ha co n cm fr to_:Int)(sv:Value)(hk:kget H (cl,ha)=none):
  Ct Tryd.prog 17 (⟨[.s (.p 0 0),.g (dS cl 6 ke la (.o wo) ha (.o pa) co (.o rw) (.o rk) n cm fr to_)],[mdl2 c (.o sv) mt mh,hpR mh H ps],3,fun b=>b=true,fun b=>[.s (.bo b)],fun _=>[mdl2 c (.o sv) mt mh,hpR mh H ps]⟩:Sp Bool):=by
 refine cXv 85 xfI Tryd.func17 _ ⟨[(0,(cfgS c++[SV.o sv,SV.mb 1 mt,SV.mb 2 mh]).map (SV.g id)),(2,[]),(6,[])],7⟩ (fun g=>hp_at (te:=22) (mh:=mh) (H:=H) (ps:=ps) 1) fun g F => ?_
 refine xN fun b1 => ?_
 refine xMpE 1 2 (mh) (H) (PRow.v) 22 kH (cl,ha) PRow.nil false id ps (fun x=>.i x) PRow.nil false (by rw [hk]; rfl) (by rw [hk]; rfl) (.inl rfl) ?_
 refine xT ((↑PRow.nil.xs.length:Int)==(0:Int)) rfl ?_
 refine xEnd [1,3,4] [.res (KMap mh ekP PRow.v (H)),.res (PoolX 22 (ps) (id PRow.nil)),PRow.ent 22 (id PRow.nil)] 2 (HP 22 mh (H) (ps)) pv_end0 ?_
 exact xR (true) (by simp [InK]; done)
end Go.Proofs.YthijdhenekmojaaDoor
/- The model: a field is asked for. -/
set_option linter.unusedSimpArgs false
set_option maxRecDepth 100000
set_option maxHeartbeats 0
namespace Go.Proofs.YthijdhenekmojaaDoor
open Go.Sx
abbrev dfS(c:Cfg)(T:TopM)(H:HanM)(ps:List PRow)(mt mh:Nat)(cl ke:Int)(la:Bool)(wo rw rk:Value)(ha co n cm fr to_:Int)(pth:List Int)(m:Nat)(v:Bool): Sp Bool:=
 ⟨[.s (.p 0 0),.g (dS cl 6 ke la (.o wo) ha (.s 3 m) co (.o rw) (.o rk) n cm fr to_)],[mdl3 c mt mh,topR mt T,hpR mh H ps,.sl 3 (encI .i64) 0 1 pth 3,schC,schD],6,
   fun b=>b=(decide (co=1)||v),fun b=>[.s (.bo b)],fun _=>[mdl3 c mt mh,topR mt T,hpR mh H ps,.sl 3 (encI .i64) 0 1 pth 3,schC,schD]⟩
theorem orF{co:Int}(h:¬co=1)(v:Bool): v=(decide (co=1)||v):=by rw [decide_eq_false h,Bool.false_or]
theorem t_doFieldA(c:Cfg)(T:TopM)(H:HanM)(ps:List PRow)(mt mh:Nat)(cl ke:Int)(la:Bool)(wo rw rk:Value)(ha co n cm fr to_:Int)(pa:Option Addr)(pc:Nat)(pr:Sx.Rest)(x:Int)(hxr:0≤x∧x≤18446744073709551615)(hk:kget H (cl,ha)=some (rowM pa pc x pr))(hp:rowM pa pc x pr∈ps):
  Ct Tryd.prog 8 (dfS c T H ps mt mh cl ke la wo rw rk ha co n cm fr to_ [0] 1 (decide (co=0)&&decide (n=x))):=by
 refine cX 148 x0I Tryd.func8 fun g F => ?_
 refine xN fun b1 => ?_
 refine xA ?_ ?_
 ·skip
  refine xMg 1 (mt) (T) (evT) kI (ke) (false,PRow.nil) true ?_
  refine xN fun b2 => ?_
  refine xB (co==1) (fun h3 => ?_) (fun h3 => ?_)
  ·skip
   replace h3:=decT h3
   exact xR (true) (by simp; omega)
  ·skip
   replace h3:=decF h3
   refine xC Tryd.call17 (t_fieldA c H ps mt mh cl ke la wo rw rk ha co n cm fr to_ pa pc pr x hxr hk hp) fun v n7 hv => ?_
   subst hv
   exact xR (decide (co=0)&&decide (n=x)) (orF h3 _)
 ·skip
  refine xN fun b4 => ?_
  refine xMg 1 (mt) (T) (evT) kI (ke) (false,PRow.nil) true ?_
  refine xB (co==1) (fun h5 => ?_) (fun h5 => ?_)
  ·skip
   replace h5:=decT h5
   exact xR (true) (by simp; omega)
  ·skip
   replace h5:=decF h5
   refine xC Tryd.call17 (t_fieldA c H ps mt mh cl ke la wo rw rk ha co n cm fr to_ pa pc pr x hxr hk hp) fun v n7 hv => ?_
   subst hv
   exact xR (decide (co=0)&&decide (n=x)) (orF h5 _)
theorem t_doFieldB(c:Cfg)(T:TopM)(H:HanM)(ps:List PRow)(mt mh:Nat)(cl ke:Int)(la:Bool)(wo rw rk:Value)(ha co n cm fr to_:Int)(pa:Option Addr)(pc:Nat)(pr:Sx.Rest)(x:Int)(hk:kget H (cl,ha)=some (rowM pa pc x pr))(hp:rowM pa pc x pr∈ps)(F:Fr)(hF:HF F):
  CtF Tryd.prog F 8 (dfS c T H ps mt mh cl ke la wo rw rk ha co n cm fr to_ [1,0] 2 (decide (co=12)&&decide (n=0))):=by
 refine cF 148 x0I Tryd.func8 fun g => ?_
 refine xN fun b1 => ?_
 refine xA ?_ ?_
 ·skip
  refine xMg 1 (mt) (T) (evT) kI (ke) (false,PRow.nil) true ?_
  refine xN fun b2 => ?_
  refine xB (co==1) (fun h3 => ?_) (fun h3 => ?_)
  ·skip
   replace h3:=decT h3
   exact xR (true) (by simp; omega)
  ·skip
   replace h3:=decF h3
   refine xCt id Tryd.call17 (fun F' h=>t_fieldB c H ps mt mh cl ke la wo rw rk ha co n cm fr to_ pa pc pr x hk hp F' (hF.mono h)) fun v n7 hv => ?_
   subst hv
   exact xR (decide (co=12)&&decide (n=0)) (orF h3 _)
 ·skip
  refine xN fun b4 => ?_
  refine xMg 1 (mt) (T) (evT) kI (ke) (false,PRow.nil) true ?_
  refine xB (co==1) (fun h5 => ?_) (fun h5 => ?_)
  ·skip
   replace h5:=decT h5
   exact xR (true) (by simp; omega)
  ·skip
   replace h5:=decF h5
   refine xCt id Tryd.call17 (fun F' h=>t_fieldB c H ps mt mh cl ke la wo rw rk ha co n cm fr to_ pa pc pr x hk hp F' (hF.mono h)) fun v n7 hv => ?_
   subst hv
   exact xR (decide (co=12)&&decide (n=0)) (orF h5 _)
theorem t_doField0(c:Cfg)(T:TopM)(H:HanM)(ps:List PRow)(mt mh:Nat)(cl ke:Int)(la:Bool)(wo rw rk pa:Value)(ha co n cm fr to_:Int)(sv:Value)(hk:kget H (cl,ha)=none):
  Ct Tryd.prog 8 (⟨[.s (.p 0 0),.g (dS cl 6 ke la (.o wo) ha (.o pa) co (.o rw) (.o rk) n cm fr to_)],[mdl2 c (.o sv) mt mh,topR mt T,hpR mh H ps],3,fun b=>b=true,fun b=>[.s (.bo b)],fun _=>[mdl2 c (.o sv) mt mh,topR mt T,hpR mh H ps]⟩:Sp Bool):=by
 refine cX 148 x0I Tryd.func8 fun g F => ?_
 refine xN fun b1 => ?_
 refine xA ?_ ?_
 ·skip
  refine xMg 1 (mt) (T) (evT) kI (ke) (false,PRow.nil) true ?_
  refine xN fun b2 => ?_
  refine xB (co==1) (fun h3 => ?_) (fun h3 => ?_)
  ·skip
   replace h3:=decT h3
   exact xR (true) rfl
  ·skip
   replace h3:=decF h3
   refine xC Tryd.call17 (t_field0 c H ps mt mh cl ke la wo rw rk pa ha co n cm fr to_ sv hk) fun v n7 hv => ?_
   subst hv
   exact xR true rfl
 ·skip
  refine xN fun b4 => ?_
  refine xMg 1 (mt) (T) (evT) kI (ke) (false,PRow.nil) true ?_
  refine xB (co==1) (fun h5 => ?_) (fun h5 => ?_)
  ·skip
   replace h5:=decT h5
   exact xR (true) rfl
  ·skip
   replace h5:=decF h5
   refine xC Tryd.call17 (t_field0 c H ps mt mh cl ke la wo rw rk pa ha co n cm fr to_ sv hk) fun v n7 hv => ?_
   subst hv
   exact xR true rfl
end Go.Proofs.YthijdhenekmojaaDoor
/- ModelHandles: the law's walk. -/
set_option linter.unusedSimpArgs false
set_option maxRecDepth 100000
set_option maxHeartbeats 0
namespace Go.Proofs.YthijdhenekmojaaDoor
open Go.Sx
def xr: Cx:=⟨[7],[],[],[]⟩
theorem xrI: Inl Tryd.prog xr:=inl_ok ⟨Tryd.call7,trivial⟩ trivial
abbrev gMd: List Tg:=[.n,.n,.n,.n,.n,.n,.n,.n,.n,.i 82,.i 84,.i 85]
abbrev gDn(p:Tg): List Tg:=[.n,.c,.c,.c,.c,.c,p,.c,.c,.c,.n,.c,.c,.c]
abbrev gA(n:Nat): Gh:=⟨[(82,[.i 81]),(81,[.c,.c,.c,.c]),(169,[]),(253,[]),(83,gMd),(84,[]),(85,[]),(336,[]),(338,gDn (.i 336))],n⟩
abbrev gR(n:Nat): Gh:=⟨[(169,[]),(253,[]),(83,gMd),(84,[]),(85,[]),(336,[]),(82,[.i 81]),(81,[.c,.c,.c,.c]),(338,gDn (.i 336))],n⟩
abbrev gT(n:Nat): Gh:=⟨[(169,[]),(253,[]),(85,[]),(336,[]),(82,[.i 81]),(81,[.c,.c,.c,.c]),(83,gMd),(84,[]),(338,gDn (.i 336))],n⟩
abbrev gS(n:Nat): Gh:=⟨[(169,[]),(253,[]),(338,gDn (.i 336)),(83,gMd),(84,[]),(85,[]),(336,[]),(82,[.i 81]),(81,[.c,.c,.c,.c])],n⟩
abbrev dE(b:Nat)(cl ha:Int)(pa:Value)(co n:Int): Ent:=.pts b [.int .i64 cl,.int .i64 6,.int .i64 0,.bool false,.slice none 0 0,.int .i64 ha,pa,.int .i64 co,.slice none 0 0,.slice none 0 0,.int .u64 n,.int .i64 0,.int .i64 0,.int .i64 0] 44
abbrev gP(n:Nat): Gh:=⟨[(82,[.i 81]),(81,[.c,.c,.c,.c]),(169,[]),(253,[]),(83,gMd),(84,[]),(85,[])],n⟩
abbrev gV(n:Nat): Gh:=⟨[(169,[]),(253,[]),(338,gDn (.i 336)),(85,[]),(336,[]),(82,[.i 81]),(81,[.c,.c,.c,.c]),(83,gMd),(84,[])],n⟩
abbrev gF(n:Nat): Gh:=⟨[(169,[]),(253,[]),(336,[]),(82,[.i 81]),(81,[.c,.c,.c,.c]),(338,gDn (.i 336)),(83,gMd),(84,[]),(85,[])],n⟩
theorem row_of{q:PRow}{x:Int}(h:q.xs=[3,x,0]): q=rowM q.a q.c x q.r:=by
 cases q with
 | mk a c xs r=>
  have h:xs=[3,x,0]:=h
  subst h
  rfl
theorem t_handles(x y who:Int)(hx:0≤x∧x≤18446744073709551615)(hy:0≤y∧y≤18446744073709551615)(hw:InK .i64 who)(F:Fr)(hF:HF F):
  CtF Tryd.prog F 3 (sB [.s (.i .u64 x),.s (.i .u64 y),.s (.i .i64 who)] [] 0 true []):=by
 refine cF 137 xrI Tryd.func3 fun g => ?_
 refine xC Tryd.call4 (t_awake) fun xn1 n1 hxn1 => ?_
 subst hxn1
 refine xC Tryd.call6 (t_config (3)) fun xn3 n3 hxn3 => ?_
 refine xN fun b4 => ?_
 refine xN fun b5 => ?_
 refine xC Tryd.call5 (t_new (cf xn3) (cf_ok (by assumption))) fun xn9 n9 hxn9 => ?_
 refine xO ((3:Int)≠(0:Int)) (by omega) ?_
 refine xO (InK IntKind.i64 (who.tmod (3:Int)+(3:Int))) (tmR who) ?_
 refine xO ((3:Int)≠(0:Int)) (by omega) ?_
 refine xC Tryd.call8 (t_create2 (cf xn3) (cf_ok hxn3) [] xn9.mt xn9.mh (.slice (some ⟨b5,0,none⟩) 1 1) 0 1 true (.slice none 0 0) (.slice none 0 0) (.slice none 0 0) (.slice none 0 0) 0 0 0 0 0 0) fun x1 m1 h1 => ?_
 have h1:x1=createM (cf xn3) [] 1 true 0:=h1
 rw [rs_create hxn3] at h1
 subst h1
 refine xN fun b6 => ?_
 refine xW0 _ (view_lit 5 (b:=b6) .u64 [3,x,0] 22 (by simp [maxLen])) ?_ sc_st
 refine xC Tryd.call8 (t_doPub (cf xn3) (cf_ok hxn3) [(1,true,.nil)] [] [] xn9.mt xn9.mh (.slice (some ⟨b5,0,none⟩) 1 1) 0 1 false [3,x,0] _ rfl (by simp) (.slice none 0 0) (.slice none 0 0) (.slice none 0 0) 0 0 0 0 0 0) fun x2 m2 h2 => ?_
 have h2':doPubR (cf xn3) [(1,true,.nil)] [] 1 [3,x,0] 0 x2:=h2
 refine(rs_pub (by simp) (by simp) h2').elim fun q hqe => ?_
 have hq:=hqe.1
 have e2:=hqe.2
 clear hqe h2 h2'
 subst e2
 refine xC Tryd.call8 (t_doPin (cf xn3) (cf_ok hxn3) [(1,true,q)] [] [q] xn9.mt xn9.mh (.slice (some ⟨b5,0,none⟩) 1 1) (kOf who) 1 false (.slice none 0 0) (.slice none 0 0) (.slice none 0 0) (.slice none 0 0) 0 0 0 0 0 0 (by omega)) fun x3 m3 h3 => ?_
 have h3':doPinR [(1,true,q)] [] 1 (kOf who) 0 0 x3:=h3
 have e3:=rs_pin (by rw [hq]; simp) h3'
 clear h3 h3'
 subst e3
 refine xN fun b7 => ?_
 refine xW0 _ (view_lit 6 (b:=b7) .u64 [3,y,0] 22 (by simp [maxLen])) ?_ sc_st
 refine xC Tryd.call8 (t_doPub (cf xn3) (cf_ok hxn3) [(1,true,q)] (kset [] (kOf who,0) q) [q] xn9.mt xn9.mh (.slice (some ⟨b5,0,none⟩) 1 1) 0 1 false [3,y,0] _ rfl (by simp) (.slice none 0 0) (.slice none 0 0) (.slice none 0 0) 0 0 0 0 0 0) fun x4 m4 h4 => ?_
 have h4':doPubR (cf xn3) [(1,true,q)] [q] 1 [3,y,0] 0 x4:=h4
 refine(rs_pub (by simp) (by simp) h4').elim fun q2 hqe => ?_
 have hq2:=hqe.1
 have e4:=hqe.2
 clear hqe h4 h4'
 subst e4
 refine xCt (fun _=>gP 335) Tryd.call8 (fun F' _=>(t_doPin (cf xn3) (cf_ok hxn3) [(1,true,q2)] (kset [] (kOf who,0) q) ([q]++[q2]) xn9.mt xn9.mh (.slice (some ⟨b5,0,none⟩) 1 1) (kOf who) 1 false (.slice none 0 0) (.slice none 0 0) (.slice none 0 0) (.slice none 0 0) 0 0 1 0 0 0 (by omega)).fr) fun x5 m5 h5 => ?_
 have h5':doPinR [(1,true,q2)] (kset [] (kOf who,0) q) 1 (kOf who) 0 1 x5:=h5
 have e5:=rs_pin (by rw [hq2]; simp) h5'
 clear h5 h5'
 subst e5
 refine xN fun b8 => ?_
 refine xN fun b9 => ?_
 have hr:rowM q.a q.c x q.r=q:=(row_of hq).symm
 have hr2:rowM q2.a q2.c y q2.r=q2:=(row_of hq2).symm
 refine xW0 _ (view_lit 7 (b:=b8) .i64 [0] 3 (by simp [maxLen])) ?_ sc_st
 refine xRe 8 (dE b9 (kOf who) 0 (.slice (some ⟨b8,0,none⟩) 1 1) 0 x) (gA 900) ?_ sc_st
 refine xCy [⟨(n9 2).b,none,0⟩,⟨0,none,0⟩,⟨0,none,0⟩,⟨0,some ⟨b8,0,none⟩,1⟩,⟨b5,none,0⟩,⟨b4,none,0⟩] [4,5,6,7,0,1] .n (gS 960) Tryd.call8 (fun F' _=>(t_doFieldA (cf xn3) [(1,true,q2)] (kset (kset [] (kOf who,0) q) (kOf who,1) q2) ([q]++[q2]) xn9.mt xn9.mh (kOf who) 0 false (.slice none 0 0) (.slice none 0 0) (.slice none 0 0) 0 0 x 0 0 0 q.a q.c q.r x hx (by rw [hr]; exact kh1) (by rw [hr]; simp)).fr) fun one m6 h6 => ?_
 have h6':one=true:=by
  have h:one=(decide ((0:Int)=1)||(decide ((0:Int)=0)&&decide (x=x))):=h6
  simpa using h
 subst h6'
 refine xRe 2 (dE b9 (kOf who) 1 (.slice (some ⟨b8,0,none⟩) 1 1) 0 x) (gR 1000) ?_ sc_st
 refine xCy [⟨(n9 2).b,none,0⟩,⟨0,none,0⟩,⟨0,none,0⟩,⟨0,some ⟨b8,0,none⟩,1⟩,⟨b5,none,0⟩,⟨b4,none,0⟩] [2,3,4,5,6,7] .n (gS 1040) Tryd.call8 (fun F' _=>(t_doFieldA (cf xn3) [(1,true,q2)] (kset (kset [] (kOf who,0) q) (kOf who,1) q2) ([q]++[q2]) xn9.mt xn9.mh (kOf who) 0 false (.slice none 0 0) (.slice none 0 0) (.slice none 0 0) 1 0 x 0 0 0 q2.a q2.c q2.r y hy (by rw [hr2]; exact kh2) (by rw [hr2]; simp)).fr) fun two m7 h7 => ?_
 have h7':two=decide (x=y):=by
  have h:two=(decide ((0:Int)=1)||(decide ((0:Int)=0)&&decide (x=y))):=h7
  simpa using h
 subst h7'
 refine xCy [⟨(n9 2).b,none,0⟩,⟨0,none,0⟩] [3,4] .n (gV 1050) Tryd.call8 (fun F' _=>(t_remove (cf xn3) (cf_ok hxn3) [(1,true,q2)] xn9.mt (.slice (some ⟨b5,0,none⟩) 1 1) (.map (some xn9.mh)) 0 1 false (.slice none 0 0) (.slice none 0 0) (.slice none 0 0) (.slice none 0 0) 0 0 0 0 0 0).fr) fun x8 m8 h8 => ?_
 have h8':x8=removeM [(1,true,q2)] 1 0:=h8
 rw [rs_remove] at h8'
 subst h8'
 refine xRe 2 (dE b9 (kOf who) 0 (.slice (some ⟨b8,0,none⟩) 1 1) 0 x) (gT 1100) ?_ sc_st
 refine xCy [⟨(n9 2).b,none,0⟩,⟨0,none,0⟩,⟨0,none,0⟩,⟨0,some ⟨b8,0,none⟩,1⟩,⟨b5,none,0⟩,⟨b4,none,0⟩] [6,7,2,3,4,5] .n (gS 1160) Tryd.call8 (fun F' _=>(t_doFieldA (cf xn3) [] (kset (kset [] (kOf who,0) q) (kOf who,1) q2) ([q]++[q2]) xn9.mt xn9.mh (kOf who) 0 false (.slice none 0 0) (.slice none 0 0) (.slice none 0 0) 0 0 x 0 0 0 q.a q.c q.r x hx (by rw [hr]; exact kh1) (by rw [hr]; simp)).fr) fun three m9 h9 => ?_
 have h9':three=true:=by
  have h:three=(decide ((0:Int)=1)||(decide ((0:Int)=0)&&decide (x=x))):=h9
  simpa using h
 subst h9'
 refine xRe 2 (dE b9 (kOf who) 0 (.slice (some ⟨b8,0,none⟩) 1 1) 0 (IntKind.u64.wrap (x+1))) (gR 1200) ?_ sc_st
 refine xCy [⟨(n9 2).b,none,0⟩,⟨0,none,0⟩,⟨0,none,0⟩,⟨0,some ⟨b8,0,none⟩,1⟩,⟨b5,none,0⟩,⟨b4,none,0⟩] [2,3,4,5,6,7] .n (gS 1260) Tryd.call8 (fun F' _=>(t_doFieldA (cf xn3) [] (kset (kset [] (kOf who,0) q) (kOf who,1) q2) ([q]++[q2]) xn9.mt xn9.mh (kOf who) 0 false (.slice none 0 0) (.slice none 0 0) (.slice none 0 0) 0 0 (IntKind.u64.wrap (x+1)) 0 0 0 q.a q.c q.r x hx (by rw [hr]; exact kh1) (by rw [hr]; simp)).fr) fun four m10 h10 => ?_
 have h10':four=false:=by
  have h:four=(decide ((0:Int)=1)||(decide ((0:Int)=0)&&decide ((IntKind.u64.wrap (x+1))=x))):=h10
  have hne:(IntKind.u64.wrap (x+1))≠x:=by rw [wrapU64]; omega
  simpa [hne] using h
 subst h10'
 refine xO (InK .i64 (kOf who+1)) (by have:=kOf_rng who; simp only [InK]; omega) ?_
 refine xO ((3:Int)≠(0:Int)) (by omega) ?_
 refine xRe 2 (dE b9 ((kOf who+1).tmod 3) 0 (.slice (some ⟨b8,0,none⟩) 1 1) 0 (IntKind.u64.wrap (x+1))) (gR 1300) ?_ sc_st
 refine xCy [⟨(n9 2).b,none,0⟩,⟨0,none,0⟩,⟨0,none,0⟩] [2,3,4] .n (gF 1341) Tryd.call8 (fun F' _=>(t_doField0 (cf xn3) [] (kset (kset [] (kOf who,0) q) (kOf who,1) q2) ([q]++[q2]) xn9.mt xn9.mh ((kOf who+1).tmod 3) 0 false (.slice none 0 0) (.slice none 0 0) (.slice none 0 0) (.slice (some ⟨b8,0,none⟩) 1 1) 0 0 (IntKind.u64.wrap (x+1)) 0 0 0 (.slice (some ⟨b5,0,none⟩) 1 1) (kh3 (kOf_next who))).fr) fun five m11 h11 => ?_
 have h11':five=true:=h11
 subst h11'
 refine xN fun b10 => ?_
 refine xW0 _ (view_lit 9 (b:=b10) .i64 [1,0] 3 (by simp [maxLen])) ?_ sc_st
 refine xRe 5 (dE b9 (kOf who) 0 (.slice (some ⟨b10,0,none⟩) 2 2) 12 0) ⟨[(169,[]),(253,[]),(336,[]),(82,[.i 81]),(81,[.c,.c,.c,.c]),(83,gMd),(84,[]),(85,[]),(1342,[]),(338,gDn (.i 1342))],1400⟩ ?_ sc_st
 refine xCy [⟨(n9 2).b,none,0⟩,⟨0,none,0⟩,⟨0,none,0⟩,⟨0,some ⟨b10,0,none⟩,2⟩,⟨b5,none,0⟩,⟨b4,none,0⟩] [5,6,7,8,3,4] .n ⟨[],1500⟩ Tryd.call8 (fun F' hF'=>t_doFieldB (cf xn3) [] (kset (kset [] (kOf who,0) q) (kOf who,1) q2) ([q]++[q2]) xn9.mt xn9.mh (kOf who) 0 false (.slice none 0 0) (.slice none 0 0) (.slice none 0 0) 0 12 0 0 0 0 q.a q.c q.r x (by rw [hr]; exact kh1) (by rw [hr]; simp) F' (hF.mono hF')) fun six m12 h12 => ?_
 have h12':six=true:=by
  have h:six=(decide ((12:Int)=1)||(decide ((12:Int)=12)&&decide ((0:Int)=0))):=h12
  simpa using h
 subst h12'
 refine xT true rfl ?_
 refine xT true rfl ?_
 refine xT true rfl ?_
 refine xT true rfl ?_
 refine xT (decide (x=y)==(x==y)) (by cases h:(x==y) with | true=>rw [decide_eq_true (by simpa using h)]; rfl | false=>rw [decide_eq_false (by simpa using h)]; rfl) ?_
 refine xT true rfl ?_
 refine xT true rfl ?_
 refine xT true rfl ?_
 refine xT true rfl ?_
 exact xR true rfl
end Go.Proofs.YthijdhenekmojaaDoor

/- Walks: what functions of the program and of the document compute, part 1 of those on which ModelReads rests. -/
import Derived.Test.YthijdhenekmojaaGreatDoorMdA
import Derived.Test.YthijdhenekmojaaGreatDoorChecked

set_option linter.unusedVariables false
set_option linter.unusedSimpArgs false
/- Which functions are entered. -/
namespace Go.Proofs.YthijdhenekmojaaGreatDoor
open Go.Sx
def xx: Cx:=⟨[3,4,5,6,7,8,9,10,11,12,13,14,15,16,17,18,19,20,21,22,23,24,25,26,27,28,29,30,31,32,33,34,35,36,37,38,39,40,41,42,43,44,45,46,47,48,49,50,51,52,53,54,55,56,57,58,59,60,61,62,63,64,65,66,67,68,69,70,71,72,73,74,75,76,77,78,79,80,81,82,83,84,85,86,87,88,89,90,91,92,93,94,95,96,100,101,102,103,104,105,106,107,108,109,110,111,112,113,114,118,119,120,121,122,123,124,161],[],[],[3,4,5,6,7,8,9,10,11,12,13,14,15,16,17,18,19,20,21,22,23,24,25,26,27,28,29,30,31,32,33,34,35,36,37,38,39,40,41,42,43,44,45,46,47,48,49,50,51,52,53,54,55,56,57,58,59,60,61,62,63,64,65,66,67,68,69,70,71,72,73,74,75,76,77,78,79,80,81,82,83,84,85,86,87,88,89,90,91,92,93,94,95,96,100,101,102,103,104,105,106,107,108,109,110,111,112,113,114,118,119,120,121,122,123,124,161]⟩
theorem xxI: Inl Tryz.prog xx:=inl_ok ⟨Tryz.call3,Tryz.call4,Tryz.call5,Tryz.call6,Tryz.call7,Tryz.call8,Tryz.call9,Tryz.call10,Tryz.call11,Tryz.call12,Tryz.call13,Tryz.call14,Tryz.call15,Tryz.call16,Tryz.call17,Tryz.call18,Tryz.call19,Tryz.call20,Tryz.call21,Tryz.call22,Tryz.call23,Tryz.call24,Tryz.call25,Tryz.call26,Tryz.call27,Tryz.call28,Tryz.call29,Tryz.call30,Tryz.call31,Tryz.call32,Tryz.call33,Tryz.call34,Tryz.call35,Tryz.call36,Tryz.call37,Tryz.call38,Tryz.call39,Tryz.call40,Tryz.call41,Tryz.call42,Tryz.call43,Tryz.call44,Tryz.call45,Tryz.call46,Tryz.call47,Tryz.call48,Tryz.call49,Tryz.call50,Tryz.call51,Tryz.call52,Tryz.call53,Tryz.call54,Tryz.call55,Tryz.call56,Tryz.call57,Tryz.call58,Tryz.call59,Tryz.call60,Tryz.call61,Tryz.call62,Tryz.call63,Tryz.call64,Tryz.call65,Tryz.call66,Tryz.call67,Tryz.call68,Tryz.call69,Tryz.call70,Tryz.call71,Tryz.call72,Tryz.call73,Tryz.call74,Tryz.call75,Tryz.call76,Tryz.call77,Tryz.call78,Tryz.call79,Tryz.call80,Tryz.call81,Tryz.call82,Tryz.call83,Tryz.call84,Tryz.call85,Tryz.call86,Tryz.call87,Tryz.call88,Tryz.call89,Tryz.call90,Tryz.call91,Tryz.call92,Tryz.call93,Tryz.call94,Tryz.call95,Tryz.call96,Tryz.call100,Tryz.call101,Tryz.call102,Tryz.call103,Tryz.call104,Tryz.call105,Tryz.call106,Tryz.call107,Tryz.call108,Tryz.call109,Tryz.call110,Tryz.call111,Tryz.call112,Tryz.call113,Tryz.call114,Tryz.call118,Tryz.call119,Tryz.call120,Tryz.call121,Tryz.call122,Tryz.call123,Tryz.call124,Tryz.call161,trivial⟩ trivial
def xa: Cx:=⟨[3,4,5,6,10,11,12,14,15,17,22,23,24,25,27,28,29,30,32,38,39,40,41,42,43,45,47,48,49,50,51,52,53,54,55,56,61,62,63,64,66,67,68,69,70,71,72,73,74,75,76,77,78,79,80,81,82,83,84,85,86,87,88,89,90,91,92,93,94,95,96,100,101,102,103,104,105,106,107,108,109,110,111,112,113,114,118,119,120,121,122,123,124,161],[],[],[3,4,5,6,10,11,12,14,15,17,22,23,24,25,27,28,29,30,32,38,39,40,41,42,43,45,47,48,49,50,51,52,53,54,55,56,61,62,63,64,66,67,68,69,70,71,72,73,74,75,76,77,78,79,80,81,82,83,84,85,86,87,88,89,90,91,92,93,94,95,96,100,101,102,103,104,105,106,107,108,109,110,111,112,113,114,118,119,120,121,122,123,124,161]⟩
theorem xaI: Inl Tryz.prog xa:=inl_ok ⟨Tryz.call3,Tryz.call4,Tryz.call5,Tryz.call6,Tryz.call10,Tryz.call11,Tryz.call12,Tryz.call14,Tryz.call15,Tryz.call17,Tryz.call22,Tryz.call23,Tryz.call24,Tryz.call25,Tryz.call27,Tryz.call28,Tryz.call29,Tryz.call30,Tryz.call32,Tryz.call38,Tryz.call39,Tryz.call40,Tryz.call41,Tryz.call42,Tryz.call43,Tryz.call45,Tryz.call47,Tryz.call48,Tryz.call49,Tryz.call50,Tryz.call51,Tryz.call52,Tryz.call53,Tryz.call54,Tryz.call55,Tryz.call56,Tryz.call61,Tryz.call62,Tryz.call63,Tryz.call64,Tryz.call66,Tryz.call67,Tryz.call68,Tryz.call69,Tryz.call70,Tryz.call71,Tryz.call72,Tryz.call73,Tryz.call74,Tryz.call75,Tryz.call76,Tryz.call77,Tryz.call78,Tryz.call79,Tryz.call80,Tryz.call81,Tryz.call82,Tryz.call83,Tryz.call84,Tryz.call85,Tryz.call86,Tryz.call87,Tryz.call88,Tryz.call89,Tryz.call90,Tryz.call91,Tryz.call92,Tryz.call93,Tryz.call94,Tryz.call95,Tryz.call96,Tryz.call100,Tryz.call101,Tryz.call102,Tryz.call103,Tryz.call104,Tryz.call105,Tryz.call106,Tryz.call107,Tryz.call108,Tryz.call109,Tryz.call110,Tryz.call111,Tryz.call112,Tryz.call113,Tryz.call114,Tryz.call118,Tryz.call119,Tryz.call120,Tryz.call121,Tryz.call122,Tryz.call123,Tryz.call124,Tryz.call161,trivial⟩ trivial
def xb: Cx:=⟨[3,4,5,6,7,8,9,10,11,12,14,15,17,18,19,20,21,22,23,24,25,27,28,29,30,32,33,34,35,38,39,40,41,42,43,45,47,48,49,50,51,52,53,54,55,56,58,61,62,63,64,66,67,68,69,70,71,72,73,74,75,76,77,78,79,80,81,82,83,84,85,86,87,88,89,90,91,92,93,94,95,96,100,101,102,103,104,105,106,107,108,109,110,111,112,113,114,118,119,120,121,122,123,124,161],[],[],[3,4,5,6,7,8,9,10,11,12,14,15,17,18,19,20,21,22,23,24,25,27,28,29,30,32,33,34,35,38,39,40,41,42,43,45,47,48,49,50,51,52,53,54,55,56,58,61,62,63,64,66,67,68,69,70,71,72,73,74,75,76,77,78,79,80,81,82,83,84,85,86,87,88,89,90,91,92,93,94,95,96,100,101,102,103,104,105,106,107,108,109,110,111,112,113,114,118,119,120,121,122,123,124,161]⟩
theorem xbI: Inl Tryz.prog xb:=inl_ok ⟨Tryz.call3,Tryz.call4,Tryz.call5,Tryz.call6,Tryz.call7,Tryz.call8,Tryz.call9,Tryz.call10,Tryz.call11,Tryz.call12,Tryz.call14,Tryz.call15,Tryz.call17,Tryz.call18,Tryz.call19,Tryz.call20,Tryz.call21,Tryz.call22,Tryz.call23,Tryz.call24,Tryz.call25,Tryz.call27,Tryz.call28,Tryz.call29,Tryz.call30,Tryz.call32,Tryz.call33,Tryz.call34,Tryz.call35,Tryz.call38,Tryz.call39,Tryz.call40,Tryz.call41,Tryz.call42,Tryz.call43,Tryz.call45,Tryz.call47,Tryz.call48,Tryz.call49,Tryz.call50,Tryz.call51,Tryz.call52,Tryz.call53,Tryz.call54,Tryz.call55,Tryz.call56,Tryz.call58,Tryz.call61,Tryz.call62,Tryz.call63,Tryz.call64,Tryz.call66,Tryz.call67,Tryz.call68,Tryz.call69,Tryz.call70,Tryz.call71,Tryz.call72,Tryz.call73,Tryz.call74,Tryz.call75,Tryz.call76,Tryz.call77,Tryz.call78,Tryz.call79,Tryz.call80,Tryz.call81,Tryz.call82,Tryz.call83,Tryz.call84,Tryz.call85,Tryz.call86,Tryz.call87,Tryz.call88,Tryz.call89,Tryz.call90,Tryz.call91,Tryz.call92,Tryz.call93,Tryz.call94,Tryz.call95,Tryz.call96,Tryz.call100,Tryz.call101,Tryz.call102,Tryz.call103,Tryz.call104,Tryz.call105,Tryz.call106,Tryz.call107,Tryz.call108,Tryz.call109,Tryz.call110,Tryz.call111,Tryz.call112,Tryz.call113,Tryz.call114,Tryz.call118,Tryz.call119,Tryz.call120,Tryz.call121,Tryz.call122,Tryz.call123,Tryz.call124,Tryz.call161,trivial⟩ trivial
end Go.Proofs.YthijdhenekmojaaGreatDoor
/- Contracts of the config's and the rows' functions. -/
set_option maxRecDepth 100000
set_option maxHeartbeats 0
namespace Go.Proofs.YthijdhenekmojaaGreatDoor
open Go.Sx
abbrev sU(args:List SA)(pre:List SE)(n:Nat)(ret:List SA)(post:List SE): Sp Unit:=⟨args,pre,n,fun _=>True,fun _=>ret,fun _=>post⟩
abbrev sB(args:List SA)(pre:List SE)(n:Nat)(b:Bool)(post:List SE): Sp Bool:=⟨args,pre,n,fun x=>x=b,fun x=>[.s (.bo x)],fun _=>post⟩
abbrev cfgS(c:Cfg): List SV:=[.i .i64 c.topics,.i .i64 c.small,.i .i64 c.slots,.i .i64 c.clients,.i .i64 c.s0,.i .i64 c.n0,.i .i64 c.s1,.i .i64 c.n1,.i .i64 c.retry]
theorem t_plan(c:Cfg)(hc:c.Ok): Ct Tryz.prog 26 (sU [.g (cfgS c)] [] 0 [.s .ni] []):=by
 simp only [Cfg.Ok] at hc
 refine cX 7 xxI Tryz.func26 fun g F => ?_
 refine xN fun b1 => ?_
 refine xN fun b2 => ?_
 refine xN fun b3 => ?_
 refine xN fun b4 => ?_
 refine xN fun b5 => ?_
 refine xN fun b6 => ?_
 refine xF (decide (c.topics<1)) (by first | (simp; done) | (simp; omega)) ?_
 refine xF (decide (c.topics>8)) (by first | (simp; done) | (simp; omega)) ?_
 refine xF (decide (c.small<4)) (by first | (simp; done) | (simp; omega)) ?_
 refine xF (decide (c.small>32)) (by first | (simp; done) | (simp; omega)) ?_
 refine xF (decide (c.slots<1)) (by first | (simp; done) | (simp; omega)) ?_
 refine xF (decide (c.slots>8)) (by first | (simp; done) | (simp; omega)) ?_
 refine xF (decide (c.clients<1)) (by first | (simp; done) | (simp; omega)) ?_
 refine xF (decide (c.clients>8)) (by first | (simp; done) | (simp; omega)) ?_
 refine xF (decide (c.retry<1)) (by first | (simp; done) | (simp; omega)) ?_
 refine xF (decide (c.retry>8)) (by first | (simp; done) | (simp; omega)) ?_
 refine xF (decide (c.s0<4)) (by first | (simp; done) | (simp; omega)) ?_
 refine xF (decide (c.s0>96)) (by first | (simp; done) | (simp; omega)) ?_
 refine xF (decide (c.n0<0)) (by first | (simp; done) | (simp; omega)) ?_
 refine xF (decide (c.n0>12)) (by first | (simp; done) | (simp; omega)) ?_
 refine xF (decide (c.s1<4)) (by first | (simp; done) | (simp; omega)) ?_
 refine xF (decide (c.s1>96)) (by first | (simp; done) | (simp; omega)) ?_
 refine xF (decide (c.n1<0)) (by first | (simp; done) | (simp; omega)) ?_
 refine xF (decide (c.n1>12)) (by first | (simp; done) | (simp; omega)) ?_
 refine xF (!decide (c.s1>c.s0)) (by first | (simp; done) | (simp; omega)) ?_
 exact xR () trivial
def mayB(k:Int): Bool:=decide (1≤k∧k≤2147483647)
theorem t_may(k:Int): Ct Tryz.prog 56 (sB [.s (.i .i64 k)] [] 0 (mayB k) []):=by
 refine cX 9 xxI Tryz.func56 fun g F => ?_
 refine xB (decide (k≥1)) (fun h1 => ?_) (fun h1 => ?_)
 ·skip
  replace h1:=decT h1
  exact xR (decide (k≤2147483647)) (by simp only [mayB]; simp; omega)
 ·skip
  replace h1:=decF h1
  exact xR (false) (by simp only [mayB]; simp; omega)
end Go.Proofs.YthijdhenekmojaaGreatDoor
/- Where a key's search starts; which class words fit. -/
set_option maxRecDepth 100000
set_option maxHeartbeats 0
namespace Go.Proofs.YthijdhenekmojaaGreatDoor
open Go.Sx
abbrev sI(args:List SA)(pre:List SE)(n:Nat)(fact:Int→Prop)(post:List SE): Sp Int:=⟨args,pre,n,fact,fun x=>[.s (.i .i64 x)],fun _=>post⟩
abbrev sW(args:List SA)(pre:List SE)(n:Nat)(fact:Int→Prop)(post:List SE): Sp Int:=⟨args,pre,n,fact,fun x=>[.s (.i .u64 x)],fun _=>post⟩
theorem wr64(r:Int): 0≤IntKind.u64.wrap r∧IntKind.u64.wrap r≤18446744073709551615:=by rw [wrapU64]; omega
theorem wr_id{x:Int}(h:0≤x∧x≤18446744073709551615): IntKind.u64.wrap x=x:=by rw [wrapU64]; omega
theorem t_mix(x:Int)(hx:InK .u64 x): Ct Tryz.prog 57 (sW [.s (.i .u64 x)] [] 0 (fun y=>0≤y∧y≤18446744073709551615) []):=by
 refine cX 17 xaI Tryz.func57 fun g F => ?_
 refine xO ((0:Int)≤(30:Int)) (by omega) ?_
 refine xO ((0:Int)≤(27:Int)) (by omega) ?_
 refine xO ((0:Int)≤(31:Int)) (by omega) ?_
 exact xR (IntKind.u64.wrap ↑(BitVec.ofInt IntKind.u64.bits (IntKind.u64.wrap (IntKind.u64.wrap ↑(BitVec.ofInt IntKind.u64.bits (IntKind.u64.wrap (IntKind.u64.wrap ↑(BitVec.ofInt IntKind.u64.bits x ^^^ BitVec.ofInt IntKind.u64.bits (bShr IntKind.u64 x 30)).toNat*13787848793156543929)) ^^^ BitVec.ofInt IntKind.u64.bits (bShr IntKind.u64 (IntKind.u64.wrap (IntKind.u64.wrap ↑(BitVec.ofInt IntKind.u64.bits x ^^^ BitVec.ofInt IntKind.u64.bits (bShr IntKind.u64 x 30)).toNat*13787848793156543929)) 27)).toNat*10723151780598845931)) ^^^ BitVec.ofInt IntKind.u64.bits (bShr IntKind.u64 (IntKind.u64.wrap (IntKind.u64.wrap ↑(BitVec.ofInt IntKind.u64.bits (IntKind.u64.wrap (IntKind.u64.wrap ↑(BitVec.ofInt IntKind.u64.bits x ^^^ BitVec.ofInt IntKind.u64.bits (bShr IntKind.u64 x 30)).toNat*13787848793156543929)) ^^^ BitVec.ofInt IntKind.u64.bits (bShr IntKind.u64 (IntKind.u64.wrap (IntKind.u64.wrap ↑(BitVec.ofInt IntKind.u64.bits x ^^^ BitVec.ofInt IntKind.u64.bits (bShr IntKind.u64 x 30)).toNat*13787848793156543929)) 27)).toNat*10723151780598845931)) 31)).toNat) (wr64 _)
theorem tm_rng{x t:Int}(hx:0≤x∧x≤18446744073709551615)(ht:1≤t∧t≤8): 0≤x.tmod (IntKind.u64.wrap t)∧x.tmod (IntKind.u64.wrap t)<8:=by
 rw [wr_id (by omega)]
 have h1:=Int.tmod_nonneg t hx.1
 have h2:=Int.tmod_lt_of_pos x (show 0<t by omega)
 omega
theorem tm_in{x t:Int}(hx:0≤x∧x≤18446744073709551615)(ht:1≤t∧t≤8): InK .i64 (x.tmod (IntKind.u64.wrap t)):=by
 have:=tm_rng hx ht
 simp only [InK]; omega
theorem t_start(c:Cfg)(hc:c.Ok)(k:Int): Ct Tryz.prog 31 (sI [.g (cfgS c),.s (.i .i64 k)] [] 0 (fun e=>e<0↔mayB k=false) []):=by
 have hc':=hc
 simp only [Cfg.Ok] at hc
 refine cX 21 xaI Tryz.func31 fun g F => ?_
 refine xN fun b1 => ?_
 refine xC Tryz.call26 (t_plan (c) (by assumption)) fun _ n2 _ => ?_
 refine xB (decide (k≥1)) (fun h3 => ?_) (fun h3 => ?_)
 ·skip
  replace h3:=decT h3
  refine xB (!decide (k≤2147483647)) (fun h4 => ?_) (fun h4 => ?_)
  ·skip
   replace h4:=ntT h4
   replace h4:=decF h4
   exact xR (-1) (by simp [mayB]; omega)
  ·skip
   replace h4:=ntF h4
   replace h4:=decT h4
   refine xC Tryz.call57 (t_mix (IntKind.u64.wrap k) (wr64 _)) fun xn6 n6 hxn6 => ?_
   refine xO (IntKind.u64.wrap c.topics≠0) (by rw [wr_id (by omega)]; omega) ?_
   refine xO (InK IntKind.i64 (xn6.tmod (IntKind.u64.wrap c.topics))) (tm_in hxn6 (by omega)) ?_
   exact xR (xn6.tmod (IntKind.u64.wrap c.topics)) (by have:=(tm_rng hxn6 (show 1≤c.topics∧c.topics≤8 by omega)).1; simp [mayB]; omega)
 ·skip
  replace h3:=decF h3
  exact xR (-1) (by simp [mayB]; omega)
def fitsC(c:Cfg)(n:Int): Int:=if n<1 then -1 else if c.s0≥n then 0 else if c.s1≥n then 1 else -1
theorem t_fits(c:Cfg)(hc:c.Ok)(n:Int): Ct Tryz.prog 59 (sI [.g (cfgS c),.s (.i .i64 n)] [] 0 (fun e=>e=fitsC c n) []):=by
 refine cX 16 xaI Tryz.func59 fun g F => ?_
 refine xN fun b1 => ?_
 refine xN fun b2 => ?_
 refine xC Tryz.call26 (t_plan (c) (by assumption)) fun _ n3 _ => ?_
 refine xB (decide (n<1)) (fun h4 => ?_) (fun h4 => ?_)
 ·skip
  replace h4:=decT h4
  exact xR (-1) (by unfold fitsC; omega)
 ·skip
  replace h4:=decF h4
  refine xT (decide ((0:Int) < ↑((2:Nat)-(0:Nat)))) rfl ?_
  refine xN fun b5 => ?_
  refine xB (decide (c.s0≥n)) (fun h6 => ?_) (fun h6 => ?_)
  ·skip
   replace h6:=decT h6
   exact xR (0) (by unfold fitsC; omega)
  ·skip
   replace h6:=decF h6
   refine xT (decide (IntKind.i64.wrap ((0:Int)+(1:Int)) < ↑((2:Nat)-(0:Nat)))) rfl ?_
   refine xN fun b7 => ?_
   refine xB (decide (c.s1≥n)) (fun h8 => ?_) (fun h8 => ?_)
   ·skip
    replace h8:=decT h8
    exact xR (IntKind.i64.wrap (0+1)) (by show(1:Int) = _; unfold fitsC; omega)
   ·skip
    replace h8:=decF h8
    refine xF (decide (IntKind.i64.wrap (IntKind.i64.wrap ((0:Int)+(1:Int))+(1:Int)) < ↑((2:Nat)-(0:Nat)))) rfl ?_
    exact xR (-1) (by unfold fitsC; omega)
end Go.Proofs.YthijdhenekmojaaGreatDoor
/- The model: what is created. -/
set_option maxRecDepth 100000
set_option maxHeartbeats 0
namespace Go.Proofs.YthijdhenekmojaaGreatDoor
open Go.Sx
def ekI(k:Int): Value:=.int .i64 k
def evT(x:Bool×PRow): Value:=.agg #[.bool x.1,.slice x.2.a x.2.xs.length x.2.c]
theorem kI: KeyOk Tryz.prog 3 ekI:=keyOk_int (kk:=.i64) (by kernel_rfl)
theorem kH: KeyOk Tryz.prog 116 ekP:=keyOk_two (by kernel_rfl)
abbrev TopM:= List (Int×Bool×PRow)
abbrev HanM:= List ((Int×Int)×PRow)
abbrev dS(cl ki ke:Int)(la:Bool)(wo:SV)(ha:Int)(pa:SV)(co:Int)(rw rk:SV)(n cm fr to_:Int): List SV:=[.i .i64 cl,.l .i64 ki,.i .i64 ke,.bo la,wo,.i .i64 ha,pa,.i .i64 co,rw,rk,.i .u64 n,.i .i64 cm,.i .i64 fr,.i .i64 to_]
structure RT where
 b:Bool
 T:TopM
def createM(c:Cfg)(T:TopM)(ke:Int)(la:Bool)(co:Int): RT:=
 if mayB ke=false then⟨co==1,T⟩ else
 if co=0 then(if (kget T ke).isSome=true∨(T.length:Int)=c.topics then⟨false,T⟩ else⟨true,kset T ke (la,.nil)⟩) else
 if co=14 then⟨(kget T ke).isSome,T⟩ else
 if co=15 then⟨!(kget T ke).isSome&&((T.length:Int)==c.topics),T⟩ else⟨co==17,T⟩
abbrev mdl(c:Cfg)(sv hv:SV)(mt:Nat): SE:=.pts 0 (cfgS c++[sv,.mb 1 mt,hv]) 81
abbrev topR(mt:Nat)(T:TopM): SE:=.rs 1 fun _=>KMap mt ekI evT T
theorem may_of{e k:Int}(h:e<0↔mayB k=false)(h2:¬e<0): mayB k=true:=by
 cases hm:mayB k with
 | true=>rfl
 | false=>exact absurd (h.2 hm) h2
theorem t_create(c:Cfg)(hc:c.Ok)(T:TopM)(mt:Nat)(sv hv:Value)(cl ke:Int)(la:Bool)(wo pa rw rk:Value)(ha co n cm fr to_:Int):
  Ct Tryz.prog 13 (⟨[.s (.p 0 0),.g (dS cl 1 ke la (.o wo) ha (.o pa) co (.o rw) (.o rk) n cm fr to_)],[mdl c (.o sv) (.o hv) mt,topR mt T],2,
   fun x=>x=createM c T ke la co,fun x=>[.s (.bo x.b)],fun x=>[mdl c (.o sv) (.o hv) mt,topR mt x.T]⟩:Sp RT):=by
 refine cX 148 xaI Tryz.func13 fun g F => ?_
 refine xN fun b1 => ?_
 refine xC Tryz.call31 (t_start (c) (by omega) (ke)) fun xn2 n2 hxn2 => ?_
 refine xB (decide (xn2<0)) (fun h3 => ?_) (fun h3 => ?_)
 ·skip
  replace h3:=decT h3
  exact xR ({b:=co==1,T:=T}) (by have hm:=hxn2.1 (by assumption); simp [createM,hm])
 ·skip
  replace h3:=decF h3
  refine xA ?_ ?_
  ·skip
   refine xMg 1 (mt) (T) (evT) kI (ke) (false,PRow.nil) true ?_
   refine xN fun b4 => ?_
   refine xN fun b5 => ?_
   refine xMl 1 (mt) (T) ekI evT ?_
   refine xB (co==0) (fun h6 => ?_) (fun h6 => ?_)
   ·skip
    replace h6:=decT h6
    refine xB ((kget T ke).isSome) (fun h7 => ?_) (fun h7 => ?_)
    ·skip
     exact xR ({b:=false,T:=T}) (by have hm:=may_of hxn2 (by assumption); simp [createM,hm, *])
    ·skip
     refine xB (↑(List.length T)==c.topics) (fun h8 => ?_) (fun h8 => ?_)
     ·skip
      replace h8:=decT h8
      exact xR ({b:=false,T:=T}) (by have hm:=may_of hxn2 (by assumption); simp [createM,hm, *])
     ·skip
      replace h8:=decF h8
      refine xMs 1 (mt) (T) (evT) kI (ke) (la,PRow.nil) ?_
      exact xR ({b:=true,T:=kset T ke (la,PRow.nil)}) (by have hm:=may_of hxn2 (by assumption); simp [createM,hm, *])
   ·skip
    replace h6:=decF h6
    refine xB (co==14) (fun h9 => ?_) (fun h9 => ?_)
    ·skip
     replace h9:=decT h9
     exact xR ({b:=(kget T ke).isSome,T:=T}) (by have hm:=may_of hxn2 (by assumption); simp [createM,hm, *])
    ·skip
     replace h9:=decF h9
     refine xB (co==15) (fun h10 => ?_) (fun h10 => ?_)
     ·skip
      replace h10:=decT h10
      refine xB (!(kget T ke).isSome) (fun h11 => ?_) (fun h11 => ?_)
      ·skip
       replace h11:=ntT h11
       exact xR ({b := ↑(List.length T)==c.topics,T:=T}) (by have hm:=may_of hxn2 (by assumption); simp [createM,hm, *])
      ·skip
       replace h11:=ntF h11
       exact xR ({b:=false,T:=T}) (by have hm:=may_of hxn2 (by assumption); simp [createM,hm, *])
     ·skip
      replace h10:=decF h10
      exact xR ({b:=co==17,T:=T}) (by have hm:=may_of hxn2 (by assumption); simp [createM,hm, *])
  ·skip
   refine xN fun b12 => ?_
   refine xMg 1 (mt) (T) (evT) kI (ke) (false,PRow.nil) true ?_
   refine xN fun b13 => ?_
   refine xMl 1 (mt) (T) ekI evT ?_
   refine xB (co==0) (fun h14 => ?_) (fun h14 => ?_)
   ·skip
    replace h14:=decT h14
    refine xB ((kget T ke).isSome) (fun h15 => ?_) (fun h15 => ?_)
    ·skip
     exact xR ({b:=false,T:=T}) (by have hm:=may_of hxn2 (by assumption); simp [createM,hm, *])
    ·skip
     refine xB (↑(List.length T)==c.topics) (fun h16 => ?_) (fun h16 => ?_)
     ·skip
      replace h16:=decT h16
      exact xR ({b:=false,T:=T}) (by have hm:=may_of hxn2 (by assumption); simp [createM,hm, *])
     ·skip
      replace h16:=decF h16
      refine xMs 1 (mt) (T) (evT) kI (ke) (la,PRow.nil) ?_
      exact xR ({b:=true,T:=kset T ke (la,PRow.nil)}) (by have hm:=may_of hxn2 (by assumption); simp [createM,hm, *])
   ·skip
    replace h14:=decF h14
    refine xB (co==14) (fun h17 => ?_) (fun h17 => ?_)
    ·skip
     replace h17:=decT h17
     exact xR ({b:=(kget T ke).isSome,T:=T}) (by have hm:=may_of hxn2 (by assumption); simp [createM,hm, *])
    ·skip
     replace h17:=decF h17
     refine xB (co==15) (fun h18 => ?_) (fun h18 => ?_)
     ·skip
      replace h18:=decT h18
      refine xB (!(kget T ke).isSome) (fun h19 => ?_) (fun h19 => ?_)
      ·skip
       replace h19:=ntT h19
       exact xR ({b := ↑(List.length T)==c.topics,T:=T}) (by have hm:=may_of hxn2 (by assumption); simp [createM,hm, *])
      ·skip
       replace h19:=ntF h19
       exact xR ({b:=false,T:=T}) (by have hm:=may_of hxn2 (by assumption); simp [createM,hm, *])
     ·skip
      replace h18:=decF h18
      exact xR ({b:=co==17,T:=T}) (by have hm:=may_of hxn2 (by assumption); simp [createM,hm, *])
end Go.Proofs.YthijdhenekmojaaGreatDoor
/- Rows that are copied. -/
set_option maxRecDepth 100000
set_option maxHeartbeats 0
namespace Go.Proofs.YthijdhenekmojaaGreatDoor
open Go.Sx
abbrev sR(args:List SA)(pre:List SE)(n:Nat)(ret:List SA)(post:Sx.Rest→List SE): Sp Sx.Rest:=⟨args,pre,n,fun _=>True,fun _=>ret,post⟩
theorem t_cloneS(xs:List Int)(n:Nat)(hn:xs.length=n)(hl:xs.length≤1000000): Ct Tryz.prog 46 (sR [.s (.s 0 n)] [.sl 0 (encI .u64) 0 1 xs 42] 1 [.s (.s 1 n)] fun z=>[.sl 0 (encI .u64) 0 1 xs 42,.rd 1 (encI .u64) 0 1 xs 42 z]):=by
 subst hn
 intro g
 obtain⟨b,a,c,h,rfl⟩:=rf_eta g
 cases a with
 | none=>
  refine ctr_sl_nil (i:=0) rfl ?_
  rintro rfl rfl
  refine cXg 8 xaI Tryz.func46 fun F => ?_
  refine xWr (.i 7) _ ⟨[(0,[]),(7,[])],9⟩ (view_nilrd (encI .u64) 0 1 42 ⟨[],[],(0,0)⟩ (sizedI _)) ?_
  exact xR ⟨[],[],(0,0)⟩ trivial
 | some ad=>
  refine cXg 8 xaI Tryz.func46 fun F => ?_
  refine xN fun b1 => ?_
  refine xAf 42 (some ⟨b1,0,none⟩) 0 xs (sizedI .u64) (oneI _) 8 (.slice (some ad) xs.length c) (by omega) (fun F=>src_sl (i:=0) (d:=0) (sz:=1) (t:=42) (by kernel_rfl)) (fun a' c' r => ?_)
  exact xR r trivial
theorem t_cloneR(xs:List Int)(z0:Sx.Rest)(n:Nat)(hn:xs.length=n)(hl:xs.length≤1000000): Ct Tryz.prog 46 (sR [.s (.s 0 n)] [.rd 0 (encI .u64) 0 1 xs 42 z0] 1 [.s (.s 1 n)] fun z=>[.rd 0 (encI .u64) 0 1 xs 42 z0,.rd 1 (encI .u64) 0 1 xs 42 z]):=by
 subst hn
 intro g
 obtain⟨b,a,c,h,rfl⟩:=rf_eta g
 cases a with
 | none=>
  refine ctr_rd_nil ?_
  rintro rfl rfl
  refine cXg 8 xaI Tryz.func46 fun F => ?_
  refine xWr (.i 7) _ ⟨[(0,[]),(7,[])],9⟩ (view_nilrd (encI .u64) 0 1 42 ⟨[],[],(0,0)⟩ (sizedI _)) ?_
  exact xR ⟨[],[],(0,0)⟩ trivial
 | some ad=>
  refine cXg 8 xaI Tryz.func46 fun F => ?_
  refine xN fun b1 => ?_
  refine xAf 42 (some ⟨b1,0,none⟩) 0 xs (sizedI .u64) (oneI _) 8 (.slice (some ad) xs.length c) (by omega) (fun F=>src_rd (i:=0) (d:=0) (sz:=1) (t:=42) (r:=z0) (by kernel_rfl)) (fun a' c' r => ?_)
  exact xR r trivial
end Go.Proofs.YthijdhenekmojaaGreatDoor
/- The model: what stays, and what is looked up. -/
set_option linter.unusedSimpArgs false
set_option maxRecDepth 100000
set_option maxHeartbeats 0
namespace Go.Proofs.YthijdhenekmojaaGreatDoor
open Go.Sx
abbrev mdl2(c:Cfg)(sv:SV)(mt mh:Nat): SE:=.pts 0 (cfgS c++[sv,.mb 1 mt,.mb 2 mh]) 81
abbrev hpR(mh:Nat)(H:HanM)(ps:List PRow): SE:=.rs 2 fun _=>HP 42 mh H ps
structure RP where
 b:Bool
 T:TopM
 ps:List PRow
def fitsB(c:Cfg)(T:TopM)(ke:Int)(n:Int): Bool:=(kget T ke).isSome&&(if ((kget T ke).getD (false,.nil)).1=true then decide (fitsC c n≥0) else decide (n≤c.small))
/-- is something kept? -/
def pubK(c:Cfg)(T:TopM)(ke n co:Int): Bool:=mayB ke&&decide (n≠0)&&decide (co=0)&&fitsB c T ke n
def pubB(c:Cfg)(T:TopM)(ke n co:Int): Bool:=
 if mayB ke=false∨n=0 then co==1 else
 if co=0 then fitsB c T ke n else if co=12 then !(kget T ke).isSome else
 if co=21 then(kget T ke).isSome && !fitsB c T ke n else decide (co=18∨co=16∨co=17)
def pubR(c:Cfg)(T:TopM)(ps:List PRow)(ke:Int)(ws:List Int)(co:Int)(x:RP): Prop:=
 x.b=pubB c T ke ws.length co∧(if pubK c T ke ws.length co=true then ∃q:PRow,q.xs=ws∧x.T=kset T ke (((kget T ke).getD (false,.nil)).1,q)∧x.ps=ps++[q] else x.T=T∧(x.ps=ps∨x.ps=ps++[]))
def PoolOk(T:TopM)(H:HanM)(ps:List PRow): Prop:=(∀x∈T,x.2.2 = .nil∨x.2.2∈ps)∧∀x∈H,x.2 = .nil∨x.2∈ps
theorem kget_mem{κ β : Type}[DecidableEq κ]{l:List (κ×β)}{k : κ}{x : β}(h:kget l k=some x): ∃k',(k',x)∈l:=by
 unfold kget at h
 cases hf:l.find? (fun x=>x.1==k) with
 | none=>rw [hf] at h; cases h
 | some y=>
  rw [hf] at h
  simp only [Option.map_some,Option.some.injEq] at h
  subst h
  exact⟨y.1,List.mem_of_find?_eq_some hf⟩
theorem pool_row{T:TopM}{H:HanM}{ps:List PRow}(h:PoolOk T H ps)(k:Int): ((kget T k).getD (false,.nil)).2 = .nil∨((kget T k).getD (false,.nil)).2∈ps:=by
 cases hk:kget T k with
 | none=>exact .inl rfl
 | some x=>
  obtain⟨k',hm⟩:=kget_mem hk
  exact h.1 _ hm
end Go.Proofs.YthijdhenekmojaaGreatDoor
/- The model: what is published. -/
set_option linter.unusedSimpArgs false
set_option maxRecDepth 100000
set_option maxHeartbeats 0
namespace Go.Proofs.YthijdhenekmojaaGreatDoor
open Go.Sx
def fitT(c:Cfg)(lg:Bool)(n:Int): Bool:=if lg=true then decide (fitsC c n≥0) else decide (n≤c.small)
theorem t_mfits(c:Cfg)(hc:c.Ok)(sv tv hv wv:Value)(lg:Bool)(n:Int): Ct Tryz.prog 58 (sB [.s (.p 0 0),.g [.bo lg,.o wv],.s (.i .i64 n)] [.pts 0 (cfgS c++[.o sv,.o tv,.o hv]) 81] 1 (fitT c lg n) [.pts 0 (cfgS c++[.o sv,.o tv,.o hv]) 81]):=by
 refine cX 23 xaI Tryz.func58 fun g F => ?_
 refine xN fun b1 => ?_
 refine xB (lg) (fun h2 => ?_) (fun h2 => ?_)
 ·skip
  refine xC Tryz.call59 (t_fits (c) (by omega) (n)) fun xn3 n3 hxn3 => ?_
  subst hxn3
  exact xR (decide (fitsC c n≥0)) (by simp [fitT, *])
 ·skip
  exact xR (decide (n≤c.small)) (by simp [fitT, *])
structure RQ where
 b:Bool
 T:TopM
 ps:List PRow
def pubK'(c:Cfg)(lg is:Bool)(n co:Int): Bool:=decide (co=0)&&(is&&fitT c lg n)
def pubB'(c:Cfg)(lg is:Bool)(n co:Int): Bool:=
 if co=0 then is&&fitT c lg n else if co=12 then !is else if co=21 then is && !(is&&fitT c lg n) else decide (co=18∨co=16∨co=17)
def pubR'(c:Cfg)(T:TopM)(ps:List PRow)(lg is:Bool)(ke:Int)(ws:List Int)(co:Int)(x:RQ): Prop:=
 x.b=pubB' c lg is ws.length co∧(if pubK' c lg is ws.length co=true then ∃q:PRow,q.xs=ws∧x.T=kset T ke (lg,q)∧x.ps=ps++[q] else x.T=T∧x.ps=ps)
theorem t_pub(c:Cfg)(hc:c.Ok)(T:TopM)(H:HanM)(ps:List PRow)(mt mh:Nat)(sv wv:Value)(cl ki ke:Int)(la lg is:Bool)(ws:List Int)(m:Nat)(hm:ws.length=m)(hl:ws.length≤1000000)(pa rw rk:Value)(ha co n cm fr to_:Int):
  Ct Tryz.prog 33 (⟨[.s (.p 0 0),.g (dS cl ki ke la (.s 3 m) ha (.o pa) co (.o rw) (.o rk) n cm fr to_),.g [.bo lg,.o wv],.s (.bo is)],[mdl2 c (.o sv) mt mh,topR mt T,hpR mh H ps,.sl 3 (encI .u64) 0 1 ws 42],4,
   pubR' c T ps lg is ke ws co,fun x=>[.s (.bo x.b)],fun x=>[mdl2 c (.o sv) mt mh,topR mt x.T,hpR mh H x.ps,.sl 3 (encI .u64) 0 1 ws 42]⟩:Sp RQ):=by
 subst hm
 refine cX 58 xaI Tryz.func33 fun g F => ?_
 refine xN fun b1 => ?_
 refine xN fun b2 => ?_
 refine xB (is) (fun h3 => ?_) (fun h3 => ?_)
 ·skip
  refine xC Tryz.call58 (t_mfits (c) (by omega) (SV.v g (SV.o sv)) (SV.v g (SV.mb 1 mt)) (SV.v g (SV.mb 2 mh)) (SV.v g (SV.o wv)) (lg) (↑ws.length)) fun xn5 n5 hxn5 => ?_
  subst hxn5
  refine xB (co==0) (fun h6 => ?_) (fun h6 => ?_)
  ·skip
   replace h6:=decT h6
   refine xB (fitT c lg ↑ws.length) (fun h7 => ?_) (fun h7 => ?_)
   ·skip
    refine xC Tryz.call46 (t_cloneS (ws) (ws.length) (by omega) (by omega)) fun xn8 n8 hxn8 => ?_
    refine xMs 0 (mt) (T) (evT) kI (ke) (lg,⟨(n8 1).a,(n8 1).c,ws,xn8⟩) ?_
    refine xEnd [1,6] [.res (HP 42 mh (H) (ps)),PRow.ent 42 ⟨(n8 1).a,(n8 1).c,ws,xn8⟩] 2 (HP 42 mh (H) (ps++[⟨(n8 1).a,(n8 1).c,ws,xn8⟩])) (hp_add [⟨(n8 1).a,(n8 1).c,ws,xn8⟩]) ?_
    exact xR ({b:=true,T:=kset T ke (lg,{a:=(n8 1).a,c:=(n8 1).c,xs:=ws,r:=xn8}),ps:=ps++[{a:=(n8 1).a,c:=(n8 1).c,xs:=ws,r:=xn8}]}) (by simp [pubR',pubB',pubK', *])
   ·skip
    exact xR ({b:=false,T:=T,ps:=ps}) (by simp [pubR',pubB',pubK', *])
  ·skip
   replace h6:=decF h6
   refine xB (co==12) (fun h9 => ?_) (fun h9 => ?_)
   ·skip
    replace h9:=decT h9
    exact xR ({b := !is,T:=T,ps:=ps}) (by simp [pubR',pubB',pubK', *])
   ·skip
    replace h9:=decF h9
    refine xB (co==21) (fun h10 => ?_) (fun h10 => ?_)
    ·skip
     replace h10:=decT h10
     refine xT (is) (by assumption) ?_
     exact xR ({b := !fitT c lg ↑ws.length,T:=T,ps:=ps}) (by simp [pubR',pubB',pubK', *])
    ·skip
     replace h10:=decF h10
     refine xB (co==18) (fun h11 => ?_) (fun h11 => ?_)
     ·skip
      replace h11:=decT h11
      exact xR ({b:=true,T:=T,ps:=ps}) (by simp [pubR',pubB',pubK', *])
     ·skip
      replace h11:=decF h11
      refine xB (co==16) (fun h12 => ?_) (fun h12 => ?_)
      ·skip
       replace h12:=decT h12
       exact xR ({b:=true,T:=T,ps:=ps}) (by simp [pubR',pubB',pubK', *])
      ·skip
       replace h12:=decF h12
       refine xB (co==17) (fun h13 => ?_) (fun h13 => ?_)
       ·skip
        replace h13:=decT h13
        exact xR ({b:=true,T:=T,ps:=ps}) (by simp [pubR',pubB',pubK', *])
       ·skip
        replace h13:=decF h13
        exact xR ({b:=false,T:=T,ps:=ps}) (by simp [pubR',pubB',pubK', *])
 ·skip
  refine xB (co==0) (fun h14 => ?_) (fun h14 => ?_)
  ·skip
   replace h14:=decT h14
   exact xR ({b:=false,T:=T,ps:=ps}) (by simp [pubR',pubB',pubK', *])
  ·skip
   replace h14:=decF h14
   refine xB (co==12) (fun h15 => ?_) (fun h15 => ?_)
   ·skip
    replace h15:=decT h15
    exact xR ({b := !is,T:=T,ps:=ps}) (by simp [pubR',pubB',pubK', *])
   ·skip
    replace h15:=decF h15
    refine xB (co==21) (fun h16 => ?_) (fun h16 => ?_)
    ·skip
     replace h16:=decT h16
     refine xF (is) (by assumption) ?_
     exact xR ({b:=false,T:=T,ps:=ps}) (by simp [pubR',pubB',pubK', *])
    ·skip
     replace h16:=decF h16
     refine xB (co==18) (fun h17 => ?_) (fun h17 => ?_)
     ·skip
      replace h17:=decT h17
      exact xR ({b:=true,T:=T,ps:=ps}) (by simp [pubR',pubB',pubK', *])
     ·skip
      replace h17:=decF h17
      refine xB (co==16) (fun h18 => ?_) (fun h18 => ?_)
      ·skip
       replace h18:=decT h18
       exact xR ({b:=true,T:=T,ps:=ps}) (by simp [pubR',pubB',pubK', *])
      ·skip
       replace h18:=decF h18
       refine xB (co==17) (fun h19 => ?_) (fun h19 => ?_)
       ·skip
        replace h19:=decT h19
        exact xR ({b:=true,T:=T,ps:=ps}) (by simp [pubR',pubB',pubK', *])
       ·skip
        replace h19:=decF h19
        exact xR ({b:=false,T:=T,ps:=ps}) (by simp [pubR',pubB',pubK', *])
end Go.Proofs.YthijdhenekmojaaGreatDoor
/- The model: what is published, as it is done. -/
set_option linter.unusedSimpArgs false
set_option maxRecDepth 100000
set_option maxHeartbeats 0
namespace Go.Proofs.YthijdhenekmojaaGreatDoor
open Go.Sx
def doPubR(c:Cfg)(T:TopM)(ps:List PRow)(ke:Int)(ws:List Int)(co:Int)(x:RQ): Prop:=
 if mayB ke=false∨ws.length=0 then x=⟨co==1,T,ps⟩ else pubR' c T ps ((kget T ke).getD (false,.nil)).1 (kget T ke).isSome ke ws co x
theorem doPub_a{c:Cfg}{T:TopM}{ps:List PRow}{ke:Int}{ws:List Int}{co:Int}(h:mayB ke=false∨ws.length=0): doPubR c T ps ke ws co ⟨co==1,T,ps⟩:=by unfold doPubR; rw [if_pos h]
theorem doPub_b{c:Cfg}{T:TopM}{ps:List PRow}{ke:Int}{ws:List Int}{co:Int}{y:RQ}(h1:mayB ke=true)(h2:¬((ws.length:Nat):Int)=0)(hy:pubR' c T ps ((kget T ke).getD (false,.nil)).1 (kget T ke).isSome ke ws co y): doPubR c T ps ke ws co ⟨y.b,y.T,y.ps⟩:=by
 unfold doPubR
 rw [if_neg]
 ·exact hy
 ·rintro(h | h)
  ·rw [h1] at h; cases h
  ·omega
theorem t_doPub(c:Cfg)(hc:c.Ok)(T:TopM)(H:HanM)(ps:List PRow)(mt mh:Nat)(sv:Value)(cl ke:Int)(la:Bool)(ws:List Int)(m:Nat)(hm:ws.length=m)(hl:ws.length≤1000000)(pa rw rk:Value)(ha co n cm fr to_:Int):
  Ct Tryz.prog 13 (⟨[.s (.p 0 0),.g (dS cl 3 ke la (.s 3 m) ha (.o pa) co (.o rw) (.o rk) n cm fr to_)],[mdl2 c (.o sv) mt mh,topR mt T,hpR mh H ps,.sl 3 (encI .u64) 0 1 ws 42],4,
   doPubR c T ps ke ws co,fun x=>[.s (.bo x.b)],fun x=>[mdl2 c (.o sv) mt mh,topR mt x.T,hpR mh H x.ps,.sl 3 (encI .u64) 0 1 ws 42]⟩:Sp RQ):=by
 subst hm
 refine cX 148 xaI Tryz.func13 fun g F => ?_
 refine xN fun b1 => ?_
 refine xC Tryz.call31 (t_start (c) (by omega) (ke)) fun xn2 n2 hxn2 => ?_
 refine xB (decide (xn2<0)) (fun h3 => ?_) (fun h3 => ?_)
 ·skip
  replace h3:=decT h3
  exact xR ({b:=co==1,T:=T,ps:=ps}) (doPub_a (.inl (hxn2.1 (by assumption))))
 ·skip
  replace h3:=decF h3
  refine xB ((↑ws.length:Int)==(0:Int)) (fun h4 => ?_) (fun h4 => ?_)
  ·skip
   replace h4:=decT h4
   exact xR ({b:=co==1,T:=T,ps:=ps}) (doPub_a (.inr (by omega)))
  ·skip
   replace h4:=decF h4
   refine xA ?_ ?_
   ·skip
    refine xMg 1 (mt) (T) (evT) kI (ke) (false,PRow.nil) true ?_
    refine xN fun b5 => ?_
    refine xC Tryz.call33 (t_pub (c) (by omega) (T) (H) (ps) (mt) (mh) (SV.v g (SV.o sv)) (Value.slice ((kget T ke).getD (false,PRow.nil)).snd.a ((kget T ke).getD (false,PRow.nil)).snd.xs.length ((kget T ke).getD (false,PRow.nil)).snd.c) (cl) (3) (ke) (la) (((kget T ke).getD (false,PRow.nil)).fst) ((kget T ke).isSome) (ws) (ws.length) (by omega) (by omega) (SV.v g (SV.o pa)) (SV.v g (SV.o rw)) (SV.v g (SV.o rk)) (ha) (co) (n) (cm) (fr) (to_)) fun xn7 n7 hxn7 => ?_
    exact xR (xn7) (doPub_b (may_of hxn2 (by assumption)) (by assumption) (by assumption))
   ·skip
    refine xN fun b8 => ?_
    refine xMg 1 (mt) (T) (evT) kI (ke) (false,PRow.nil) true ?_
    refine xC Tryz.call33 (t_pub (c) (by omega) (T) (H) (ps) (mt) (mh) (SV.v g (SV.o sv)) (Value.slice ((kget T ke).getD (false,PRow.nil)).snd.a ((kget T ke).getD (false,PRow.nil)).snd.xs.length ((kget T ke).getD (false,PRow.nil)).snd.c) (cl) (3) (ke) (la) (((kget T ke).getD (false,PRow.nil)).fst) ((kget T ke).isSome) (ws) (ws.length) (by omega) (by omega) (SV.v g (SV.o pa)) (SV.v g (SV.o rw)) (SV.v g (SV.o rk)) (ha) (co) (n) (cm) (fr) (to_)) fun xn10 n10 hxn10 => ?_
    exact xR (xn10) (doPub_b (may_of hxn2 (by assumption)) (by assumption) (by assumption))
end Go.Proofs.YthijdhenekmojaaGreatDoor
/- Rows compared: one against the first part of another. -/
set_option maxRecDepth 100000
set_option maxHeartbeats 0
namespace Go.Proofs.YthijdhenekmojaaGreatDoor
open Go.Sx
theorem take_step{xs ys:List Int}{i:Nat}(h:xs.take i=ys.take i)(hx:i<xs.length)(hy:i<ys.length)(he:xs.getD i 0=ys.getD i 0): xs.take (i+1)=ys.take (i+1):=by
 rw [List.take_add_one,List.take_add_one,h]
 simp only [List.getD_eq_getElem?_getD,List.getElem?_eq_getElem hx,List.getElem?_eq_getElem hy,Option.getD_some] at he
 rw [List.getElem?_eq_getElem hx,List.getElem?_eq_getElem hy,he]
theorem take_ne{xs ys:List Int}{i n:Nat}(hn:n=ys.length)(hx:i<n)(he:xs.getD i 0≠ys.getD i 0): xs.take n≠ys:=by
 intro h
 apply he
 rw [←h,List.getD_eq_getElem?_getD,List.getD_eq_getElem?_getD,List.getElem?_take_of_lt hx]
theorem t_equal(xs ys:List Int)(z1:Sx.Rest)(n m:Nat)(hn:n≤xs.length)(hm:ys.length=m)(hl:xs.length≤1000000): Ct Tryz.prog 60 (sB [.s (.s 0 n),.s (.s 1 m)] [.sl 0 (encI .u64) 0 1 xs 42,.rd 1 (encI .u64) 0 1 ys 42 z1] 2 (decide (xs.take n=ys)) [.sl 0 (encI .u64) 0 1 xs 42,.rd 1 (encI .u64) 0 1 ys 42 z1]):=by
 subst hm
 refine cX 26 xaI Tryz.func60 fun g F => ?_
 refine xB ((↑n:Int) != (↑ys.length:Int)) (fun h1 => ?_) (fun h1 => ?_)
 ·skip
  replace h1:=ntT h1
  replace h1:=decF h1
  exact xR (false) ((decide_eq_false (fun h=>by have:=congrArg List.length h; simp at this; omega)).symm)
 ·skip
  replace h1:=ntF h1
  replace h1:=decT h1
  refine xLoop xaI Tryz.func60 [0,1,0,1,1] [.b 0,.c [1,1,1]] [0,1,12,13] [0,1] (fun i:Nat=>[(0,.slice (g 0).a n (g 0).c),(1,.slice (g 1).a ys.length (g 1).c),(12,.int .i64 n),(13,.int .i64 i)]) (fun _=>[(0,.i 0),(1,.i 1)]) (fun _=>[.sl (g 0).a (g 0).c (encI .u64) 0 1 xs 42,.rd (g 1).a (g 1).c (encI .u64) 0 1 ys 42 z1]) (fun _=>⟨[(0,[]),(1,[])],2⟩) (fun i=>i≤n∧xs.take i=ys.take i) (fun i=>n-i) 0 ⟨by omega,rfl⟩ (fun i J hI hJ => ?_)
  refine xB (decide ((↑i:Int)<(↑n:Int))) (fun h2 => ?_) (fun h2 => ?_)
  ·skip
   replace h2:=decT h2
   refine xO (n≤xs.length∧(0:Int)≤(↑i:Int)∧(↑i:Int)<(↑n:Int)) ⟨by omega,by omega,by omega⟩ ?_
   refine xO ((↑i:Int).toNat<xs.length) (by omega) ?_
   refine xO (ys.length≤ys.length∧(0:Int)≤(↑i:Int)∧(↑i:Int)<(↑ys.length:Int)) ⟨by omega,by omega,by omega⟩ ?_
   refine xO ((↑i:Int).toNat<ys.length) (by omega) ?_
   refine xB (xs.getD (↑i:Int).toNat (0:Int) != ys.getD (↑i:Int).toNat (0:Int)) (fun h3 => ?_) (fun h3 => ?_)
   ·skip
    replace h3:=ntT h3
    replace h3:=decF h3
    exact xR (false) ((decide_eq_false (take_ne (i:=i) (by omega) (by omega) (by assumption))).symm)
   ·skip
    replace h3:=ntF h3
    replace h3:=decT h3
    refine xO (InK IntKind.i64 (↑i+1)) (by simp only [InK] at *; omega) ?_
    exact xJ hJ (i+1) (by omega) ⟨by omega,take_step hI.2 (by omega) (by omega) (by assumption)⟩
  ·skip
   replace h2:=decF h2
   exact xR (true) ((decide_eq_true (by have hi:i=n:=(by omega); subst hi; rw [hI.2,List.take_of_length_le (by omega)])).symm)
end Go.Proofs.YthijdhenekmojaaGreatDoor
/- The model: what is read. -/
set_option linter.unusedSimpArgs false
set_option maxRecDepth 100000
set_option maxHeartbeats 0
namespace Go.Proofs.YthijdhenekmojaaGreatDoor
open Go.Sx
def TOk(c:Cfg)(T:TopM): Prop := ∀x∈T,x.2.1=true→x.2.2.xs.length=0∨fitsC c x.2.2.xs.length≥0
theorem tok_get{c:Cfg}{T:TopM}(h:TOk c T)(k:Int)(h1:((kget T k).getD (false,.nil)).1=true)(h2:((((kget T k).getD (false,.nil)).2.xs.length:Nat):Int)>0): fitsC c ((((kget T k).getD (false,.nil)).2.xs.length:Nat):Int)=0∨fitsC c ((((kget T k).getD (false,.nil)).2.xs.length:Nat):Int)=1:=by
 cases hk:kget T k with
 | none=>rw [hk] at h1; cases h1
 | some x=>
  obtain⟨k',hm⟩:=kget_mem hk
  rw [hk] at h1 h2
  simp only [Option.getD_some] at h1 h2 ⊢
  rcases h _ hm h1 with h3 | h3
  ·simp only at h3; omega
  ·simp only at h3
   unfold fitsC at h3 ⊢
   split <;> rename_i h4
   ·rw [if_pos h4] at h3; omega
   ·rw [if_neg h4] at h3
    split <;> rename_i h5
    ·exact .inl rfl
    ·rw [if_neg h5] at h3
     split <;> rename_i h6
     ·exact .inr rfl
     ·rw [if_neg h6] at h3; omega
def sizeB(c:Cfg)(lg:Bool)(xs:List Int): Int:=if (lg&&decide ((xs.length:Int)>0))=true then(if fitsC c xs.length=0 then c.s0 else c.s1) else c.small
def readB(c:Cfg)(lg:Bool)(xs:List Int)(is:Bool)(ws:List Int)(co:Int): Bool:=
 if co=0 then is&&decide ((xs.length:Int)>0)&&((ws.length:Int)==sizeB c lg xs)&&decide (ws.take xs.length=xs) else
 if co=12 then !is else if co=20 then is&&((xs.length:Int)==0) else decide (co=19∨co=17)
theorem t_fitsK(c:Cfg)(hc:c.Ok)(n:Int)(k:Int)(hk:fitsC c n=k): Ct Tryz.prog 59 (sU [.g (cfgS c),.s (.i .i64 n)] [] 0 [.s (.l .i64 k)] []):=by
 subst hk
 intro g
 refine ctr_post (t_fits c hc n g) ?_
 rintro v L ⟨x,ν,hx,rfl,rfl⟩
 have hx:x=fitsC c n:=hx
 subst hx
 exact⟨_,fun _ _ h=>h,(),ν,trivial,rfl,rfl⟩
abbrev rdC(c:Cfg)(lg:Bool)(xs:List Int)(z:Sx.Rest)(is:Bool)(sv tv hv kv:Value)(ws:List Int)(co n cm:Int): Prop:=
  Ct Tryz.prog 34 (⟨[.s (.p 0 0),.g [.i .i64 co,.s 2 ws.length,.o kv,.i .u64 n,.i .i64 cm],.g [.bo lg,.s 1 xs.length],.s (.bo is)],[.pts 0 (cfgS c++[.o sv,.o tv,.o hv]) 81,.rd 1 (encI .u64) 0 1 xs 42 z,.sl 2 (encI .u64) 0 1 ws 42],3,
   fun x=>x=readB c lg xs is ws co,fun x=>[.s (.bo x)],fun x=>[.pts 0 (cfgS c++[.o sv,.o tv,.o hv]) 81,.rd 1 (encI .u64) 0 1 xs 42 z,.sl 2 (encI .u64) 0 1 ws 42]⟩:Sp Bool)
theorem fits0_le{c:Cfg}{n:Int}(h:fitsC c n=0): n≤c.s0:=by unfold fitsC at h; split at h <;> (try split at h) <;> (try split at h) <;> omega
theorem fits1_le{c:Cfg}{n:Int}(h:fitsC c n=1): n≤c.s1:=by unfold fitsC at h; split at h <;> (try split at h) <;> (try split at h) <;> omega
theorem t_rd0(c:Cfg)(hc:c.Ok)(xs:List Int)(z:Sx.Rest)(is:Bool)(hf:fitsC c (xs.length:Int)=0)(hsz:(xs.length:Int)≤96)(sv tv hv kv:Value)(ws:List Int)(hl:ws.length≤1000000)(co n cm:Int): rdC c true xs z is sv tv hv kv ws co n cm:=by
 have hle:=fits0_le hf
 refine cX 84 xaI Tryz.func34 fun g F => ?_
 refine xN fun b1 => ?_
 refine xN fun b2 => ?_
 refine xB (co==0) (fun h3 => ?_) (fun h3 => ?_)
 ·skip
  replace h3:=decT h3
  refine xT (true) rfl ?_
  refine xB (decide ((↑xs.length:Int)>(0:Int))) (fun h4 => ?_) (fun h4 => ?_)
  ·skip
   replace h4:=decT h4
   refine xC Tryz.call59 (t_fitsK (c) (by omega) (↑xs.length) _ (by omega)) fun _ n6 _ => ?_
   refine xB (is) (fun h7 => ?_) (fun h7 => ?_)
   ·skip
    refine xT (decide ((↑xs.length:Int)>(0:Int))) (by first | (simp; done) | (simp; omega)) ?_
    refine xB (↑ws.length==c.s0) (fun h8 => ?_) (fun h8 => ?_)
    ·skip
     replace h8:=decT h8
     refine xCut 2 ((g 2).2) ((g 2).3) (encI IntKind.u64) (0) 1 (ws) 42 .i64 (↑xs.length) (.i 2) (show(0:Int)≤↑xs.length∧↑xs.length≤((ws).length:Int) by omega) ?_
     refine xC Tryz.call60 (t_equal (ws) (xs) (z) ((↑xs.length:Int).toNat) (xs.length) (by omega) (by omega) (by omega)) fun xn9 n9 hxn9 => ?_
     subst hxn9
     exact xR (decide (List.take (↑xs.length:Int).toNat ws=xs)) (by have e:decide ((xs.length:Int)>0)=true:=decide_eq_true (by omega); simp only [readB,sizeB,e]; simp [*]; done)
    ·skip
     replace h8:=decF h8
     exact xR (false) (by have e:decide ((xs.length:Int)>0)=true:=decide_eq_true (by omega); simp only [readB,sizeB,e]; simp [*]; done)
   ·skip
    exact xR (false) (by simp [readB,sizeB, *]; done)
  ·skip
   replace h4:=decF h4
   refine xB (is) (fun h10 => ?_) (fun h10 => ?_)
   ·skip
    refine xF (decide ((↑xs.length:Int)>(0:Int))) (by have e:decide ((xs.length:Int)>0)=false:=decide_eq_false (by omega); simp only [readB,sizeB,e]; first | done | (simp [*]; done)) ?_
    exact xR (false) (by have e:decide ((xs.length:Int)>0)=false:=decide_eq_false (by omega); simp only [readB,sizeB,e]; simp [*]; done)
   ·skip
    exact xR (false) (by simp [readB,sizeB, *]; done)
 ·skip
  replace h3:=decF h3
  refine xB (co==12) (fun h11 => ?_) (fun h11 => ?_)
  ·skip
   replace h11:=decT h11
   exact xR (!is) (by simp [readB,sizeB, *]; done)
  ·skip
   replace h11:=decF h11
   refine xB (co==20) (fun h12 => ?_) (fun h12 => ?_)
   ·skip
    replace h12:=decT h12
    refine xB (is) (fun h13 => ?_) (fun h13 => ?_)
    ·skip
     exact xR ((↑xs.length:Int)==(0:Int)) (by simp [readB,sizeB, *]; done)
    ·skip
     exact xR (false) (by simp [readB,sizeB, *]; done)
   ·skip
    replace h12:=decF h12
    refine xB (co==19) (fun h14 => ?_) (fun h14 => ?_)
    ·skip
     replace h14:=decT h14
     exact xR (true) (by simp [readB,sizeB, *]; done)
    ·skip
     replace h14:=decF h14
     refine xB (co==17) (fun h15 => ?_) (fun h15 => ?_)
     ·skip
      replace h15:=decT h15
      exact xR (true) (by simp [readB,sizeB, *]; done)
     ·skip
      replace h15:=decF h15
      exact xR (false) (by simp [readB,sizeB, *]; done)
theorem t_rd1(c:Cfg)(hc:c.Ok)(xs:List Int)(z:Sx.Rest)(is:Bool)(hf:fitsC c (xs.length:Int)=1)(hsz:(xs.length:Int)≤96)(sv tv hv kv:Value)(ws:List Int)(hl:ws.length≤1000000)(co n cm:Int): rdC c true xs z is sv tv hv kv ws co n cm:=by
 have hle:=fits1_le hf
 refine cX 84 xaI Tryz.func34 fun g F => ?_
 refine xN fun b1 => ?_
 refine xN fun b2 => ?_
 refine xB (co==0) (fun h3 => ?_) (fun h3 => ?_)
 ·skip
  replace h3:=decT h3
  refine xT (true) rfl ?_
  refine xB (decide ((↑xs.length:Int)>(0:Int))) (fun h4 => ?_) (fun h4 => ?_)
  ·skip
   replace h4:=decT h4
   refine xC Tryz.call59 (t_fitsK (c) (by omega) (↑xs.length) _ (by omega)) fun _ n6 _ => ?_
   refine xB (is) (fun h7 => ?_) (fun h7 => ?_)
   ·skip
    refine xT (decide ((↑xs.length:Int)>(0:Int))) (by first | (simp; done) | (simp; omega)) ?_
    refine xB (↑ws.length==c.s1) (fun h8 => ?_) (fun h8 => ?_)
    ·skip
     replace h8:=decT h8
     refine xCut 2 ((g 2).2) ((g 2).3) (encI IntKind.u64) (0) 1 (ws) 42 .i64 (↑xs.length) (.i 2) (show(0:Int)≤↑xs.length∧↑xs.length≤((ws).length:Int) by omega) ?_
     refine xC Tryz.call60 (t_equal (ws) (xs) (z) ((↑xs.length:Int).toNat) (xs.length) (by omega) (by omega) (by omega)) fun xn9 n9 hxn9 => ?_
     subst hxn9
     exact xR (decide (List.take (↑xs.length:Int).toNat ws=xs)) (by have e:decide ((xs.length:Int)>0)=true:=decide_eq_true (by omega); simp only [readB,sizeB,e]; simp [*]; done)
    ·skip
     replace h8:=decF h8
     exact xR (false) (by have e:decide ((xs.length:Int)>0)=true:=decide_eq_true (by omega); simp only [readB,sizeB,e]; simp [*]; done)
   ·skip
    exact xR (false) (by simp [readB,sizeB, *]; done)
  ·skip
   replace h4:=decF h4
   refine xB (is) (fun h10 => ?_) (fun h10 => ?_)
   ·skip
    refine xF (decide ((↑xs.length:Int)>(0:Int))) (by have e:decide ((xs.length:Int)>0)=false:=decide_eq_false (by omega); simp only [readB,sizeB,e]; first | done | (simp [*]; done)) ?_
    exact xR (false) (by have e:decide ((xs.length:Int)>0)=false:=decide_eq_false (by omega); simp only [readB,sizeB,e]; simp [*]; done)
   ·skip
    exact xR (false) (by simp [readB,sizeB, *]; done)
 ·skip
  replace h3:=decF h3
  refine xB (co==12) (fun h11 => ?_) (fun h11 => ?_)
  ·skip
   replace h11:=decT h11
   exact xR (!is) (by simp [readB,sizeB, *]; done)
  ·skip
   replace h11:=decF h11
   refine xB (co==20) (fun h12 => ?_) (fun h12 => ?_)
   ·skip
    replace h12:=decT h12
    refine xB (is) (fun h13 => ?_) (fun h13 => ?_)
    ·skip
     exact xR ((↑xs.length:Int)==(0:Int)) (by simp [readB,sizeB, *]; done)
    ·skip
     exact xR (false) (by simp [readB,sizeB, *]; done)
   ·skip
    replace h12:=decF h12
    refine xB (co==19) (fun h14 => ?_) (fun h14 => ?_)
    ·skip
     replace h14:=decT h14
     exact xR (true) (by simp [readB,sizeB, *]; done)
    ·skip
     replace h14:=decF h14
     refine xB (co==17) (fun h15 => ?_) (fun h15 => ?_)
     ·skip
      replace h15:=decT h15
      exact xR (true) (by simp [readB,sizeB, *]; done)
     ·skip
      replace h15:=decF h15
      exact xR (false) (by simp [readB,sizeB, *]; done)
theorem t_rd2(c:Cfg)(hc:c.Ok)(xs:List Int)(h0:(xs.length:Int)=0)(z:Sx.Rest)(is:Bool)(sv tv hv kv:Value)(ws:List Int)(hl:ws.length≤1000000)(co n cm:Int): rdC c true xs z is sv tv hv kv ws co n cm:=by
 refine cX 84 xaI Tryz.func34 fun g F => ?_
 refine xN fun b1 => ?_
 refine xN fun b2 => ?_
 refine xB (co==0) (fun h3 => ?_) (fun h3 => ?_)
 ·skip
  replace h3:=decT h3
  refine xT (true) rfl ?_
  refine xF (decide ((↑xs.length:Int)>(0:Int))) (by simp [*]; done) ?_
  refine xB (is) (fun h4 => ?_) (fun h4 => ?_)
  ·skip
   refine xF (decide ((↑xs.length:Int)>(0:Int))) (by simp [*]; done) ?_
   exact xR (false) (by simp [readB,sizeB, *]; done)
  ·skip
   exact xR (false) (by simp [readB,sizeB, *]; done)
 ·skip
  replace h3:=decF h3
  refine xB (co==12) (fun h5 => ?_) (fun h5 => ?_)
  ·skip
   replace h5:=decT h5
   exact xR (!is) (by simp [readB,sizeB, *]; done)
  ·skip
   replace h5:=decF h5
   refine xB (co==20) (fun h6 => ?_) (fun h6 => ?_)
   ·skip
    replace h6:=decT h6
    refine xB (is) (fun h7 => ?_) (fun h7 => ?_)
    ·skip
     exact xR ((↑xs.length:Int)==(0:Int)) (by simp [readB,sizeB, *]; done)
    ·skip
     exact xR (false) (by simp [readB,sizeB, *]; done)
   ·skip
    replace h6:=decF h6
    refine xB (co==19) (fun h8 => ?_) (fun h8 => ?_)
    ·skip
     replace h8:=decT h8
     exact xR (true) (by simp [readB,sizeB, *]; done)
    ·skip
     replace h8:=decF h8
     refine xB (co==17) (fun h9 => ?_) (fun h9 => ?_)
     ·skip
      replace h9:=decT h9
      exact xR (true) (by simp [readB,sizeB, *]; done)
     ·skip
      replace h9:=decF h9
      exact xR (false) (by simp [readB,sizeB, *]; done)
theorem t_rd3(c:Cfg)(hc:c.Ok)(xs:List Int)(z:Sx.Rest)(is:Bool)(hsz:(xs.length:Int)≤c.small)(sv tv hv kv:Value)(ws:List Int)(hl:ws.length≤1000000)(co n cm:Int): rdC c false xs z is sv tv hv kv ws co n cm:=by
 refine cX 84 xaI Tryz.func34 fun g F => ?_
 refine xN fun b1 => ?_
 refine xN fun b2 => ?_
 refine xB (co==0) (fun h3 => ?_) (fun h3 => ?_)
 ·skip
  replace h3:=decT h3
  refine xF (false) rfl ?_
  refine xB (is) (fun h4 => ?_) (fun h4 => ?_)
  ·skip
   refine xB (decide ((↑xs.length:Int)>(0:Int))) (fun h5 => ?_) (fun h5 => ?_)
   ·skip
    replace h5:=decT h5
    refine xB (↑ws.length==c.small) (fun h6 => ?_) (fun h6 => ?_)
    ·skip
     replace h6:=decT h6
     refine xCut 2 ((g 2).2) ((g 2).3) (encI IntKind.u64) (0) 1 (ws) 42 .i64 (↑xs.length) (.i 2) (show(0:Int)≤↑xs.length∧↑xs.length≤((ws).length:Int) by omega) ?_
     refine xC Tryz.call60 (t_equal (ws) (xs) (z) ((↑xs.length:Int).toNat) (xs.length) (by omega) (by omega) (by omega)) fun xn7 n7 hxn7 => ?_
     subst hxn7
     exact xR (decide (List.take (↑xs.length:Int).toNat ws=xs)) (by have e:decide ((xs.length:Int)>0)=true:=decide_eq_true (by omega); simp only [readB,sizeB,e]; simp [*]; done)
    ·skip
     replace h6:=decF h6
     exact xR (false) (by simp [readB,sizeB, *]; done)
   ·skip
    replace h5:=decF h5
    exact xR (false) (by have e:decide ((xs.length:Int)>0)=false:=decide_eq_false (by omega); simp only [readB,sizeB,e]; simp [*]; done)
  ·skip
   exact xR (false) (by simp [readB,sizeB, *]; done)
 ·skip
  replace h3:=decF h3
  refine xB (co==12) (fun h8 => ?_) (fun h8 => ?_)
  ·skip
   replace h8:=decT h8
   exact xR (!is) (by simp [readB,sizeB, *]; done)
  ·skip
   replace h8:=decF h8
   refine xB (co==20) (fun h9 => ?_) (fun h9 => ?_)
   ·skip
    replace h9:=decT h9
    refine xB (is) (fun h10 => ?_) (fun h10 => ?_)
    ·skip
     exact xR ((↑xs.length:Int)==(0:Int)) (by simp [readB,sizeB, *]; done)
    ·skip
     exact xR (false) (by simp [readB,sizeB, *]; done)
   ·skip
    replace h9:=decF h9
    refine xB (co==19) (fun h11 => ?_) (fun h11 => ?_)
    ·skip
     replace h11:=decT h11
     exact xR (true) (by simp [readB,sizeB, *]; done)
    ·skip
     replace h11:=decF h11
     refine xB (co==17) (fun h12 => ?_) (fun h12 => ?_)
     ·skip
      replace h12:=decT h12
      exact xR (true) (by simp [readB,sizeB, *]; done)
     ·skip
      replace h12:=decF h12
      exact xR (false) (by simp [readB,sizeB, *]; done)
theorem t_rd(c:Cfg)(hc:c.Ok)(lg:Bool)(xs:List Int)(z:Sx.Rest)(m1:Nat)(hm1:xs.length=m1)(is:Bool)(ht:lg=true→(xs.length:Int)>0→fitsC c (xs.length:Int)=0∨fitsC c (xs.length:Int)=1)(hsz:(xs.length:Int)≤96)(hsm:lg=false→(xs.length:Int)≤c.small)(sv tv hv kv:Value)(ws:List Int)(m:Nat)(hm:ws.length=m)(hl:ws.length≤1000000)(co n cm:Int):
  Ct Tryz.prog 34 (⟨[.s (.p 0 0),.g [.i .i64 co,.s 2 m,.o kv,.i .u64 n,.i .i64 cm],.g [.bo lg,.s 1 m1],.s (.bo is)],[.pts 0 (cfgS c++[.o sv,.o tv,.o hv]) 81,.rd 1 (encI .u64) 0 1 xs 42 z,.sl 2 (encI .u64) 0 1 ws 42],3,
   fun x=>x=readB c lg xs is ws co,fun x=>[.s (.bo x)],fun x=>[.pts 0 (cfgS c++[.o sv,.o tv,.o hv]) 81,.rd 1 (encI .u64) 0 1 xs 42 z,.sl 2 (encI .u64) 0 1 ws 42]⟩:Sp Bool):=by
 subst hm
 subst hm1
 cases lg with
 | false=>exact t_rd3 c hc xs z is (hsm rfl) sv tv hv kv ws hl co n cm
 | true=>
  cases xs with
  | nil=>exact t_rd2 c hc [] rfl z is sv tv hv kv ws hl co n cm
  | cons x xs=>
   rcases ht rfl (by simp only [List.length_cons]; omega) with h | h
   ·exact t_rd0 c hc _ z is h hsz sv tv hv kv ws hl co n cm
   ·exact t_rd1 c hc _ z is h hsz sv tv hv kv ws hl co n cm
end Go.Proofs.YthijdhenekmojaaGreatDoor
/- The model: what is read, as it is done. -/
set_option linter.unusedSimpArgs false
set_option maxRecDepth 100000
set_option maxHeartbeats 0
namespace Go.Proofs.YthijdhenekmojaaGreatDoor
open Go.Sx
/-- topics have what fits -/
structure TOkS (c:Cfg) (T:TopM):Prop where
 sz:∀k,((((kget T k).getD (false,.nil)).2.xs.length:Nat):Int)≤96
 sm:∀k,((kget T k).getD (false,.nil)).1=false→((((kget T k).getD (false,.nil)).2.xs.length:Nat):Int)≤c.small
 lg:∀k,((kget T k).getD (false,.nil)).1=true→((((kget T k).getD (false,.nil)).2.xs.length:Nat):Int)>0→fitsC c ((((kget T k).getD (false,.nil)).2.xs.length:Nat):Int)=0∨fitsC c ((((kget T k).getD (false,.nil)).2.xs.length:Nat):Int)=1
def readD(c:Cfg)(T:TopM)(ke:Int)(ws:List Int)(co:Int): Bool:=
 if mayB ke=false then co==1 else readB c ((kget T ke).getD (false,.nil)).1 ((kget T ke).getD (false,.nil)).2.xs (kget T ke).isSome ws co
theorem t_doRead(c:Cfg)(hc:c.Ok)(T:TopM)(ht:TOkS c T)(H:HanM)(ps:List PRow)(hp:PoolOk T H ps)(mt mh:Nat)(sv:Value)(cl ke:Int)(la:Bool)(ws:List Int)(m:Nat)(hm:ws.length=m)(hl:ws.length≤1000000)(wo pa rk:Value)(ha co n cm fr to_:Int):
  Ct Tryz.prog 13 (⟨[.s (.p 0 0),.g (dS cl 4 ke la (.o wo) ha (.o pa) co (.s 3 m) (.o rk) n cm fr to_)],[mdl2 c (.o sv) mt mh,topR mt T,hpR mh H ps,.sl 3 (encI .u64) 0 1 ws 42],4,
   fun x=>x=readD c T ke ws co,fun x=>[.s (.bo x)],fun x=>[mdl2 c (.o sv) mt mh,topR mt T,hpR mh H ps,.sl 3 (encI .u64) 0 1 ws 42]⟩:Sp Bool):=by
 subst hm
 have hp':=pool_row hp ke
 refine cXv 148 xaI Tryz.func13 _ ⟨[(0,(cfgS c++[SV.o sv,SV.mb 1 mt,SV.mb 2 mh]).map (SV.g id)),(1,[]),(3,[]),(2,[]),(4,[])],5⟩ (fun g=>hp_at (te:=42) (mh:=mh) (H:=H) (ps:=ps) 2) fun g F => ?_
 refine xN fun b1 => ?_
 refine xC Tryz.call31 (t_start (c) (by omega) (ke)) fun xn2 n2 hxn2 => ?_
 refine xB (decide (xn2<0)) (fun h3 => ?_) (fun h3 => ?_)
 ·skip
  replace h3:=decT h3
  refine xEnd [3,4] [.res (KMap mh ekP PRow.v (H)),.res (Pool 42 (ps))] 2 (HP 42 mh (H) (ps)) pv_fold ?_
  exact xR (co==1) (by have hm:=hxn2.1 (by assumption); simp [readD,hm])
 ·skip
  replace h3:=decF h3
  refine xA ?_ ?_
  ·skip
   refine xMp 1 4 (mt) (T) (evT) 42 kI (ke) (false,PRow.nil) true (·.2) (ps) (fun x=>.l [.l [.n,.i x],.n]) (pool_row hp _) ?_
   refine xN fun b4 => ?_
   refine xC Tryz.call34 (t_rd (c) (by omega) (((kget T ke).getD (false,PRow.nil)).fst) (((kget T ke).getD (false,PRow.nil)).snd.xs) (((kget T ke).getD (false,PRow.nil)).snd.r) (((kget T ke).getD (false,PRow.nil)).snd.xs.length) (by omega) ((kget T ke).isSome) (ht.lg _) (ht.sz _) (ht.sm _) (SV.v g (SV.o sv)) (SV.v g (SV.mb 1 mt)) (SV.v g (SV.mb 2 mh)) (SV.v g (SV.o rk)) (ws) (ws.length) (by omega) (by omega) (co) (n) (cm)) fun xn6 n6 hxn6 => ?_
   subst hxn6
   refine xEnd [1,3,6] [.res (KMap mh ekP PRow.v (H)),.res (PoolX 42 (ps) (((kget T ke).getD (false,PRow.nil)).snd)),PRow.ent 42 (((kget T ke).getD (false,PRow.nil)).snd)] 2 (HP 42 mh (H) (ps)) pv_end0 ?_
   exact xR (readB c ((kget T ke).getD (false,PRow.nil)).fst ((kget T ke).getD (false,PRow.nil)).snd.xs (kget T ke).isSome ws co) (by have hm:=may_of hxn2 (by assumption); simp [readD,hm])
  ·skip
   refine xN fun b7 => ?_
   refine xMp 1 4 (mt) (T) (evT) 42 kI (ke) (false,PRow.nil) true (·.2) (ps) (fun x=>.l [.l [.n,.i x],.n]) (pool_row hp _) ?_
   refine xC Tryz.call34 (t_rd (c) (by omega) (((kget T ke).getD (false,PRow.nil)).fst) (((kget T ke).getD (false,PRow.nil)).snd.xs) (((kget T ke).getD (false,PRow.nil)).snd.r) (((kget T ke).getD (false,PRow.nil)).snd.xs.length) (by omega) ((kget T ke).isSome) (ht.lg _) (ht.sz _) (ht.sm _) (SV.v g (SV.o sv)) (SV.v g (SV.mb 1 mt)) (SV.v g (SV.mb 2 mh)) (SV.v g (SV.o rk)) (ws) (ws.length) (by omega) (by omega) (co) (n) (cm)) fun xn9 n9 hxn9 => ?_
   subst hxn9
   refine xEnd [1,4,6] [.res (KMap mh ekP PRow.v (H)),.res (PoolX 42 (ps) (((kget T ke).getD (false,PRow.nil)).snd)),PRow.ent 42 (((kget T ke).getD (false,PRow.nil)).snd)] 2 (HP 42 mh (H) (ps)) pv_end0 ?_
   exact xR (readB c ((kget T ke).getD (false,PRow.nil)).fst ((kget T ke).getD (false,PRow.nil)).snd.xs (kget T ke).isSome ws co) (by have hm:=may_of hxn2 (by assumption); simp [readD,hm])
end Go.Proofs.YthijdhenekmojaaGreatDoor
/- The model: what is pinned. -/
set_option linter.unusedSimpArgs false
set_option maxRecDepth 100000
set_option maxHeartbeats 0
namespace Go.Proofs.YthijdhenekmojaaGreatDoor
open Go.Sx
structure RH where
 b:Bool
 H:HanM
def pinB(lg:Bool)(k:Nat)(is:Bool)(co:Int): Bool:=
 if co=0 then is&&lg&&decide ((k:Int)>0) else
 if co=12 then !is else if co=24 then is && !lg else
 if co=20 then is&&lg && !decide ((k:Int)>0) else decide (co=19∨co=17)
def pinR(H:HanM)(p:PRow)(lg is:Bool)(cl co n:Int)(x:RH): Prop:=
 x.b=pinB lg p.xs.length is co∧x.H=if (decide (co=0)&&(is&&lg&&decide ((p.xs.length:Int)>0)))=true then kset H (cl,n) p else H
theorem t_pin(c:Cfg)(p:PRow)(H:HanM)(ps:List PRow)(mt mh:Nat)(sv:Value)(cl ki ke:Int)(la lg is:Bool)(wo pa rw rk:Value)(ha co n cm fr to_:Int)(hn:0≤n∧n≤1000000):
  Ct Tryz.prog 35 (⟨[.s (.p 0 0),.g (dS cl ki ke la (.o wo) ha (.o pa) co (.o rw) (.o rk) n cm fr to_),.g [.bo lg,.o (.slice p.a p.xs.length p.c)],.s (.bo is)],[.pts 0 (cfgS c++[.o sv,.mb 1 mt,.mb 2 mh]) 81,hpR mh H ps],3,
   pinR H p lg is cl co n,fun x=>[.s (.bo x.b)],fun x=>[.pts 0 (cfgS c++[.o sv,.mb 1 mt,.mb 2 mh]) 81,hpR mh x.H ps]⟩:Sp RH):=by
 refine cXv 75 xaI Tryz.func35 _ ⟨[(0,(cfgS c++[SV.o sv,SV.mb 1 mt,SV.mb 2 mh]).map (SV.g id)),(2,[]),(4,[])],5⟩ (fun g=>hp_at (te:=42) (mh:=mh) (H:=H) (ps:=ps) 1) fun g F => ?_
 refine xN fun b1 => ?_
 refine xN fun b2 => ?_
 refine xB (co==0) (fun h3 => ?_) (fun h3 => ?_)
 ·skip
  replace h3:=decT h3
  refine xB (is) (fun h4 => ?_) (fun h4 => ?_)
  ·skip
   refine xB (lg) (fun h5 => ?_) (fun h5 => ?_)
   ·skip
    refine xB (decide ((↑p.xs.length:Int)>(0:Int))) (fun h6 => ?_) (fun h6 => ?_)
    ·skip
     replace h6:=decT h6
     refine xO (InK IntKind.i64 n) (by simp only [InK] at *; omega) ?_
     refine xMs 1 (mh) (H) (PRow.v) kH (cl,n) (p) ?_
     refine xT (is) (by assumption) ?_
     refine xT (lg) (by assumption) ?_
     refine xEnd [1,2] [.res (KMap mh ekP PRow.v (kset H (cl,n) p)),.res (Pool 42 (ps))] 2 (HP 42 mh (kset H (cl,n) p) (ps)) pv_fold ?_
     exact xR ({b:=true,H:=kset H (cl,n) p}) (by have e:decide ((p.xs.length:Int)>0)=true:=decide_eq_true (by omega); simp only [pinR,pinB,e]; simp [*]; done)
    ·skip
     replace h6:=decF h6
     refine xT (is) (by assumption) ?_
     refine xT (lg) (by assumption) ?_
     refine xEnd [1,2] [.res (KMap mh ekP PRow.v (H)),.res (Pool 42 (ps))] 2 (HP 42 mh (H) (ps)) pv_fold ?_
     exact xR ({b:=false,H:=H}) (by have e:decide ((p.xs.length:Int)>0)=false:=decide_eq_false (by omega); simp only [pinR,pinB,e]; simp [*]; done)
   ·skip
    refine xT (is) (by assumption) ?_
    refine xF (lg) (by assumption) ?_
    refine xEnd [1,2] [.res (KMap mh ekP PRow.v (H)),.res (Pool 42 (ps))] 2 (HP 42 mh (H) (ps)) pv_fold ?_
    exact xR ({b:=false,H:=H}) (by simp [pinR,pinB, *]; done)
  ·skip
   refine xF (is) (by assumption) ?_
   refine xEnd [1,2] [.res (KMap mh ekP PRow.v (H)),.res (Pool 42 (ps))] 2 (HP 42 mh (H) (ps)) pv_fold ?_
   exact xR ({b:=false,H:=H}) (by simp [pinR,pinB, *]; done)
 ·skip
  replace h3:=decF h3
  refine xB (co==12) (fun h7 => ?_) (fun h7 => ?_)
  ·skip
   replace h7:=decT h7
   refine xEnd [1,2] [.res (KMap mh ekP PRow.v (H)),.res (Pool 42 (ps))] 2 (HP 42 mh (H) (ps)) pv_fold ?_
   exact xR ({b := !is,H:=H}) (by simp [pinR,pinB, *]; done)
  ·skip
   replace h7:=decF h7
   refine xB (co==24) (fun h8 => ?_) (fun h8 => ?_)
   ·skip
    replace h8:=decT h8
    refine xB (is) (fun h9 => ?_) (fun h9 => ?_)
    ·skip
     refine xEnd [1,2] [.res (KMap mh ekP PRow.v (H)),.res (Pool 42 (ps))] 2 (HP 42 mh (H) (ps)) pv_fold ?_
     exact xR ({b := !lg,H:=H}) (by simp [pinR,pinB, *]; done)
    ·skip
     refine xEnd [1,2] [.res (KMap mh ekP PRow.v (H)),.res (Pool 42 (ps))] 2 (HP 42 mh (H) (ps)) pv_fold ?_
     exact xR ({b:=false,H:=H}) (by simp [pinR,pinB, *]; done)
   ·skip
    replace h8:=decF h8
    refine xB (co==20) (fun h10 => ?_) (fun h10 => ?_)
    ·skip
     replace h10:=decT h10
     refine xB (is) (fun h11 => ?_) (fun h11 => ?_)
     ·skip
      refine xB (lg) (fun h12 => ?_) (fun h12 => ?_)
      ·skip
       refine xEnd [1,2] [.res (KMap mh ekP PRow.v (H)),.res (Pool 42 (ps))] 2 (HP 42 mh (H) (ps)) pv_fold ?_
       exact xR ({b := !decide ((↑p.xs.length:Int)>(0:Int)),H:=H}) (by simp [pinR,pinB, *]; done)
      ·skip
       refine xEnd [1,2] [.res (KMap mh ekP PRow.v (H)),.res (Pool 42 (ps))] 2 (HP 42 mh (H) (ps)) pv_fold ?_
       exact xR ({b:=false,H:=H}) (by simp [pinR,pinB, *]; done)
     ·skip
      refine xEnd [1,2] [.res (KMap mh ekP PRow.v (H)),.res (Pool 42 (ps))] 2 (HP 42 mh (H) (ps)) pv_fold ?_
      exact xR ({b:=false,H:=H}) (by simp [pinR,pinB, *]; done)
    ·skip
     replace h10:=decF h10
     refine xB (co==19) (fun h13 => ?_) (fun h13 => ?_)
     ·skip
      replace h13:=decT h13
      refine xEnd [1,2] [.res (KMap mh ekP PRow.v (H)),.res (Pool 42 (ps))] 2 (HP 42 mh (H) (ps)) pv_fold ?_
      exact xR ({b:=true,H:=H}) (by simp [pinR,pinB, *]; done)
     ·skip
      replace h13:=decF h13
      refine xB (co==17) (fun h14 => ?_) (fun h14 => ?_)
      ·skip
       replace h14:=decT h14
       refine xEnd [1,2] [.res (KMap mh ekP PRow.v (H)),.res (Pool 42 (ps))] 2 (HP 42 mh (H) (ps)) pv_fold ?_
       exact xR ({b:=true,H:=H}) (by simp [pinR,pinB, *]; done)
      ·skip
       replace h14:=decF h14
       refine xEnd [1,2] [.res (KMap mh ekP PRow.v (H)),.res (Pool 42 (ps))] 2 (HP 42 mh (H) (ps)) pv_fold ?_
       exact xR ({b:=false,H:=H}) (by simp [pinR,pinB, *]; done)
end Go.Proofs.YthijdhenekmojaaGreatDoor
/- The model: what is pinned, as it is done; what a topic is. -/
set_option linter.unusedSimpArgs false
set_option maxRecDepth 100000
set_option maxHeartbeats 0
namespace Go.Proofs.YthijdhenekmojaaGreatDoor
open Go.Sx
def doPinR(T:TopM)(H:HanM)(ke cl co n:Int)(x:RH): Prop:=
 if mayB ke=false then x=⟨co==1,H⟩ else pinR H ((kget T ke).getD (false,.nil)).2 ((kget T ke).getD (false,.nil)).1 (kget T ke).isSome cl co n x
theorem doPin_a{T:TopM}{H:HanM}{ke cl co n:Int}(h:mayB ke=false): doPinR T H ke cl co n ⟨co==1,H⟩:=by unfold doPinR; rw [if_pos h]
theorem doPin_b{T:TopM}{H:HanM}{ke cl co n:Int}{y:RH}(h:mayB ke=true)(hy:pinR H ((kget T ke).getD (false,.nil)).2 ((kget T ke).getD (false,.nil)).1 (kget T ke).isSome cl co n y): doPinR T H ke cl co n y:=by
 unfold doPinR
 rw [if_neg (by rw [h]; decide)]
 exact hy
theorem t_doPin(c:Cfg)(hc:c.Ok)(T:TopM)(H:HanM)(ps:List PRow)(mt mh:Nat)(sv:Value)(cl ke:Int)(la:Bool)(wo pa rw rk:Value)(ha co n cm fr to_:Int)(hn:0≤n∧n≤1000000):
  Ct Tryz.prog 13 (⟨[.s (.p 0 0),.g (dS cl 5 ke la (.o wo) ha (.o pa) co (.o rw) (.o rk) n cm fr to_)],[mdl2 c (.o sv) mt mh,topR mt T,hpR mh H ps],3,
   doPinR T H ke cl co n,fun x=>[.s (.bo x.b)],fun x=>[mdl2 c (.o sv) mt mh,topR mt T,hpR mh x.H ps]⟩:Sp RH):=by
 refine cX 148 xaI Tryz.func13 fun g F => ?_
 refine xN fun b1 => ?_
 refine xC Tryz.call31 (t_start (c) (by omega) (ke)) fun xn2 n2 hxn2 => ?_
 refine xB (decide (xn2<0)) (fun h3 => ?_) (fun h3 => ?_)
 ·skip
  replace h3:=decT h3
  exact xR ({b:=co==1,H:=H}) (doPin_a (hxn2.1 (by assumption)))
 ·skip
  replace h3:=decF h3
  refine xA ?_ ?_
  ·skip
   refine xMg 1 (mt) (T) (evT) kI (ke) (false,PRow.nil) true ?_
   refine xN fun b4 => ?_
   refine xC Tryz.call35 (t_pin (c) (((kget T ke).getD (false,PRow.nil)).snd) (H) (ps) (mt) (mh) (sv) (cl) (5) (ke) (la) (((kget T ke).getD (false,PRow.nil)).fst) ((kget T ke).isSome) (wo) (pa) (rw) (rk) (ha) (co) (n) (cm) (fr) (to_) (by omega)) fun xn6 n6 hxn6 => ?_
   exact xR (xn6) (doPin_b (may_of hxn2 (by assumption)) hxn6)
  ·skip
   refine xN fun b7 => ?_
   refine xMg 1 (mt) (T) (evT) kI (ke) (false,PRow.nil) true ?_
   refine xC Tryz.call35 (t_pin (c) (((kget T ke).getD (false,PRow.nil)).snd) (H) (ps) (mt) (mh) (sv) (cl) (5) (ke) (la) (((kget T ke).getD (false,PRow.nil)).fst) ((kget T ke).isSome) (wo) (pa) (rw) (rk) (ha) (co) (n) (cm) (fr) (to_) (by omega)) fun xn9 n9 hxn9 => ?_
   exact xR (xn9) (doPin_b (may_of hxn2 (by assumption)) hxn9)
end Go.Proofs.YthijdhenekmojaaGreatDoor
/- The law's config. -/
set_option linter.unusedSimpArgs false
set_option maxRecDepth 100000
set_option maxHeartbeats 0
namespace Go.Proofs.YthijdhenekmojaaGreatDoor
open Go.Sx
def cf(t:Int): Cfg:={topics:=t,small:=4,slots:=2,clients:=3,s0:=5,n0:=2,s1:=8,n1:=2,retry:=2}
theorem cf_ok{t:Int}(h:1≤t∧t≤4): (cf t).Ok:=by simp only [Cfg.Ok,cf]; omega
theorem and3(n:Int): 0≤IntKind.i64.wrap (↑(BitVec.ofInt IntKind.i64.bits n &&& BitVec.ofInt IntKind.i64.bits 3).toNat)∧IntKind.i64.wrap (↑(BitVec.ofInt IntKind.i64.bits n &&& BitVec.ofInt IntKind.i64.bits 3).toNat)≤3:=by
 have h:(BitVec.ofInt IntKind.i64.bits n &&& BitVec.ofInt IntKind.i64.bits 3).toNat≤3:=by
  rw [BitVec.toNat_and]
  exact Nat.le_trans Nat.and_le_right (by decide)
 have h2:IntKind.i64.wrap (((BitVec.ofInt IntKind.i64.bits n &&& BitVec.ofInt IntKind.i64.bits 3).toNat:Nat):Int)=(((BitVec.ofInt IntKind.i64.bits n &&& BitVec.ofInt IntKind.i64.bits 3).toNat:Nat):Int):=by
  apply wrap_in
  simp only [InK]
  omega
 rw [h2]
 omega
theorem t_config(n:Int): Ct Tryz.prog 9 (⟨[.s (.i .i64 n)],[],0,fun t=>1≤t∧t≤4,fun t=>[.g (cfgS (cf t))],fun _=>[]⟩:Sp Int):=by
 refine cX 8 xaI Tryz.func9 fun g F => ?_
 refine xN fun b1 => ?_
 refine xO (InK IntKind.i64 (1+IntKind.i64.wrap ↑(BitVec.ofInt IntKind.i64.bits n &&& BitVec.ofInt IntKind.i64.bits 3).toNat)) (by have:=and3 n; simp only [InK]; omega) ?_
 refine xN fun b2 => ?_
 refine xN fun b3 => ?_
 refine xN fun b4 => ?_
 exact xR (1+IntKind.i64.wrap ↑(BitVec.ofInt IntKind.i64.bits n &&& BitVec.ofInt IntKind.i64.bits 3).toNat) (by have:=and3 n; show 1≤(1:Int) + _∧(1:Int) + _≤4; omega)
end Go.Proofs.YthijdhenekmojaaGreatDoor
/- What the model of ModelReads becomes, op by op. -/
set_option linter.unusedSimpArgs false
namespace Go.Proofs.YthijdhenekmojaaGreatDoor
open Go.Sx
theorem rs_create{t:Int}(h:1≤t∧t≤4): createM (cf t) [] 1 true 0=⟨true,[(1,true,.nil)]⟩:=by
 unfold createM
 rw [if_neg (by decide),if_pos rfl,if_neg]
 ·rfl
 ·rintro(h1 | h1)
  ·cases h1
  ·simp [cf] at h1; omega
theorem fits5{t:Int}{n:Nat}(h1:1≤n)(h2:n≤5): fitsC (cf t) (n:Int)=0:=by
 unfold fitsC
 rw [if_neg (by omega),if_pos (by show(5:Int)≥n; omega)]
theorem rs_pub{t:Int}{p:PRow}{ps:List PRow}{ws:List Int}{x:RQ}(h1:1≤ws.length)(h2:ws.length≤5)(h:doPubR (cf t) [(1,true,p)] ps 1 ws 0 x): ∃q:PRow,q.xs=ws∧x=⟨true,[(1,true,q)],ps++[q]⟩:=by
 unfold doPubR at h
 rw [if_neg (by
  rintro(h | h)
  ·exact absurd h (by decide)
  ·omega)] at h
 have hk:kget ([(1,true,p)]:TopM) 1=some (true,p):=rfl
 rw [hk] at h
 have hf:fitT (cf t) true (ws.length:Int)=true:=by
  unfold fitT
  rw [if_pos rfl,fits5 h1 h2]
  rfl
 obtain⟨hb,hs⟩:=h
 have hK:pubK' (cf t) true true (ws.length:Int) 0=true:=by
  unfold pubK'; rw [hf]; rfl
 simp only [Option.getD_some,Option.isSome_some] at hb hs
 rw [if_pos hK] at hs
 obtain⟨q,hq,hT,hps⟩:=hs
 refine⟨q,hq, ?_⟩
 have hB:x.b=true:=by
  rw [hb]; unfold pubB'; rw [if_pos rfl,hf]; rfl
 cases x with
 | mk b T ps'=>
  simp only at hB hT hps
  subst hB hT hps
  rfl
theorem rs_pin{p:PRow}{H:HanM}{cl:Int}{x:RH}(h1:1≤p.xs.length)(h:doPinR [(1,true,p)] H 1 cl 0 0 x): x=⟨true,kset H (cl,0) p⟩:=by
 unfold doPinR at h
 rw [if_neg (by decide)] at h
 have hk:kget ([(1,true,p)]:TopM) 1=some (true,p):=rfl
 rw [hk] at h
 obtain⟨hb,hH⟩:=h
 have hd:decide ((p.xs.length:Int)>0)=true:=decide_eq_true (by omega)
 simp only [Option.getD_some,Option.isSome_some] at hb hH
 have hB:x.b=true:=by
  rw [hb]; unfold pinB; rw [if_pos rfl,hd]; rfl
 rw [if_pos (by rw [hd]; rfl)] at hH
 cases x with
 | mk b H'=>
  simp only at hB hH
  subst hB hH
  rfl
theorem rs_read{t:Int}{p:PRow}{ws:List Int}(h1:1≤p.xs.length)(h2:p.xs.length≤5)(hw:ws.length=5): readD (cf t) [(1,true,p)] 1 ws 0=decide (ws.take p.xs.length=p.xs):=by
 unfold readD
 rw [if_neg (by decide)]
 have hk:kget ([(1,true,p)]:TopM) 1=some (true,p):=rfl
 rw [hk]
 have hd:decide ((p.xs.length:Int)>0)=true:=decide_eq_true (by omega)
 simp only [Option.getD_some,Option.isSome_some]
 unfold readB
 rw [if_pos rfl,hd]
 have hz:sizeB (cf t) true p.xs=5:=by
  unfold sizeB
  rw [hd,fits5 h1 h2]
  rfl
 rw [hz,hw]
 simp
theorem rs_ok{t:Int}{p:PRow}(h2:p.xs.length≤5): TOkS (cf t) [(1,true,p)]:=by
 have key:∀k,(kget ([(1,true,p)]:TopM) k).getD (false,.nil)=(true,p)∨(kget ([(1,true,p)]:TopM) k).getD (false,.nil)=(false,.nil):=by
  intro k
  unfold kget
  by_cases h:((1:Int)==k)=true
  ·left; simp [List.find?_cons,h]
  ·right
   have h':((1:Int)==k)=false:=by simpa using h
   simp [List.find?_cons,h']
 refine⟨?_, ?_, ?_⟩
 ·intro k
  rcases key k with h | h <;> rw [h]
  ·show(p.xs.length:Int)≤96; omega
  ·show(0:Int)≤96; omega
 ·intro k hk
  rcases key k with h | h <;> rw [h] at hk ⊢
  ·cases hk
  ·show(0:Int)≤4; omega
 ·intro k hk hp
  rcases key k with h | h <;> rw [h] at hk hp ⊢
  ·left
   have:(p.xs.length:Int)>0:=hp
   exact fits5 (by omega) h2
  ·cases hk
end Go.Proofs.YthijdhenekmojaaGreatDoor
/- Rows that the law makes, and compares. -/
set_option linter.unusedSimpArgs false
set_option maxRecDepth 100000
set_option maxHeartbeats 0
namespace Go.Proofs.YthijdhenekmojaaGreatDoor
open Go.Sx
def xl: Cx:={xa with unroll:=[]}
theorem xlI: Inl Tryz.prog xl:=⟨xaI.1,xaI.2⟩
abbrev sL(args:List SA)(pre:List SE)(n:Nat)(ys:List Int)(post:List Int→List SE): Sp (List Int):=⟨args,pre,n,fun x=>x=ys,fun x=>[.s (.s 1 x.length)],post⟩
theorem t_sameS(xs ys:List Int)(n m:Nat)(hn:xs.length=n)(hm:m≤ys.length)(hl:xs.length≤1000000): Ct Tryz.prog 19 (sB [.s (.s 0 n),.s (.s 1 m)] [.sl 0 (encI .u64) 0 1 xs 42,.sl 1 (encI .u64) 0 1 ys 42] 2 (decide (ys.take m=xs)) [.sl 0 (encI .u64) 0 1 xs 42,.sl 1 (encI .u64) 0 1 ys 42]):=by
 subst hn
 refine cX 26 xlI Tryz.func19 fun g F => ?_
 refine xB ((↑xs.length:Int) != (↑m:Int)) (fun h1 => ?_) (fun h1 => ?_)
 ·skip
  replace h1:=ntT h1
  replace h1:=decF h1
  exact xR (false) ((decide_eq_false (fun h=>by have:=congrArg List.length h; simp at this; omega)).symm)
 ·skip
  replace h1:=ntF h1
  replace h1:=decT h1
  refine xLoop xlI Tryz.func19 [0,1,0,1,1] [.b 0,.c [1,1,1]] [0,1,5] [0,1] (fun i:Nat=>[(0,.slice (g 0).a xs.length (g 0).c),(1,.slice (g 1).a m (g 1).c),(5,.int .i64 i)]) (fun _=>[(0,.i 0),(1,.i 1)]) (fun _=>[.sl (g 0).a (g 0).c (encI .u64) 0 1 xs 42,.sl (g 1).a (g 1).c (encI .u64) 0 1 ys 42]) (fun _=>⟨[(0,[]),(1,[])],2⟩) (fun i=>i≤xs.length∧ys.take i=xs.take i) (fun i=>xs.length-i) 0 ⟨by omega,rfl⟩ (fun i J hI hJ => ?_)
  refine xB (decide ((↑i:Int)<(↑xs.length:Int))) (fun h2 => ?_) (fun h2 => ?_)
  ·skip
   replace h2:=decT h2
   refine xO (xs.length≤xs.length∧(0:Int)≤(↑i:Int)∧(↑i:Int)<(↑xs.length:Int)) (by omega) ?_
   refine xO ((↑i:Int).toNat<xs.length) (by omega) ?_
   refine xO (m≤ys.length∧(0:Int)≤(↑i:Int)∧(↑i:Int)<(↑m:Int)) (by omega) ?_
   refine xO ((↑i:Int).toNat<ys.length) (by omega) ?_
   refine xB (xs.getD (↑i:Int).toNat (0:Int) != ys.getD (↑i:Int).toNat (0:Int)) (fun h3 => ?_) (fun h3 => ?_)
   ·skip
    replace h3:=ntT h3
    replace h3:=decF h3
    exact xR (false) ((decide_eq_false (take_ne (i:=i) (by omega) (by omega) (Ne.symm (by assumption)))).symm)
   ·skip
    replace h3:=ntF h3
    replace h3:=decT h3
    refine xO (InK IntKind.i64 (↑i+1)) (by simp only [InK] at *; omega) ?_
    exact xJ hJ (i+1) (by omega) ⟨by omega,take_step hI.2 (by omega) (by omega) (Eq.symm (by assumption))⟩
  ·skip
   replace h2:=decF h2
   exact xR (true) ((decide_eq_true (by have hi:i=m:=(by omega); subst hi; rw [hI.2,List.take_of_length_le (by omega)])).symm)
theorem t_sameR(xs ys:List Int)(z:Sx.Rest)(n m:Nat)(hn:xs.length=n)(hm:m≤ys.length)(hl:xs.length≤1000000): Ct Tryz.prog 19 (sB [.s (.s 0 n),.s (.s 1 m)] [.rd 0 (encI .u64) 0 1 xs 42 z,.sl 1 (encI .u64) 0 1 ys 42] 2 (decide (ys.take m=xs)) [.rd 0 (encI .u64) 0 1 xs 42 z,.sl 1 (encI .u64) 0 1 ys 42]):=by
 subst hn
 refine cX 26 xlI Tryz.func19 fun g F => ?_
 refine xB ((↑xs.length:Int) != (↑m:Int)) (fun h1 => ?_) (fun h1 => ?_)
 ·skip
  replace h1:=ntT h1
  replace h1:=decF h1
  exact xR (false) ((decide_eq_false (fun h=>by have:=congrArg List.length h; simp at this; omega)).symm)
 ·skip
  replace h1:=ntF h1
  replace h1:=decT h1
  refine xLoop xlI Tryz.func19 [0,1,0,1,1] [.b 0,.c [1,1,1]] [0,1,5] [0,1] (fun i:Nat=>[(0,.slice (g 0).a xs.length (g 0).c),(1,.slice (g 1).a m (g 1).c),(5,.int .i64 i)]) (fun _=>[(0,.i 0),(1,.i 1)]) (fun _=>[.rd (g 0).a (g 0).c (encI .u64) 0 1 xs 42 z,.sl (g 1).a (g 1).c (encI .u64) 0 1 ys 42]) (fun _=>⟨[(0,[]),(1,[])],2⟩) (fun i=>i≤xs.length∧ys.take i=xs.take i) (fun i=>xs.length-i) 0 ⟨by omega,rfl⟩ (fun i J hI hJ => ?_)
  refine xB (decide ((↑i:Int)<(↑xs.length:Int))) (fun h2 => ?_) (fun h2 => ?_)
  ·skip
   replace h2:=decT h2
   refine xO (xs.length≤xs.length∧(0:Int)≤(↑i:Int)∧(↑i:Int)<(↑xs.length:Int)) (by omega) ?_
   refine xO ((↑i:Int).toNat<xs.length) (by omega) ?_
   refine xO (m≤ys.length∧(0:Int)≤(↑i:Int)∧(↑i:Int)<(↑m:Int)) (by omega) ?_
   refine xO ((↑i:Int).toNat<ys.length) (by omega) ?_
   refine xB (xs.getD (↑i:Int).toNat (0:Int) != ys.getD (↑i:Int).toNat (0:Int)) (fun h3 => ?_) (fun h3 => ?_)
   ·skip
    replace h3:=ntT h3
    replace h3:=decF h3
    exact xR (false) ((decide_eq_false (take_ne (i:=i) (by omega) (by omega) (Ne.symm (by assumption)))).symm)
   ·skip
    replace h3:=ntF h3
    replace h3:=decT h3
    refine xO (InK IntKind.i64 (↑i+1)) (by simp only [InK] at *; omega) ?_
    exact xJ hJ (i+1) (by omega) ⟨by omega,take_step hI.2 (by omega) (by omega) (Eq.symm (by assumption))⟩
  ·skip
   replace h2:=decF h2
   exact xR (true) ((decide_eq_true (by have hi:i=m:=(by omega); subst hi; rw [hI.2,List.take_of_length_le (by omega)])).symm)
theorem rep_step{xs:List Int}{more:Int}{ys:List Int}(h:∃k,ys=xs++List.replicate k more∧(k=0∨ys.length≤5))(h5:(ys.length:Int)<5): ∃k,ys++[more]=xs++List.replicate k more∧(k=0∨(ys++[more]).length≤5):=by
 obtain⟨k,rfl,_⟩:=h
 refine⟨k+1,by rw [List.append_assoc,←List.replicate_succ'],.inr ?_⟩
 simp only [List.length_append,List.length_replicate,List.length_cons,List.length_nil] at h5 ⊢
 omega
theorem rep_end{xs:List Int}{more:Int}{ys:List Int}(h:∃k,ys=xs++List.replicate k more∧(k=0∨ys.length≤5))(h5:¬(ys.length:Int)<5): ys=xs++List.replicate (5-xs.length) more:=by
 obtain⟨k,rfl,h⟩:=h
 simp only [List.length_append,List.length_replicate] at h5 h
 have:k=5-xs.length:=by omega
 rw [this]
theorem t_full(xs:List Int)(n:Nat)(hn:xs.length=n)(hl:xs.length≤1000)(more:Int): Ct Tryz.prog 21 (sL [.s (.s 0 n),.s (.i .u64 more)] [.sl 0 (encI .u64) 0 1 xs 42] 1 (xs++List.replicate (5-xs.length) more) fun ys=>[.sl 0 (encI .u64) 0 1 xs 42,.sl 1 (encI .u64) 0 1 ys 42]):=by
 subst hn
 refine cX 17 xlI Tryz.func21 fun g F => ?_
 refine xN fun b1 => ?_
 refine xW0 _ (view_none 1 (b:=b1) .u64 42) ?_ sc_st
 refine xAp 1 (some {block:=b1,off:=0}) (0) (encI .u64) 0 1 ([]) 42 (xs) (.i 1) (oneI _) 8 (.slice (g 0).a (xs).length (g 0).c) (by simp; omega) (fun F=>(src_sl (i:=0) (d:=0) (sz:=1) (t:=42) (by kernel_rfl))) (fun a1_ c1_ => ?_)
 refine xLoop xlI Tryz.func21 [0,0,1,1] [.b 0,.c [1,1,1]] [1,5] [0,1] (fun i:List Int×Option Addr×Nat=>[(1,.int .u64 more),(5,.slice i.2.1 i.1.length i.2.2)]) (fun _=>[(5,.i 1)]) (fun i=>[.sl (g 0).a (g 0).c (encI .u64) 0 1 xs 42,.sl i.2.1 i.2.2 (encI .u64) 0 1 i.1 42]) (fun _=>⟨[(0,[]),(1,[])],2⟩) (fun i=>(∃k,i.1=xs++List.replicate k more∧(k=0∨i.1.length≤5))∧i.1.length≤1000) (fun i=>5-i.1.length) ([]++xs,a1_,c1_) ⟨⟨0,by simp,.inl rfl⟩,by simp; omega⟩ (fun i J hI hJ => ?_)
 refine xB (decide ((↑i.fst.length:Int)<(5:Int))) (fun h2 => ?_) (fun h2 => ?_)
 ·skip
  replace h2:=decT h2
  refine xN fun b3 => ?_
  refine xAp 1 (i.snd.fst) (i.snd.snd) (encI .u64) 0 1 (i.fst) 42 [more] (.i 1) (oneI _) 8 (.slice (some ⟨b3,0,none⟩) 1 1) (by simp; omega) (fun F=>(src_pts (i:=2) (n:=1) (c:=1) (cs:=cellsOf (encI .u64) [more]) (t:=42) (by kernel_rfl))) (fun a1_ c1_ => ?_)
  exact xJ hJ (i.1++[more],a1_,c1_) (by simp; omega) ⟨rep_step hI.1 (by assumption),by simp; omega⟩
 ·skip
  replace h2:=decF h2
  exact xR (i.fst) (rep_end hI.1 (by assumption))
theorem few_step{xs ys:List Int}{i:Nat}{x:Int}(h:ys=IntKind.u64.wrap xs.length :: (xs.take i).map IntKind.u64.wrap)(hi:i<xs.length)(hx:x=IntKind.u64.wrap (xs.getD i 0)): ys++[x]=IntKind.u64.wrap xs.length :: (xs.take (i+1)).map IntKind.u64.wrap:=by
 subst h hx
 rw [List.take_add_one,List.getElem?_eq_getElem hi,List.getD_eq_getElem?_getD,List.getElem?_eq_getElem hi]
 simp only [List.map_append,List.map_cons,List.map_nil,List.cons_append,Option.toList_some,Option.getD_some]
theorem few_end{xs ys:List Int}{i:Nat}(h:ys=IntKind.u64.wrap xs.length :: (xs.take i).map IntKind.u64.wrap)(hi:i=3∨(xs.length≤i∧i≤3)): ys=IntKind.u64.wrap xs.length :: (xs.take 3).map IntKind.u64.wrap:=by
 rcases hi with rfl | ⟨h1,h2⟩
 ·exact h
 ·rw [h,List.take_of_length_le h1,List.take_of_length_le (by omega)]
theorem t_few(xs:List Int)(n:Nat)(hn:xs.length=n)(hl:xs.length≤1000000): Ct Tryz.prog 20 (sL [.s (.s 0 n)] [.sl 0 (encI .i64) 0 1 xs 3] 1 (IntKind.u64.wrap xs.length :: (xs.take 3).map IntKind.u64.wrap) fun ys=>[.sl 0 (encI .i64) 0 1 xs 3,.sl 1 (encI .u64) 0 1 ys 42]):=by
 subst hn
 refine cX 28 xlI Tryz.func20 fun g F => ?_
 refine xN fun b1 => ?_
 refine xW0 _ (view_lit 1 (b:=b1) .u64 [IntKind.u64.wrap (xs.length:Int)] 42 (by simp [maxLen])) (xLoop xlI Tryz.func20 [0,1,0,1,1] [.b 0,.c [1,1,1]] [0,3,4] [0,1] (fun i:List Int×Nat×Option Addr×Nat=>[(0,.slice (g 0).a xs.length (g 0).c),(3,.slice i.2.2.1 i.1.length i.2.2.2),(4,.int .i64 i.2.1)]) (fun _=>[(0,.i 0),(3,.i 1)]) (fun i=>[.sl (g 0).a (g 0).c (encI .i64) 0 1 xs 3,.sl i.2.2.1 i.2.2.2 (encI .u64) 0 1 i.1 42]) (fun _=>⟨[(0,[]),(1,[])],2⟩) (fun i=>i.1=IntKind.u64.wrap xs.length :: (xs.take i.2.1).map IntKind.u64.wrap∧i.2.1≤3∧i.2.1≤xs.length∧i.1.length≤1+i.2.1) (fun i=>3-i.2.1) ([IntKind.u64.wrap (xs.length:Int)],0,some ⟨b1,0,none⟩,1) ⟨by simp,by simp,by simp,by simp⟩ (fun i J hI hJ => ?_)) sc_st
 refine xB (decide ((↑i.snd.fst:Int)<(↑xs.length:Int))) (fun h2 => ?_) (fun h2 => ?_)
 ·skip
  replace h2:=decT h2
  refine xB (decide ((↑i.snd.fst:Int)<(3:Int))) (fun h3 => ?_) (fun h3 => ?_)
  ·skip
   replace h3:=decT h3
   refine xO (xs.length≤xs.length∧(0:Int)≤(↑i.snd.fst:Int)∧(↑i.snd.fst:Int)<(↑xs.length:Int)) (by omega) ?_
   refine xO ((↑i.snd.fst:Int).toNat<xs.length) (by omega) ?_
   refine xN fun b4 => ?_
   refine xAp 1 (i.snd.snd.fst) (i.snd.snd.snd) (encI .u64) 0 1 (i.fst) 42 [IntKind.u64.wrap (xs.getD (↑i.snd.fst:Int).toNat (0:Int))] (.i 1) (oneI _) 8 (.slice (some ⟨b4,0,none⟩) 1 1) (by simp; omega) (fun F=>(src_pts (i:=2) (n:=1) (c:=1) (cs:=cellsOf (encI .u64) [IntKind.u64.wrap (xs.getD (↑i.snd.fst:Int).toNat (0:Int))]) (t:=42) (by kernel_rfl))) (fun a1_ c1_ => ?_)
   refine xO (InK IntKind.i64 (↑i.snd.fst+1)) (by simp only [InK] at *; omega) ?_
   exact xJ hJ (i.1++[IntKind.u64.wrap (xs.getD i.2.1 0)],i.2.1+1,a1_,c1_) (by show 3-(i.2.1+1)<3-i.2.1; omega) ⟨few_step hI.1 (by omega) rfl,by show i.2.1+1≤3; omega,by show i.2.1+1≤xs.length; omega,by simp; omega⟩
  ·skip
   replace h3:=decF h3
   exact xR (i.fst) (few_end hI.1 (by omega))
 ·skip
  replace h2:=decF h2
  exact xR (i.fst) (few_end hI.1 (by omega))
end Go.Proofs.YthijdhenekmojaaGreatDoor
/- Few words of a row that the frame has. -/
set_option linter.unusedSimpArgs false
set_option maxRecDepth 100000
set_option maxHeartbeats 0
namespace Go.Proofs.YthijdhenekmojaaGreatDoor
open Go.Sx
abbrev sL0(args:List SA)(ys:List Int): Sp (List Int):=⟨args,[],0,fun x=>x=ys,fun x=>[.s (.s 0 x.length)],fun ys=>[.sl 0 (encI .u64) 0 1 ys 42]⟩
def fewL(xs:List Int): List Int:=IntKind.u64.wrap xs.length :: (xs.take 3).map IntKind.u64.wrap
theorem t_fewF(xs:List Int)(a0:Option Addr)(c0:Nat)(hl:xs.length≤maxLen)(F:Fr)(hr:RowF F a0 .i64 xs): CtF Tryz.prog F 20 (sL0 [.s (.o (.slice a0 xs.length c0))] (fewL xs)):=by
 refine cF 28 xlI Tryz.func20 fun g => ?_
 refine xN fun b1 => ?_
 refine xW0 _ (view_lit 0 (b:=b1) .u64 [IntKind.u64.wrap (xs.length:Int)] 42 (by simp [maxLen])) (xLoop xlI Tryz.func20 [0,1,0,1,1] [.b 0,.c [1,1,1]] [0,3,4] [0] (fun i:List Int×Nat×Option Addr×Nat=>[(0,.slice a0 xs.length c0),(3,.slice i.2.2.1 i.1.length i.2.2.2),(4,.int .i64 i.2.1)]) (fun _=>[(3,.i 1)]) (fun i=>[.sl i.2.2.1 i.2.2.2 (encI .u64) 0 1 i.1 42]) (fun _=>⟨[(1,[])],2⟩) (fun i=>i.1=IntKind.u64.wrap xs.length :: (xs.take i.2.1).map IntKind.u64.wrap∧i.2.1≤3∧i.2.1≤xs.length∧i.1.length≤1+i.2.1) (fun i=>3-i.2.1) ([IntKind.u64.wrap (xs.length:Int)],0,some ⟨b1,0,none⟩,1) ⟨by simp,by simp,by simp,by simp⟩ (fun i J hI hJ => ?_)) sc_st
 refine xB (decide ((↑i.snd.fst:Int)<(↑xs.length:Int))) (fun h2 => ?_) (fun h2 => ?_)
 ·skip
  replace h2:=decT h2
  refine xB (decide ((↑i.snd.fst:Int)<(3:Int))) (fun h3 => ?_) (fun h3 => ?_)
  ·skip
   replace h3:=decT h3
   refine xIx hr (xs.length) (c0) .i64 (↑i.snd.fst) (show xs.length≤(xs).length∧(0:Int)≤↑i.snd.fst∧↑i.snd.fst<((xs.length:Nat):Int) by omega) ?_
   refine xLd hr ((↑i.snd.fst:Int).toNat) (show(↑i.snd.fst:Int).toNat<(xs).length by omega) ?_
   refine xN fun b4 => ?_
   refine xAp 0 (i.snd.snd.fst) (i.snd.snd.snd) (encI .u64) 0 1 (i.fst) 42 [IntKind.u64.wrap (xs.getD (↑i.snd.fst:Int).toNat (0:Int))] (.i 1) (oneI _) 8 (.slice (some ⟨b4,0,none⟩) 1 1) (by simp; omega) (fun F=>(src_pts (i:=1) (n:=1) (c:=1) (cs:=cellsOf (encI .u64) [IntKind.u64.wrap (xs.getD (↑i.snd.fst:Int).toNat (0:Int))]) (t:=42) (by kernel_rfl))) (fun a0_ c0_ => ?_)
   refine xO (InK IntKind.i64 (↑i.snd.fst+1)) (by simp only [InK] at *; omega) ?_
   exact xJ hJ (i.1++[IntKind.u64.wrap (xs.getD i.2.1 0)],i.2.1+1,a0_,c0_) (by show 3-(i.2.1+1)<3-i.2.1; omega) ⟨few_step hI.1 (by omega) rfl,by show i.2.1+1≤3; omega,by show i.2.1+1≤xs.length; omega,by simp; omega⟩
  ·skip
   replace h3:=decF h3
   exact xR (i.fst) (few_end hI.1 (by omega))
 ·skip
  replace h2:=decF h2
  exact xR (i.fst) (few_end hI.1 (by omega))
end Go.Proofs.YthijdhenekmojaaGreatDoor
/- The model: what is created, beside what handles name. -/
set_option maxRecDepth 100000
set_option maxHeartbeats 0
namespace Go.Proofs.YthijdhenekmojaaGreatDoor
open Go.Sx
theorem t_create2(c:Cfg)(hc:c.Ok)(T:TopM)(mt mh:Nat)(sv:Value)(cl ke:Int)(la:Bool)(wo pa rw rk:Value)(ha co n cm fr to_:Int):
  Ct Tryz.prog 13 (⟨[.s (.p 0 0),.g (dS cl 1 ke la (.o wo) ha (.o pa) co (.o rw) (.o rk) n cm fr to_)],[mdl2 c (.o sv) mt mh,topR mt T],3,
   fun x=>x=createM c T ke la co,fun x=>[.s (.bo x.b)],fun x=>[mdl2 c (.o sv) mt mh,topR mt x.T]⟩:Sp RT):=by
 refine cX 148 xaI Tryz.func13 fun g F => ?_
 refine xN fun b1 => ?_
 refine xC Tryz.call31 (t_start (c) (by omega) (ke)) fun xn2 n2 hxn2 => ?_
 refine xB (decide (xn2<0)) (fun h3 => ?_) (fun h3 => ?_)
 ·skip
  replace h3:=decT h3
  exact xR ({b:=co==1,T:=T}) (by have hm:=hxn2.1 (by assumption); simp [createM,hm])
 ·skip
  replace h3:=decF h3
  refine xA ?_ ?_
  ·skip
   refine xMg 1 (mt) (T) (evT) kI (ke) (false,PRow.nil) true ?_
   refine xN fun b4 => ?_
   refine xN fun b5 => ?_
   refine xMl 1 (mt) (T) ekI evT ?_
   refine xB (co==0) (fun h6 => ?_) (fun h6 => ?_)
   ·skip
    replace h6:=decT h6
    refine xB ((kget T ke).isSome) (fun h7 => ?_) (fun h7 => ?_)
    ·skip
     exact xR ({b:=false,T:=T}) (by have hm:=may_of hxn2 (by assumption); simp [createM,hm, *])
    ·skip
     refine xB (↑(List.length T)==c.topics) (fun h8 => ?_) (fun h8 => ?_)
     ·skip
      replace h8:=decT h8
      exact xR ({b:=false,T:=T}) (by have hm:=may_of hxn2 (by assumption); simp [createM,hm, *])
     ·skip
      replace h8:=decF h8
      refine xMs 1 (mt) (T) (evT) kI (ke) (la,PRow.nil) ?_
      exact xR ({b:=true,T:=kset T ke (la,PRow.nil)}) (by have hm:=may_of hxn2 (by assumption); simp [createM,hm, *])
   ·skip
    replace h6:=decF h6
    refine xB (co==14) (fun h9 => ?_) (fun h9 => ?_)
    ·skip
     replace h9:=decT h9
     exact xR ({b:=(kget T ke).isSome,T:=T}) (by have hm:=may_of hxn2 (by assumption); simp [createM,hm, *])
    ·skip
     replace h9:=decF h9
     refine xB (co==15) (fun h10 => ?_) (fun h10 => ?_)
     ·skip
      replace h10:=decT h10
      refine xB (!(kget T ke).isSome) (fun h11 => ?_) (fun h11 => ?_)
      ·skip
       replace h11:=ntT h11
       exact xR ({b := ↑(List.length T)==c.topics,T:=T}) (by have hm:=may_of hxn2 (by assumption); simp [createM,hm, *])
      ·skip
       replace h11:=ntF h11
       exact xR ({b:=false,T:=T}) (by have hm:=may_of hxn2 (by assumption); simp [createM,hm, *])
     ·skip
      replace h10:=decF h10
      exact xR ({b:=co==17,T:=T}) (by have hm:=may_of hxn2 (by assumption); simp [createM,hm, *])
  ·skip
   refine xN fun b12 => ?_
   refine xMg 1 (mt) (T) (evT) kI (ke) (false,PRow.nil) true ?_
   refine xN fun b13 => ?_
   refine xMl 1 (mt) (T) ekI evT ?_
   refine xB (co==0) (fun h14 => ?_) (fun h14 => ?_)
   ·skip
    replace h14:=decT h14
    refine xB ((kget T ke).isSome) (fun h15 => ?_) (fun h15 => ?_)
    ·skip
     exact xR ({b:=false,T:=T}) (by have hm:=may_of hxn2 (by assumption); simp [createM,hm, *])
    ·skip
     refine xB (↑(List.length T)==c.topics) (fun h16 => ?_) (fun h16 => ?_)
     ·skip
      replace h16:=decT h16
      exact xR ({b:=false,T:=T}) (by have hm:=may_of hxn2 (by assumption); simp [createM,hm, *])
     ·skip
      replace h16:=decF h16
      refine xMs 1 (mt) (T) (evT) kI (ke) (la,PRow.nil) ?_
      exact xR ({b:=true,T:=kset T ke (la,PRow.nil)}) (by have hm:=may_of hxn2 (by assumption); simp [createM,hm, *])
   ·skip
    replace h14:=decF h14
    refine xB (co==14) (fun h17 => ?_) (fun h17 => ?_)
    ·skip
     replace h17:=decT h17
     exact xR ({b:=(kget T ke).isSome,T:=T}) (by have hm:=may_of hxn2 (by assumption); simp [createM,hm, *])
    ·skip
     replace h17:=decF h17
     refine xB (co==15) (fun h18 => ?_) (fun h18 => ?_)
     ·skip
      replace h18:=decT h18
      refine xB (!(kget T ke).isSome) (fun h19 => ?_) (fun h19 => ?_)
      ·skip
       replace h19:=ntT h19
       exact xR ({b := ↑(List.length T)==c.topics,T:=T}) (by have hm:=may_of hxn2 (by assumption); simp [createM,hm, *])
      ·skip
       replace h19:=ntF h19
       exact xR ({b:=false,T:=T}) (by have hm:=may_of hxn2 (by assumption); simp [createM,hm, *])
     ·skip
      replace h18:=decF h18
      exact xR ({b:=co==17,T:=T}) (by have hm:=may_of hxn2 (by assumption); simp [createM,hm, *])
end Go.Proofs.YthijdhenekmojaaGreatDoor
/- The model: what a topic is. -/
set_option linter.unusedSimpArgs false
set_option maxRecDepth 100000
set_option maxHeartbeats 0
namespace Go.Proofs.YthijdhenekmojaaGreatDoor
open Go.Sx
structure TpT where
 lg:Bool
 xs:List Int
 is:Bool
 z:Sx.Rest
theorem t_topic(c:Cfg)(T:TopM)(H:HanM)(ps:List PRow)(hp:PoolOk T H ps)(hsz:∀k,((((kget T k).getD (false,.nil)).2.xs.length:Nat):Int)≤96)(mt mh:Nat)(sv:Value)(ke:Int):
  Ct Tryz.prog 18 (⟨[.s (.p 0 0),.s (.i .i64 ke)],[mdl2 c (.o sv) mt mh,topR mt T,hpR mh H ps],3,
   fun x=>x.lg=((kget T ke).getD (false,.nil)).1∧x.xs=((kget T ke).getD (false,.nil)).2.xs∧x.is=(kget T ke).isSome,fun x=>[.s (.bo x.lg),.s (.s 3 x.xs.length),.s (.bo x.is)],fun x=>[mdl2 c (.o sv) mt mh,topR mt T,hpR mh H ps,.rd 3 (encI .u64) 0 1 x.xs 42 x.z]⟩:Sp TpT):=by
 have hsz':=hsz ke
 refine cXv 25 xaI Tryz.func18 _ ⟨[(0,(cfgS c++[SV.o sv,SV.mb 1 mt,SV.mb 2 mh]).map (SV.g id)),(1,[]),(2,[]),(4,[])],5⟩ (fun g=>hp_at (te:=42) (mh:=mh) (H:=H) (ps:=ps) 2) fun g F => ?_
 refine xMp 1 3 (mt) (T) (evT) 42 kI (ke) (false,PRow.nil) true (·.2) (ps) (fun x=>.l [.l [.n,.i x],.n]) (pool_row hp _) ?_
 refine xN fun b1 => ?_
 refine xC Tryz.call46 (t_cloneR (((kget T ke).getD (false,PRow.nil)).snd.xs) (((kget T ke).getD (false,PRow.nil)).snd.r) (((kget T ke).getD (false,PRow.nil)).snd.xs.length) (by omega) (by omega)) fun xn2 n2 hxn2 => ?_
 refine xEnd [2,3,5] [.res (KMap mh ekP PRow.v (H)),.res (PoolX 42 (ps) (((kget T ke).getD (false,PRow.nil)).snd)),PRow.ent 42 (((kget T ke).getD (false,PRow.nil)).snd)] 2 (HP 42 mh (H) (ps)) pv_end0 ?_
 exact xR ({lg:=((kget T ke).getD (false,PRow.nil)).fst,xs:=((kget T ke).getD (false,PRow.nil)).snd.xs,is:=(kget T ke).isSome,z:=xn2}) ⟨rfl,rfl,rfl⟩
end Go.Proofs.YthijdhenekmojaaGreatDoor
/- The model: a new one; what a topic is. -/
set_option linter.unusedSimpArgs false
set_option maxRecDepth 100000
set_option maxHeartbeats 0
namespace Go.Proofs.YthijdhenekmojaaGreatDoor
open Go.Sx
structure NwT where
 mt:Nat
 mh:Nat
abbrev schA: SE:=.pts 0 [.sp 1 2 2] 85
abbrev schB: SE:=.pts 1 [.l .i64 1,.l .i64 0,.l .i64 3,.l .i64 0] 84
theorem t_new(c:Cfg)(hc:c.Ok): Ct Tryz.prog 8 (⟨[.g (cfgS c),.s (.sp 0 1 1)],[schA,schB],2,fun _=>True,fun _=>[.s (.p 2 0)],fun x=>[schA,schB,.pts 2 (cfgS c++[.sp 0 1 1,.mb 3 x.mt,.mb 4 x.mh]) 81,.rs 3 fun _=>KMap x.mt ekI evT [],.rs 4 fun _=>HP 42 x.mh [] []]⟩:Sp NwT):=by
 refine cX 19 xaI Tryz.func8 fun g F => ?_
 refine xN fun b1 => ?_
 refine xC Tryz.call26 (t_plan (c) (by omega)) fun _ n2 _ => ?_
 refine xF (decide ((↑(1:Nat):Int)<(1:Int))) rfl ?_
 refine xF (decide ((↑(1:Nat):Int)>(8:Int))) rfl ?_
 refine xT (decide ((0:Int)<(↑(1:Nat):Int))) rfl ?_
 refine xF (decide ((↑(2:Nat):Int)<(1:Int))) rfl ?_
 refine xF (decide ((↑(2:Nat):Int)>(6:Int))) rfl ?_
 refine xT (decide ((0:Int)<(↑(2:Nat):Int))) rfl ?_
 refine xN fun b3 => ?_
 refine xF (decide ((0:Int)≥(↑(1:Nat):Int))) rfl ?_
 refine xT (decide (IntKind.i64.wrap ((0:Int)+(1:Int))<(↑(2:Nat):Int))) rfl ?_
 refine xN fun b4 => ?_
 refine xF (decide ((0:Int)≥(↑(1:Nat):Int))) rfl ?_
 refine xF (decide (IntKind.i64.wrap (IntKind.i64.wrap ((0:Int)+(1:Int))+(1:Int))<(↑(2:Nat):Int))) rfl ?_
 refine xF (decide (IntKind.i64.wrap ((0:Int)+(1:Int))<(↑(1:Nat):Int))) rfl ?_
 refine xN fun b5 => ?_
 refine xN fun b6 => ?_
 refine xN fun b7 => ?_
 refine xEndL [5,6] [.raw b5 (.map #[] 0),.raw b6 (.map #[] 0)] [.res (KMap b5 ekI evT []),.res (HP 42 b6 [] [])] [66,67] pv_new ?_
 exact xR ({mt:=b5,mh:=b6}) (by assumption)
end Go.Proofs.YthijdhenekmojaaGreatDoor
/- The model: what is read, if it isn't told to be there. -/
set_option linter.unusedSimpArgs false
set_option maxRecDepth 100000
set_option maxHeartbeats 0
namespace Go.Proofs.YthijdhenekmojaaGreatDoor
open Go.Sx
def readN(T:TopM)(ke:Int)(co:Int): Bool:=
 if mayB ke=false then co==1 else
 if co=12 then !(kget T ke).isSome else if co=20 then(kget T ke).isSome&&((((kget T ke).getD (false,.nil)).2.xs.length:Int)==0) else decide (co=19∨co=17)
theorem t_readN(c:Cfg)(hc:c.Ok)(T:TopM)(mt:Nat)(sv hv:Value)(cl ke:Int)(la:Bool)(wo pa rw rk:Value)(ha co n cm fr to_:Int)(hco:co≠0):
  Ct Tryz.prog 13 (⟨[.s (.p 0 0),.g (dS cl 4 ke la (.o wo) ha (.o pa) co (.o rw) (.o rk) n cm fr to_)],[mdl c (.o sv) (.o hv) mt,topR mt T],2,
   fun x=>x=readN T ke co,fun x=>[.s (.bo x)],fun x=>[mdl c (.o sv) (.o hv) mt,topR mt T]⟩:Sp Bool):=by
 refine cX 148 xbI Tryz.func13 fun g F => ?_
 refine xN fun b1 => ?_
 refine xC Tryz.call31 (t_start (c) (by omega) (ke)) fun xn2 n2 hxn2 => ?_
 refine xB (decide (xn2<0)) (fun h3 => ?_) (fun h3 => ?_)
 ·skip
  replace h3:=decT h3
  exact xR (co==1) (by have hm:=hxn2.1 (by assumption); simp [readN,hm])
 ·skip
  replace h3:=decF h3
  refine xA ?_ ?_
  ·skip
   refine xMg 1 (mt) (T) (evT) kI (ke) (false,PRow.nil) true ?_
   refine xN fun b4 => ?_
   refine xN fun b5 => ?_
   refine xN fun b6 => ?_
   refine xF (co==0) (by first | (simp; done) | (simp; omega)) ?_
   refine xB (co==12) (fun h7 => ?_) (fun h7 => ?_)
   ·skip
    replace h7:=decT h7
    exact xR (!(kget T ke).isSome) (by have hm:=may_of hxn2 (by assumption); simp [readN,hm, *])
   ·skip
    replace h7:=decF h7
    refine xB (co==20) (fun h8 => ?_) (fun h8 => ?_)
    ·skip
     replace h8:=decT h8
     refine xB ((kget T ke).isSome) (fun h9 => ?_) (fun h9 => ?_)
     ·skip
      exact xR ((↑((kget T ke).getD (false,PRow.nil)).snd.xs.length:Int)==(0:Int)) (by have hm:=may_of hxn2 (by assumption); simp [readN,hm, *])
     ·skip
      exact xR (false) (by have hm:=may_of hxn2 (by assumption); simp [readN,hm, *])
    ·skip
     replace h8:=decF h8
     refine xB (co==19) (fun h10 => ?_) (fun h10 => ?_)
     ·skip
      replace h10:=decT h10
      exact xR (true) (by have hm:=may_of hxn2 (by assumption); simp [readN,hm, *])
     ·skip
      replace h10:=decF h10
      refine xB (co==17) (fun h11 => ?_) (fun h11 => ?_)
      ·skip
       replace h11:=decT h11
       exact xR (true) (by have hm:=may_of hxn2 (by assumption); simp [readN,hm, *])
      ·skip
       replace h11:=decF h11
       exact xR (false) (by have hm:=may_of hxn2 (by assumption); simp [readN,hm, *])
  ·skip
   refine xN fun b12 => ?_
   refine xMg 1 (mt) (T) (evT) kI (ke) (false,PRow.nil) true ?_
   refine xN fun b13 => ?_
   refine xN fun b14 => ?_
   refine xF (co==0) (by first | (simp; done) | (simp; omega)) ?_
   refine xB (co==12) (fun h15 => ?_) (fun h15 => ?_)
   ·skip
    replace h15:=decT h15
    exact xR (!(kget T ke).isSome) (by have hm:=may_of hxn2 (by assumption); simp [readN,hm, *])
   ·skip
    replace h15:=decF h15
    refine xB (co==20) (fun h16 => ?_) (fun h16 => ?_)
    ·skip
     replace h16:=decT h16
     refine xB ((kget T ke).isSome) (fun h17 => ?_) (fun h17 => ?_)
     ·skip
      exact xR ((↑((kget T ke).getD (false,PRow.nil)).snd.xs.length:Int)==(0:Int)) (by have hm:=may_of hxn2 (by assumption); simp [readN,hm, *])
     ·skip
      exact xR (false) (by have hm:=may_of hxn2 (by assumption); simp [readN,hm, *])
    ·skip
     replace h16:=decF h16
     refine xB (co==19) (fun h18 => ?_) (fun h18 => ?_)
     ·skip
      replace h18:=decT h18
      exact xR (true) (by have hm:=may_of hxn2 (by assumption); simp [readN,hm, *])
     ·skip
      replace h18:=decF h18
      refine xB (co==17) (fun h19 => ?_) (fun h19 => ?_)
      ·skip
       replace h19:=decT h19
       exact xR (true) (by have hm:=may_of hxn2 (by assumption); simp [readN,hm, *])
      ·skip
       replace h19:=decF h19
       exact xR (false) (by have hm:=may_of hxn2 (by assumption); simp [readN,hm, *])
end Go.Proofs.YthijdhenekmojaaGreatDoor
/- The chapter's example. -/
set_option linter.unusedSimpArgs false
set_option maxRecDepth 100000
set_option maxHeartbeats 0
namespace Go.Proofs.YthijdhenekmojaaGreatDoor
open Go.Sx
theorem aw1{t:Int}(h:1≤t∧t≤4): createM (cf t) [] 5 false 0=⟨true,[(5,false,.nil)]⟩:=by
 unfold createM
 rw [if_neg (by decide),if_pos rfl,if_neg]
 ·rfl
 ·rintro(h1 | h1)
  ·cases h1
  ·simp [cf] at h1; omega
theorem t_awake: Ct Tryz.prog 7 (sB [] [] 0 true []):=by
 refine cX 30 xaI Tryz.func7 fun g F => ?_
 refine xC Tryz.call9 (t_config (1)) fun xn1 n1 hxn1 => ?_
 refine xN fun b2 => ?_
 refine xN fun b3 => ?_
 refine xC Tryz.call8 (t_new (cf xn1) (cf_ok (by assumption))) fun xn5 n5 hxn5 => ?_
 refine xC Tryz.call13 (t_readN (cf xn1) (cf_ok (by assumption)) ([]) (xn5.mt) (Value.slice (some {block:=b3,off:=0}) 1 1) (Value.map (some xn5.mh)) (0) (5) (false) (Value.slice none 0 0) (Value.slice none 0 0) (Value.slice none 0 0) (Value.slice none 0 0) (0) (12) (0) (0) (0) (0) (by omega)) fun xn8 n8 hxn8 => ?_
 subst hxn8
 refine xC Tryz.call13 (t_create (cf xn1) (cf_ok (by assumption)) ([]) (xn5.mt) (Value.slice (some {block:=b3,off:=0}) 1 1) (Value.map (some xn5.mh)) (0) (5) (false) (Value.slice none 0 0) (Value.slice none 0 0) (Value.slice none 0 0) (Value.slice none 0 0) (0) (0) (0) (0) (0) (0)) fun xn12 n12 hxn12 => ?_
 subst hxn12
 refine xC Tryz.call13 (t_readN (cf xn1) (cf_ok (by assumption)) ((createM (cf xn1) [] (5:Int) false (0:Int)).2) (xn5.mt) (Value.slice (some {block:=b3,off:=0}) 1 1) (Value.map (some xn5.mh)) (0) (5) (false) (Value.slice none 0 0) (Value.slice none 0 0) (Value.slice none 0 0) (Value.slice none 0 0) (0) (12) (0) (0) (0) (0) (by omega)) fun xn15 n15 hxn15 => ?_
 subst hxn15
 refine xT (readN [] 5 12) rfl ?_
 refine xT ((createM (cf xn1) [] 5 false 0).b) (by rw [aw1 hxn1]) ?_
 exact xR (!readN (createM (cf xn1) [] 5 false 0).T 5 12) (by rw [aw1 hxn1]; rfl)
end Go.Proofs.YthijdhenekmojaaGreatDoor
/- ModelReads: the law's walk. -/
set_option linter.unusedSimpArgs false
set_option maxRecDepth 100000
set_option maxHeartbeats 0
namespace Go.Proofs.YthijdhenekmojaaGreatDoor
open Go.Sx
def xr: Cx:=⟨[10],[],[],[]⟩
theorem xrI: Inl Tryz.prog xr:=inl_ok ⟨Tryz.call10,trivial⟩ trivial
theorem few_len(xs:List Int): 1≤(fewL xs).length∧(fewL xs).length≤4:=by
 simp only [fewL,List.length_cons,List.length_map,List.length_take]
 omega
theorem fewL_head{xs ys:List Int}(hx:xs.length≤maxLen)(hy:ys.length≤maxLen)(h:IntKind.u64.wrap xs.length=IntKind.u64.wrap ys.length): xs.length=ys.length:=by
 have e1:IntKind.u64.wrap (xs.length:Int)=xs.length:=wrap_in (by simp only [InK,maxLen] at *; omega)
 have e2:IntKind.u64.wrap (ys.length:Int)=ys.length:=wrap_in (by simp only [InK,maxLen] at *; omega)
 rw [e1,e2] at h
 omega
theorem rs_last{xs ys:List Int}{more:Int}(hx:xs.length≤maxLen)(hy:ys.length≤maxLen){fa fb:List Int}(ha:fa=fewL xs++List.replicate (5-(fewL xs).length) more)(hb:fb=(fewL ys++[77])++List.replicate (5-(fewL ys++[77]).length) more):
  (decide (fa.take (fewL ys++[77]).length=fewL ys++[77])==decide (fb.take 5=fa))=true∨decide (fb.take (fewL xs).length=fewL xs)=true:=by
 have lA:=few_len xs
 have lB:=few_len ys
 have la:fa.length=5:=by rw [ha]; simp; omega
 have lb:fb.length=5:=by rw [hb]; simp; omega
 have tb:fb.take (fewL ys++[77]).length=fewL ys++[77]:=by rw [hb]; exact List.take_left
 have ta:fa.take (fewL xs).length=fewL xs:=by rw [ha]; exact List.take_left
 have t5:fb.take 5=fb:=List.take_of_length_le (by omega)
 rw [t5]
 by_cases h1:fb=fa
 ·left
  rw [decide_eq_true h1,←h1,decide_eq_true tb]; rfl
 by_cases h2:fa.take (fewL ys++[77]).length=fewL ys++[77]
 ·right
  refine decide_eq_true ?_
  have hl:(fewL ys++[77]).length=(fewL ys).length+1:=by simp
  by_cases h3:(fewL xs).length≤(fewL ys++[77]).length
  ·have e:fb.take (fewL xs).length=(fb.take (fewL ys++[77]).length).take (fewL xs).length:=by rw [List.take_take]; congr 1; omega
   rw [e,tb,←h2,List.take_take,Nat.min_eq_left h3,ta]
  ·exfalso
   have e:(fewL xs).take (fewL ys++[77]).length=fewL ys++[77]:=by
    rw [←ta,List.take_take,Nat.min_eq_left (by omega),h2]
   have e0:IntKind.u64.wrap xs.length=IntKind.u64.wrap ys.length:=by
    have:=congrArg (fun l=>l.head?) e
    rw [hl] at this
    simp only [fewL,List.take_succ_cons,List.cons_append,List.head?_cons,Option.some.injEq] at this
    exact this
   have e2:=fewL_head hx hy e0
   simp only [fewL,List.length_cons,List.length_map,List.length_take,e2] at h3
   simp at h3
 ·left
  rw [decide_eq_false h1,decide_eq_false h2]; rfl
theorem t_reads(xs ys:List Int)(a0 a1:Option Addr)(c0 c1:Nat)(more:Int)(hx:xs.length≤maxLen)(hy:ys.length≤maxLen)(F:Fr)(hr0:RowF F a0 .i64 xs)(hr1:RowF F a1 .i64 ys):
  CtF Tryz.prog F 4 (sB [.s (.o (.slice a0 xs.length c0)),.s (.o (.slice a1 ys.length c1)),.s (.i .u64 more)] [] 0 true []):=by
 have hA:=few_len xs
 have hB:=few_len ys
 refine cF 125 xrI Tryz.func4 fun g => ?_
 refine xC Tryz.call7 (t_awake) fun xn1 n1 hxn1 => ?_
 subst hxn1
 refine xC Tryz.call9 (t_config (3)) fun xn3 n3 hxn3 => ?_
 refine xN fun b4 => ?_
 refine xN fun b5 => ?_
 refine xN fun b6 => ?_
 refine xC Tryz.call8 (t_new (cf xn3) (cf_ok (by assumption))) fun xn9 n9 hxn9 => ?_
 refine xCF Tryz.call20 (fun F' hF=>t_fewF xs a0 c0 hx F' (hr0.mono hF)) fun xa na hxa => ?_
 subst hxa
 refine xCF Tryz.call20 (fun F' hF=>t_fewF ys a1 c1 hy F' (hr1.mono hF)) fun xb nb hxb => ?_
 subst hxb
 refine xN fun b7 => ?_
 refine xAp 7 ((nb 0).a) ((nb 0).c) (encI .u64) 0 1 (fewL ys) 42 [77] (.i 167) (oneI _) 8 (.slice (some ⟨b7,0,none⟩) 1 1) (by simp; omega) (fun F=>(src_pts (i:=8) (n:=1) (c:=1) (cs:=cellsOf (encI .u64) [77]) (t:=42) (by kernel_rfl))) (fun a7_ c7_ => ?_)
 refine xC Tryz.call13 (t_create2 (cf xn3) (cf_ok hxn3) [] xn9.mt xn9.mh (.slice (some ⟨b6,0,none⟩) 1 1) 0 1 true (.slice none 0 0) (.slice none 0 0) (.slice none 0 0) (.slice none 0 0) 0 0 0 0 0 0) fun x1 m1 h1 => ?_
 have h1:x1=createM (cf xn3) [] 1 true 0:=h1
 rw [rs_create hxn3] at h1
 subst h1
 refine xC Tryz.call13 (t_doPub (cf xn3) (cf_ok hxn3) [(1,true,.nil)] [] [] xn9.mt xn9.mh (.slice (some ⟨b6,0,none⟩) 1 1) 0 1 false (fewL xs) _ rfl (by omega) (.slice none 0 0) (.slice none 0 0) (.slice none 0 0) 0 0 0 0 0 0) fun x2 m2 h2 => ?_
 have h2':doPubR (cf xn3) [(1,true,.nil)] [] 1 (fewL xs) 0 x2:=h2
 have h2a:(fewL xs).length≤5:=Nat.le_trans hA.2 (by decide)
 refine(rs_pub hA.1 h2a h2').elim fun q hqe => ?_
 have hq:=hqe.1
 have e2:=hqe.2
 clear hqe h2 h2'
 subst e2
 refine xC Tryz.call13 (t_doPin (cf xn3) (cf_ok hxn3) [(1,true,q)] [] [q] xn9.mt xn9.mh (.slice (some ⟨b6,0,none⟩) 1 1) 1 1 false (.slice none 0 0) (.slice none 0 0) (.slice none 0 0) (.slice none 0 0) 0 0 0 0 0 0 (by omega)) fun x3 m3 h3 => ?_
 have h3':doPinR [(1,true,q)] [] 1 1 0 0 x3:=h3
 have e3:=rs_pin (by rw [hq]; exact hA.1) h3'
 clear h3 h3'
 subst e3
 refine xC Tryz.call13 (t_doPub (cf xn3) (cf_ok hxn3) [(1,true,q)] (kset [] (1,0) q) [q] xn9.mt xn9.mh (.slice (some ⟨b6,0,none⟩) 1 1) 0 1 false (fewL ys++[77]) _ rfl (by simp; omega) (.slice none 0 0) (.slice none 0 0) (.slice none 0 0) 0 0 0 0 0 0) fun x4 m4 h4 => ?_
 have h4':doPubR (cf xn3) [(1,true,q)] [q] 1 (fewL ys++[77]) 0 x4:=h4
 refine(rs_pub (by simp) (by simp; omega) h4').elim fun q2 hqe2 => ?_
 have hq2:=hqe2.1
 have e4:=hqe2.2
 clear hqe2 h4 h4'
 subst e4
 have hp2:PoolOk [(1,true,q2)] (kset [] (1,0) q) ([q]++[q2]):=⟨by intro x hx; simp at hx; subst hx; simp,by intro x hx; simp [kset] at hx; subst hx; simp⟩
 have hl2:q2.xs.length=(fewL ys).length+1:=by rw [hq2]; simp
 have ht2:TOkS (cf xn3) [(1,true,q2)]:=rs_ok (by omega)
 refine xC Tryz.call21 (t_full (fewL xs) _ rfl (by omega) more) fun xf m5 h5 => ?_
 have hf:xf=fewL xs++List.replicate (5-(fewL xs).length) more:=h5
 have hfl:xf.length=5:=by rw [hf]; simp; omega
 refine xC Tryz.call13 (t_doRead (cf xn3) (cf_ok hxn3) [(1,true,q2)] ht2 (kset [] (1,0) q) ([q]++[q2]) hp2 xn9.mt xn9.mh (.slice (some ⟨b6,0,none⟩) 1 1) 0 1 false xf _ rfl (by omega) (.slice none 0 0) (.slice none 0 0) (.slice none 0 0) 0 0 0 0 0 0) fun old m6 h6 => ?_
 have h6':old=readD (cf xn3) [(1,true,q2)] 1 xf 0:=h6
 refine xC Tryz.call21 (t_full (fewL ys++[77]) _ rfl (by simp; omega) more) fun xg m7 h7 => ?_
 have hg:xg=(fewL ys++[77])++List.replicate (5-(fewL ys++[77]).length) more:=h7
 have hgl:xg.length=5:=by rw [hg]; simp; omega
 refine xC Tryz.call13 (t_doRead (cf xn3) (cf_ok hxn3) [(1,true,q2)] ht2 (kset [] (1,0) q) ([q]++[q2]) hp2 xn9.mt xn9.mh (.slice (some ⟨b6,0,none⟩) 1 1) 0 1 false xg _ rfl (by omega) (.slice none 0 0) (.slice none 0 0) (.slice none 0 0) 0 0 0 0 0 0) fun now m8 h8 => ?_
 have h8':now=readD (cf xn3) [(1,true,q2)] 1 xg 0:=h8
 refine xC Tryz.call21 (t_full (fewL ys++[77]) _ rfl (by simp; omega) more) fun xh m9 h9 => ?_
 have hh:xh=(fewL ys++[77])++List.replicate (5-(fewL ys++[77]).length) more:=h9
 have hhl:xh.length=5:=by rw [hh]; simp; omega
 refine xCut 11 (m9 1).a (m9 1).c (encI .u64) 0 1 xh 42 .i64 (↑(fewL xs).length) (.i 537) (by omega) ?_
 refine xC Tryz.call19 (t_sameS (fewL xs) xh (fewL xs).length (fewL xs).length rfl (by omega) (by omega)) fun sm m10 h10 => ?_
 subst h10
 refine xC Tryz.call18 (t_topic (cf xn3) [(1,true,q2)] (kset [] (1,0) q) ([q]++[q2]) hp2 ht2.sz xn9.mt xn9.mh (.slice (some ⟨b6,0,none⟩) 1 1) 1) fun tp m11 h11 => ?_
 have h11':tp.lg=true∧tp.xs=q2.xs∧tp.is=true:=h11
 refine xC Tryz.call19 (t_sameR tp.xs (fewL ys++[77]) tp.z tp.xs.length ((fewL ys++[77]).length) rfl (by omega) (by rw [h11'.2.1]; omega)) fun sn m12 h12 => ?_
 subst h12
 refine xC Tryz.call21 (t_full (fewL xs) _ rfl (by omega) more) fun xk m13 h13 => ?_
 have hk:xk=fewL xs++List.replicate (5-(fewL xs).length) more:=h13
 have hkl:xk.length=5:=by rw [hk]; simp; omega
 refine xC Tryz.call21 (t_full (fewL ys++[77]) _ rfl (by simp; omega) more) fun xl m14 h14 => ?_
 have hl:xl=(fewL ys++[77])++List.replicate (5-(fewL ys++[77]).length) more:=h14
 have hll:xl.length=5:=by rw [hl]; simp; omega
 refine xC Tryz.call19 (t_sameS xk xl xk.length xl.length rfl (by omega) (by omega)) fun so m15 h15 => ?_
 subst h15
 have vo:old=decide (xf.take (fewL ys++[77]).length=fewL ys++[77]):=by rw [h6',rs_read (by omega) (by omega) hfl,hq2]
 have vn:now=true:=by rw [h8',rs_read (by omega) (by omega) hgl,hq2,hg]; exact decide_eq_true List.take_left
 have key:=rs_last hx hy hk hl
 refine xT true rfl ?_
 refine xT true rfl ?_
 refine xT true rfl ?_
 refine xT true rfl ?_
 refine xT now vn ?_
 subst vo
 have exf:xf=xk:=hf.trans hk.symm
 have exh:xh=xl:=hh.trans hl.symm
 have key:(decide (xf.take (fewL ys++[77]).length=fewL ys++[77])==decide (xl.take xl.length=xk))=true∨decide (xh.take (fewL xs).length=fewL xs)=true:=by
  rw [exf,exh,hll]; exact key
 have hc:=Bool.eq_false_or_eq_true (decide (xf.take (fewL ys++[77]).length=fewL ys++[77])==decide (xl.take xl.length=xk))
 refine hc.elim (fun hz => ?_) (fun hz => ?_)
 ·refine xT (decide (xf.take (fewL ys++[77]).length=fewL ys++[77])==decide (xl.take xl.length=xk)) hz ?_
  refine xT tp.lg h11'.1 ?_
  refine xT tp.is h11'.2.2 ?_
  exact xR (decide ((fewL ys++[77]).take (fewL ys++[77]).length=tp.xs)) (decide_eq_true (by rw [h11'.2.1,hq2,List.take_length]))
 ·refine xF (decide (xf.take (fewL ys++[77]).length=fewL ys++[77])==decide (xl.take xl.length=xk)) hz ?_
  refine xT (decide (xh.take (fewL xs).length=fewL xs)) (key.resolve_left (by rw [hz]; exact Bool.noConfusion)) ?_
  refine xT tp.lg h11'.1 ?_
  refine xT tp.is h11'.2.2 ?_
  exact xR (decide ((fewL ys++[77]).take (fewL ys++[77]).length=tp.xs)) (decide_eq_true (by rw [h11'.2.1,hq2,List.take_length]))
end Go.Proofs.YthijdhenekmojaaGreatDoor

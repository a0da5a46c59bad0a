/- Walks: what functions of the program and of the document compute, part 1 of those on which ModelPlays rests. -/
import Derived.Test.YthijdhenekmojaaGreatDoorMdA
import Derived.Test.YthijdhenekmojaaGreatDoorChecked
import Derived.WalkKit
import Derived.LaidEql
import Derived.Stop.Asserts
import Derived.RowKitTokens
import Derived.Shelf.SlIterI.Nil
import Derived.Shelf.SortM.Plain
import Derived.Shelf.SortM.SortNone
import Derived.Ground.GgzProg
import Derived.Ground.SlgmProg

set_option linter.unusedVariables false
set_option linter.unusedSimpArgs false
/- Which functions are entered. -/
namespace Go.Proofs.YthijdhenekmojaaGreatDoor
open Go.Sx
def xx: Cx:=⟨[3,4,5,6,7,8,9,10,11,12,13,14,15,16,17,18,19,20,21,22,23,24,25,26,27,28,29,30,31,32,33,34,35,36,37,38,39,40,41,42,43,44,45,46,47,48,49,50,51,52,53,54,55,56,57,58,59,60,61,62,63,64,65,66,67,68,69,70,71,72,73,74,75,76,77,78,79,80,81,82,83,84,85,86,87,88,89,90,91,92,93,94,95,96,100,101,102,103,104,105,106,107,108,109,110,111,112,113,114,118,119,120,121,122,123,124,161],[],[],[3,4,5,6,7,8,9,10,11,12,13,14,15,16,17,18,19,20,21,22,23,24,25,26,27,28,29,30,31,32,33,34,35,36,37,38,39,40,41,42,43,44,45,46,47,48,49,50,51,52,53,54,55,56,57,58,59,60,61,62,63,64,65,66,67,68,69,70,71,72,73,74,75,76,77,78,79,80,81,82,83,84,85,86,87,88,89,90,91,92,93,94,95,96,100,101,102,103,104,105,106,107,108,109,110,111,112,113,114,118,119,120,121,122,123,124,161]⟩
theorem xxI: Inl Tryz.prog xx:=inl_ok ⟨Tryz.call3,Tryz.call4,Tryz.call5,Tryz.call6,Tryz.call7,Tryz.call8,Tryz.call9,Tryz.call10,Tryz.call11,Tryz.call12,Tryz.call13,Tryz.call14,Tryz.call15,Tryz.call16,Tryz.call17,Tryz.call18,Tryz.call19,Tryz.call20,Tryz.call21,Tryz.call22,Tryz.call23,Tryz.call24,Tryz.call25,Tryz.call26,Tryz.call27,Tryz.call28,Tryz.call29,Tryz.call30,Tryz.call31,Tryz.call32,Tryz.call33,Tryz.call34,Tryz.call35,Tryz.call36,Tryz.call37,Tryz.call38,Tryz.call39,Tryz.call40,Tryz.call41,Tryz.call42,Tryz.call43,Tryz.call44,Tryz.call45,Tryz.call46,Tryz.call47,Tryz.call48,Tryz.call49,Tryz.call50,Tryz.call51,Tryz.call52,Tryz.call53,Tryz.call54,Tryz.call55,Tryz.call56,Tryz.call57,Tryz.call58,Tryz.call59,Tryz.call60,Tryz.call61,Tryz.call62,Tryz.call63,Tryz.call64,Tryz.call65,Tryz.call66,Tryz.call67,Tryz.call68,Tryz.call69,Tryz.call70,Tryz.call71,Tryz.call72,Tryz.call73,Tryz.call74,Tryz.call75,Tryz.call76,Tryz.call77,Tryz.call78,Tryz.call79,Tryz.call80,Tryz.call81,Tryz.call82,Tryz.call83,Tryz.call84,Tryz.call85,Tryz.call86,Tryz.call87,Tryz.call88,Tryz.call89,Tryz.call90,Tryz.call91,Tryz.call92,Tryz.call93,Tryz.call94,Tryz.call95,Tryz.call96,Tryz.call100,Tryz.call101,Tryz.call102,Tryz.call103,Tryz.call104,Tryz.call105,Tryz.call106,Tryz.call107,Tryz.call108,Tryz.call109,Tryz.call110,Tryz.call111,Tryz.call112,Tryz.call113,Tryz.call114,Tryz.call118,Tryz.call119,Tryz.call120,Tryz.call121,Tryz.call122,Tryz.call123,Tryz.call124,Tryz.call161,trivial⟩ trivial
def xa: Cx:=⟨[3,4,5,6,10,11,12,14,15,17,22,23,24,25,27,28,29,30,32,38,39,40,41,42,43,45,47,48,49,50,51,52,53,54,55,56,61,62,63,64,66,67,68,69,70,71,72,73,74,75,76,77,78,79,80,81,82,83,84,85,86,87,88,89,90,91,92,93,94,95,96,100,101,102,103,104,105,106,107,108,109,110,111,112,113,114,118,119,120,121,122,123,124,161],[],[],[3,4,5,6,10,11,12,14,15,17,22,23,24,25,27,28,29,30,32,38,39,40,41,42,43,45,47,48,49,50,51,52,53,54,55,56,61,62,63,64,66,67,68,69,70,71,72,73,74,75,76,77,78,79,80,81,82,83,84,85,86,87,88,89,90,91,92,93,94,95,96,100,101,102,103,104,105,106,107,108,109,110,111,112,113,114,118,119,120,121,122,123,124,161]⟩
theorem xaI: Inl Tryz.prog xa:=inl_ok ⟨Tryz.call3,Tryz.call4,Tryz.call5,Tryz.call6,Tryz.call10,Tryz.call11,Tryz.call12,Tryz.call14,Tryz.call15,Tryz.call17,Tryz.call22,Tryz.call23,Tryz.call24,Tryz.call25,Tryz.call27,Tryz.call28,Tryz.call29,Tryz.call30,Tryz.call32,Tryz.call38,Tryz.call39,Tryz.call40,Tryz.call41,Tryz.call42,Tryz.call43,Tryz.call45,Tryz.call47,Tryz.call48,Tryz.call49,Tryz.call50,Tryz.call51,Tryz.call52,Tryz.call53,Tryz.call54,Tryz.call55,Tryz.call56,Tryz.call61,Tryz.call62,Tryz.call63,Tryz.call64,Tryz.call66,Tryz.call67,Tryz.call68,Tryz.call69,Tryz.call70,Tryz.call71,Tryz.call72,Tryz.call73,Tryz.call74,Tryz.call75,Tryz.call76,Tryz.call77,Tryz.call78,Tryz.call79,Tryz.call80,Tryz.call81,Tryz.call82,Tryz.call83,Tryz.call84,Tryz.call85,Tryz.call86,Tryz.call87,Tryz.call88,Tryz.call89,Tryz.call90,Tryz.call91,Tryz.call92,Tryz.call93,Tryz.call94,Tryz.call95,Tryz.call96,Tryz.call100,Tryz.call101,Tryz.call102,Tryz.call103,Tryz.call104,Tryz.call105,Tryz.call106,Tryz.call107,Tryz.call108,Tryz.call109,Tryz.call110,Tryz.call111,Tryz.call112,Tryz.call113,Tryz.call114,Tryz.call118,Tryz.call119,Tryz.call120,Tryz.call121,Tryz.call122,Tryz.call123,Tryz.call124,Tryz.call161,trivial⟩ trivial
def xb: Cx:=⟨[3,4,5,6,7,8,9,10,11,12,14,15,17,18,19,20,21,22,23,24,25,27,28,29,30,32,33,34,35,38,39,40,41,42,43,45,47,48,49,50,51,52,53,54,55,56,58,61,62,63,64,66,67,68,69,70,71,72,73,74,75,76,77,78,79,80,81,82,83,84,85,86,87,88,89,90,91,92,93,94,95,96,100,101,102,103,104,105,106,107,108,109,110,111,112,113,114,118,119,120,121,122,123,124,161],[],[],[3,4,5,6,7,8,9,10,11,12,14,15,17,18,19,20,21,22,23,24,25,27,28,29,30,32,33,34,35,38,39,40,41,42,43,45,47,48,49,50,51,52,53,54,55,56,58,61,62,63,64,66,67,68,69,70,71,72,73,74,75,76,77,78,79,80,81,82,83,84,85,86,87,88,89,90,91,92,93,94,95,96,100,101,102,103,104,105,106,107,108,109,110,111,112,113,114,118,119,120,121,122,123,124,161]⟩
theorem xbI: Inl Tryz.prog xb:=inl_ok ⟨Tryz.call3,Tryz.call4,Tryz.call5,Tryz.call6,Tryz.call7,Tryz.call8,Tryz.call9,Tryz.call10,Tryz.call11,Tryz.call12,Tryz.call14,Tryz.call15,Tryz.call17,Tryz.call18,Tryz.call19,Tryz.call20,Tryz.call21,Tryz.call22,Tryz.call23,Tryz.call24,Tryz.call25,Tryz.call27,Tryz.call28,Tryz.call29,Tryz.call30,Tryz.call32,Tryz.call33,Tryz.call34,Tryz.call35,Tryz.call38,Tryz.call39,Tryz.call40,Tryz.call41,Tryz.call42,Tryz.call43,Tryz.call45,Tryz.call47,Tryz.call48,Tryz.call49,Tryz.call50,Tryz.call51,Tryz.call52,Tryz.call53,Tryz.call54,Tryz.call55,Tryz.call56,Tryz.call58,Tryz.call61,Tryz.call62,Tryz.call63,Tryz.call64,Tryz.call66,Tryz.call67,Tryz.call68,Tryz.call69,Tryz.call70,Tryz.call71,Tryz.call72,Tryz.call73,Tryz.call74,Tryz.call75,Tryz.call76,Tryz.call77,Tryz.call78,Tryz.call79,Tryz.call80,Tryz.call81,Tryz.call82,Tryz.call83,Tryz.call84,Tryz.call85,Tryz.call86,Tryz.call87,Tryz.call88,Tryz.call89,Tryz.call90,Tryz.call91,Tryz.call92,Tryz.call93,Tryz.call94,Tryz.call95,Tryz.call96,Tryz.call100,Tryz.call101,Tryz.call102,Tryz.call103,Tryz.call104,Tryz.call105,Tryz.call106,Tryz.call107,Tryz.call108,Tryz.call109,Tryz.call110,Tryz.call111,Tryz.call112,Tryz.call113,Tryz.call114,Tryz.call118,Tryz.call119,Tryz.call120,Tryz.call121,Tryz.call122,Tryz.call123,Tryz.call124,Tryz.call161,trivial⟩ trivial
end Go.Proofs.YthijdhenekmojaaGreatDoor
/- Contracts of the config's and the rows' functions. -/
set_option maxRecDepth 100000
set_option maxHeartbeats 0
namespace Go.Proofs.YthijdhenekmojaaGreatDoor
open Go.Sx
abbrev sU(args:List SA)(pre:List SE)(n:Nat)(ret:List SA)(post:List SE): Sp Unit:=⟨args,pre,n,fun _=>True,fun _=>ret,fun _=>post⟩
abbrev sB(args:List SA)(pre:List SE)(n:Nat)(b:Bool)(post:List SE): Sp Bool:=⟨args,pre,n,fun x=>x=b,fun x=>[.s (.bo x)],fun _=>post⟩
abbrev cfgS(c:Cfg): List SV:=[.i .i64 c.topics,.i .i64 c.small,.i .i64 c.slots,.i .i64 c.clients,.i .i64 c.s0,.i .i64 c.n0,.i .i64 c.s1,.i .i64 c.n1,.i .i64 c.retry]
theorem t_plan(c:Cfg)(hc:c.Ok): Ct Tryz.prog 26 (sU [.g (cfgS c)] [] 0 [.s .ni] []):=by
 simp only [Cfg.Ok] at hc
 refine cX 7 xxI Tryz.func26 fun g F => ?_
 refine xN fun b1 => ?_
 refine xN fun b2 => ?_
 refine xN fun b3 => ?_
 refine xN fun b4 => ?_
 refine xN fun b5 => ?_
 refine xN fun b6 => ?_
 refine xF (decide (c.topics<1)) (by first | (simp; done) | (simp; omega)) ?_
 refine xF (decide (c.topics>8)) (by first | (simp; done) | (simp; omega)) ?_
 refine xF (decide (c.small<4)) (by first | (simp; done) | (simp; omega)) ?_
 refine xF (decide (c.small>32)) (by first | (simp; done) | (simp; omega)) ?_
 refine xF (decide (c.slots<1)) (by first | (simp; done) | (simp; omega)) ?_
 refine xF (decide (c.slots>8)) (by first | (simp; done) | (simp; omega)) ?_
 refine xF (decide (c.clients<1)) (by first | (simp; done) | (simp; omega)) ?_
 refine xF (decide (c.clients>8)) (by first | (simp; done) | (simp; omega)) ?_
 refine xF (decide (c.retry<1)) (by first | (simp; done) | (simp; omega)) ?_
 refine xF (decide (c.retry>8)) (by first | (simp; done) | (simp; omega)) ?_
 refine xF (decide (c.s0<4)) (by first | (simp; done) | (simp; omega)) ?_
 refine xF (decide (c.s0>96)) (by first | (simp; done) | (simp; omega)) ?_
 refine xF (decide (c.n0<0)) (by first | (simp; done) | (simp; omega)) ?_
 refine xF (decide (c.n0>12)) (by first | (simp; done) | (simp; omega)) ?_
 refine xF (decide (c.s1<4)) (by first | (simp; done) | (simp; omega)) ?_
 refine xF (decide (c.s1>96)) (by first | (simp; done) | (simp; omega)) ?_
 refine xF (decide (c.n1<0)) (by first | (simp; done) | (simp; omega)) ?_
 refine xF (decide (c.n1>12)) (by first | (simp; done) | (simp; omega)) ?_
 refine xF (!decide (c.s1>c.s0)) (by first | (simp; done) | (simp; omega)) ?_
 exact xR () trivial
def mayB(k:Int): Bool:=decide (1≤k∧k≤2147483647)
theorem t_may(k:Int): Ct Tryz.prog 56 (sB [.s (.i .i64 k)] [] 0 (mayB k) []):=by
 refine cX 9 xxI Tryz.func56 fun g F => ?_
 refine xB (decide (k≥1)) (fun h1 => ?_) (fun h1 => ?_)
 ·skip
  replace h1:=decT h1
  exact xR (decide (k≤2147483647)) (by simp only [mayB]; simp; omega)
 ·skip
  replace h1:=decF h1
  exact xR (false) (by simp only [mayB]; simp; omega)
end Go.Proofs.YthijdhenekmojaaGreatDoor
/- Where a key's search starts; which class words fit. -/
set_option maxRecDepth 100000
set_option maxHeartbeats 0
namespace Go.Proofs.YthijdhenekmojaaGreatDoor
open Go.Sx
abbrev sI(args:List SA)(pre:List SE)(n:Nat)(fact:Int→Prop)(post:List SE): Sp Int:=⟨args,pre,n,fact,fun x=>[.s (.i .i64 x)],fun _=>post⟩
abbrev sW(args:List SA)(pre:List SE)(n:Nat)(fact:Int→Prop)(post:List SE): Sp Int:=⟨args,pre,n,fact,fun x=>[.s (.i .u64 x)],fun _=>post⟩
theorem wr64(r:Int): 0≤IntKind.u64.wrap r∧IntKind.u64.wrap r≤18446744073709551615:=by rw [wrapU64]; omega
theorem wr_id{x:Int}(h:0≤x∧x≤18446744073709551615): IntKind.u64.wrap x=x:=by rw [wrapU64]; omega
theorem t_mix(x:Int)(hx:InK .u64 x): Ct Tryz.prog 57 (sW [.s (.i .u64 x)] [] 0 (fun y=>0≤y∧y≤18446744073709551615) []):=by
 refine cX 17 xaI Tryz.func57 fun g F => ?_
 refine xO ((0:Int)≤(30:Int)) (by omega) ?_
 refine xO ((0:Int)≤(27:Int)) (by omega) ?_
 refine xO ((0:Int)≤(31:Int)) (by omega) ?_
 exact xR (IntKind.u64.wrap ↑(BitVec.ofInt IntKind.u64.bits (IntKind.u64.wrap (IntKind.u64.wrap ↑(BitVec.ofInt IntKind.u64.bits (IntKind.u64.wrap (IntKind.u64.wrap ↑(BitVec.ofInt IntKind.u64.bits x ^^^ BitVec.ofInt IntKind.u64.bits (bShr IntKind.u64 x 30)).toNat*13787848793156543929)) ^^^ BitVec.ofInt IntKind.u64.bits (bShr IntKind.u64 (IntKind.u64.wrap (IntKind.u64.wrap ↑(BitVec.ofInt IntKind.u64.bits x ^^^ BitVec.ofInt IntKind.u64.bits (bShr IntKind.u64 x 30)).toNat*13787848793156543929)) 27)).toNat*10723151780598845931)) ^^^ BitVec.ofInt IntKind.u64.bits (bShr IntKind.u64 (IntKind.u64.wrap (IntKind.u64.wrap ↑(BitVec.ofInt IntKind.u64.bits (IntKind.u64.wrap (IntKind.u64.wrap ↑(BitVec.ofInt IntKind.u64.bits x ^^^ BitVec.ofInt IntKind.u64.bits (bShr IntKind.u64 x 30)).toNat*13787848793156543929)) ^^^ BitVec.ofInt IntKind.u64.bits (bShr IntKind.u64 (IntKind.u64.wrap (IntKind.u64.wrap ↑(BitVec.ofInt IntKind.u64.bits x ^^^ BitVec.ofInt IntKind.u64.bits (bShr IntKind.u64 x 30)).toNat*13787848793156543929)) 27)).toNat*10723151780598845931)) 31)).toNat) (wr64 _)
theorem tm_rng{x t:Int}(hx:0≤x∧x≤18446744073709551615)(ht:1≤t∧t≤8): 0≤x.tmod (IntKind.u64.wrap t)∧x.tmod (IntKind.u64.wrap t)<8:=by
 rw [wr_id (by omega)]
 have h1:=Int.tmod_nonneg t hx.1
 have h2:=Int.tmod_lt_of_pos x (show 0<t by omega)
 omega
theorem tm_in{x t:Int}(hx:0≤x∧x≤18446744073709551615)(ht:1≤t∧t≤8): InK .i64 (x.tmod (IntKind.u64.wrap t)):=by
 have:=tm_rng hx ht
 simp only [InK]; omega
theorem t_start(c:Cfg)(hc:c.Ok)(k:Int): Ct Tryz.prog 31 (sI [.g (cfgS c),.s (.i .i64 k)] [] 0 (fun e=>e<0↔mayB k=false) []):=by
 have hc':=hc
 simp only [Cfg.Ok] at hc
 refine cX 21 xaI Tryz.func31 fun g F => ?_
 refine xN fun b1 => ?_
 refine xC Tryz.call26 (t_plan (c) (by assumption)) fun _ n2 _ => ?_
 refine xB (decide (k≥1)) (fun h3 => ?_) (fun h3 => ?_)
 ·skip
  replace h3:=decT h3
  refine xB (!decide (k≤2147483647)) (fun h4 => ?_) (fun h4 => ?_)
  ·skip
   replace h4:=ntT h4
   replace h4:=decF h4
   exact xR (-1) (by simp [mayB]; omega)
  ·skip
   replace h4:=ntF h4
   replace h4:=decT h4
   refine xC Tryz.call57 (t_mix (IntKind.u64.wrap k) (wr64 _)) fun xn6 n6 hxn6 => ?_
   refine xO (IntKind.u64.wrap c.topics≠0) (by rw [wr_id (by omega)]; omega) ?_
   refine xO (InK IntKind.i64 (xn6.tmod (IntKind.u64.wrap c.topics))) (tm_in hxn6 (by omega)) ?_
   exact xR (xn6.tmod (IntKind.u64.wrap c.topics)) (by have:=(tm_rng hxn6 (show 1≤c.topics∧c.topics≤8 by omega)).1; simp [mayB]; omega)
 ·skip
  replace h3:=decF h3
  exact xR (-1) (by simp [mayB]; omega)
def fitsC(c:Cfg)(n:Int): Int:=if n<1 then -1 else if c.s0≥n then 0 else if c.s1≥n then 1 else -1
theorem t_fits(c:Cfg)(hc:c.Ok)(n:Int): Ct Tryz.prog 59 (sI [.g (cfgS c),.s (.i .i64 n)] [] 0 (fun e=>e=fitsC c n) []):=by
 refine cX 16 xaI Tryz.func59 fun g F => ?_
 refine xN fun b1 => ?_
 refine xN fun b2 => ?_
 refine xC Tryz.call26 (t_plan (c) (by assumption)) fun _ n3 _ => ?_
 refine xB (decide (n<1)) (fun h4 => ?_) (fun h4 => ?_)
 ·skip
  replace h4:=decT h4
  exact xR (-1) (by unfold fitsC; omega)
 ·skip
  replace h4:=decF h4
  refine xT (decide ((0:Int) < ↑((2:Nat)-(0:Nat)))) rfl ?_
  refine xN fun b5 => ?_
  refine xB (decide (c.s0≥n)) (fun h6 => ?_) (fun h6 => ?_)
  ·skip
   replace h6:=decT h6
   exact xR (0) (by unfold fitsC; omega)
  ·skip
   replace h6:=decF h6
   refine xT (decide (IntKind.i64.wrap ((0:Int)+(1:Int)) < ↑((2:Nat)-(0:Nat)))) rfl ?_
   refine xN fun b7 => ?_
   refine xB (decide (c.s1≥n)) (fun h8 => ?_) (fun h8 => ?_)
   ·skip
    replace h8:=decT h8
    exact xR (IntKind.i64.wrap (0+1)) (by show(1:Int) = _; unfold fitsC; omega)
   ·skip
    replace h8:=decF h8
    refine xF (decide (IntKind.i64.wrap (IntKind.i64.wrap ((0:Int)+(1:Int))+(1:Int)) < ↑((2:Nat)-(0:Nat)))) rfl ?_
    exact xR (-1) (by unfold fitsC; omega)
end Go.Proofs.YthijdhenekmojaaGreatDoor
/- The model: what is created. -/
set_option maxRecDepth 100000
set_option maxHeartbeats 0
namespace Go.Proofs.YthijdhenekmojaaGreatDoor
open Go.Sx
def ekI(k:Int): Value:=.int .i64 k
def evT(x:Bool×PRow): Value:=.agg #[.bool x.1,.slice x.2.a x.2.xs.length x.2.c]
theorem kI: KeyOk Tryz.prog 3 ekI:=keyOk_int (kk:=.i64) (by kernel_rfl)
theorem kH: KeyOk Tryz.prog 116 ekP:=keyOk_two (by kernel_rfl)
abbrev TopM:= List (Int×Bool×PRow)
abbrev HanM:= List ((Int×Int)×PRow)
abbrev dS(cl ki ke:Int)(la:Bool)(wo:SV)(ha:Int)(pa:SV)(co:Int)(rw rk:SV)(n cm fr to_:Int): List SV:=[.i .i64 cl,.l .i64 ki,.i .i64 ke,.bo la,wo,.i .i64 ha,pa,.i .i64 co,rw,rk,.i .u64 n,.i .i64 cm,.i .i64 fr,.i .i64 to_]
structure RT where
 b:Bool
 T:TopM
def createM(c:Cfg)(T:TopM)(ke:Int)(la:Bool)(co:Int): RT:=
 if mayB ke=false then⟨co==1,T⟩ else
 if co=0 then(if (kget T ke).isSome=true∨(T.length:Int)=c.topics then⟨false,T⟩ else⟨true,kset T ke (la,.nil)⟩) else
 if co=14 then⟨(kget T ke).isSome,T⟩ else
 if co=15 then⟨!(kget T ke).isSome&&((T.length:Int)==c.topics),T⟩ else⟨co==17,T⟩
abbrev mdl(c:Cfg)(sv hv:SV)(mt:Nat): SE:=.pts 0 (cfgS c++[sv,.mb 1 mt,hv]) 81
abbrev topR(mt:Nat)(T:TopM): SE:=.rs 1 fun _=>KMap mt ekI evT T
theorem may_of{e k:Int}(h:e<0↔mayB k=false)(h2:¬e<0): mayB k=true:=by
 cases hm:mayB k with
 | true=>rfl
 | false=>exact absurd (h.2 hm) h2
theorem t_create(c:Cfg)(hc:c.Ok)(T:TopM)(mt:Nat)(sv hv:Value)(cl ke:Int)(la:Bool)(wo pa rw rk:Value)(ha co n cm fr to_:Int):
  Ct Tryz.prog 13 (⟨[.s (.p 0 0),.g (dS cl 1 ke la (.o wo) ha (.o pa) co (.o rw) (.o rk) n cm fr to_)],[mdl c (.o sv) (.o hv) mt,topR mt T],2,
   fun x=>x=createM c T ke la co,fun x=>[.s (.bo x.b)],fun x=>[mdl c (.o sv) (.o hv) mt,topR mt x.T]⟩:Sp RT):=by
 refine cX 148 xaI Tryz.func13 fun g F => ?_
 refine xN fun b1 => ?_
 refine xC Tryz.call31 (t_start (c) (by omega) (ke)) fun xn2 n2 hxn2 => ?_
 refine xB (decide (xn2<0)) (fun h3 => ?_) (fun h3 => ?_)
 ·skip
  replace h3:=decT h3
  exact xR ({b:=co==1,T:=T}) (by have hm:=hxn2.1 (by assumption); simp [createM,hm])
 ·skip
  replace h3:=decF h3
  refine xA ?_ ?_
  ·skip
   refine xMg 1 (mt) (T) (evT) kI (ke) (false,PRow.nil) true ?_
   refine xN fun b4 => ?_
   refine xN fun b5 => ?_
   refine xMl 1 (mt) (T) ekI evT ?_
   refine xB (co==0) (fun h6 => ?_) (fun h6 => ?_)
   ·skip
    replace h6:=decT h6
    refine xB ((kget T ke).isSome) (fun h7 => ?_) (fun h7 => ?_)
    ·skip
     exact xR ({b:=false,T:=T}) (by have hm:=may_of hxn2 (by assumption); simp [createM,hm, *])
    ·skip
     refine xB (↑(List.length T)==c.topics) (fun h8 => ?_) (fun h8 => ?_)
     ·skip
      replace h8:=decT h8
      exact xR ({b:=false,T:=T}) (by have hm:=may_of hxn2 (by assumption); simp [createM,hm, *])
     ·skip
      replace h8:=decF h8
      refine xMs 1 (mt) (T) (evT) kI (ke) (la,PRow.nil) ?_
      exact xR ({b:=true,T:=kset T ke (la,PRow.nil)}) (by have hm:=may_of hxn2 (by assumption); simp [createM,hm, *])
   ·skip
    replace h6:=decF h6
    refine xB (co==14) (fun h9 => ?_) (fun h9 => ?_)
    ·skip
     replace h9:=decT h9
     exact xR ({b:=(kget T ke).isSome,T:=T}) (by have hm:=may_of hxn2 (by assumption); simp [createM,hm, *])
    ·skip
     replace h9:=decF h9
     refine xB (co==15) (fun h10 => ?_) (fun h10 => ?_)
     ·skip
      replace h10:=decT h10
      refine xB (!(kget T ke).isSome) (fun h11 => ?_) (fun h11 => ?_)
      ·skip
       replace h11:=ntT h11
       exact xR ({b := ↑(List.length T)==c.topics,T:=T}) (by have hm:=may_of hxn2 (by assumption); simp [createM,hm, *])
      ·skip
       replace h11:=ntF h11
       exact xR ({b:=false,T:=T}) (by have hm:=may_of hxn2 (by assumption); simp [createM,hm, *])
     ·skip
      replace h10:=decF h10
      exact xR ({b:=co==17,T:=T}) (by have hm:=may_of hxn2 (by assumption); simp [createM,hm, *])
  ·skip
   refine xN fun b12 => ?_
   refine xMg 1 (mt) (T) (evT) kI (ke) (false,PRow.nil) true ?_
   refine xN fun b13 => ?_
   refine xMl 1 (mt) (T) ekI evT ?_
   refine xB (co==0) (fun h14 => ?_) (fun h14 => ?_)
   ·skip
    replace h14:=decT h14
    refine xB ((kget T ke).isSome) (fun h15 => ?_) (fun h15 => ?_)
    ·skip
     exact xR ({b:=false,T:=T}) (by have hm:=may_of hxn2 (by assumption); simp [createM,hm, *])
    ·skip
     refine xB (↑(List.length T)==c.topics) (fun h16 => ?_) (fun h16 => ?_)
     ·skip
      replace h16:=decT h16
      exact xR ({b:=false,T:=T}) (by have hm:=may_of hxn2 (by assumption); simp [createM,hm, *])
     ·skip
      replace h16:=decF h16
      refine xMs 1 (mt) (T) (evT) kI (ke) (la,PRow.nil) ?_
      exact xR ({b:=true,T:=kset T ke (la,PRow.nil)}) (by have hm:=may_of hxn2 (by assumption); simp [createM,hm, *])
   ·skip
    replace h14:=decF h14
    refine xB (co==14) (fun h17 => ?_) (fun h17 => ?_)
    ·skip
     replace h17:=decT h17
     exact xR ({b:=(kget T ke).isSome,T:=T}) (by have hm:=may_of hxn2 (by assumption); simp [createM,hm, *])
    ·skip
     replace h17:=decF h17
     refine xB (co==15) (fun h18 => ?_) (fun h18 => ?_)
     ·skip
      replace h18:=decT h18
      refine xB (!(kget T ke).isSome) (fun h19 => ?_) (fun h19 => ?_)
      ·skip
       replace h19:=ntT h19
       exact xR ({b := ↑(List.length T)==c.topics,T:=T}) (by have hm:=may_of hxn2 (by assumption); simp [createM,hm, *])
      ·skip
       replace h19:=ntF h19
       exact xR ({b:=false,T:=T}) (by have hm:=may_of hxn2 (by assumption); simp [createM,hm, *])
     ·skip
      replace h18:=decF h18
      exact xR ({b:=co==17,T:=T}) (by have hm:=may_of hxn2 (by assumption); simp [createM,hm, *])
end Go.Proofs.YthijdhenekmojaaGreatDoor
/- Rows that are copied. -/
set_option maxRecDepth 100000
set_option maxHeartbeats 0
namespace Go.Proofs.YthijdhenekmojaaGreatDoor
open Go.Sx
abbrev sR(args:List SA)(pre:List SE)(n:Nat)(ret:List SA)(post:Sx.Rest→List SE): Sp Sx.Rest:=⟨args,pre,n,fun _=>True,fun _=>ret,post⟩
theorem t_cloneS(xs:List Int)(n:Nat)(hn:xs.length=n)(hl:xs.length≤1000000): Ct Tryz.prog 46 (sR [.s (.s 0 n)] [.sl 0 (Sx.encI .u64) 0 1 xs 42] 1 [.s (.s 1 n)] fun z=>[.sl 0 (Sx.encI .u64) 0 1 xs 42,.rd 1 (Sx.encI .u64) 0 1 xs 42 z]):=by
 subst hn
 intro g
 obtain⟨b,a,c,h,rfl⟩:=rf_eta g
 cases a with
 | none=>
  refine ctr_sl_nil (i:=0) rfl ?_
  rintro rfl rfl
  refine cXg 8 xaI Tryz.func46 fun F => ?_
  refine xWr (.i 7) _ ⟨[(0,[]),(7,[])],9⟩ (view_nilrd (Sx.encI .u64) 0 1 42 ⟨[],[],(0,0)⟩ (sizedI _)) ?_
  exact xR ⟨[],[],(0,0)⟩ trivial
 | some ad=>
  refine cXg 8 xaI Tryz.func46 fun F => ?_
  refine xN fun b1 => ?_
  refine xAf 42 (some ⟨b1,0,none⟩) 0 xs (sizedI .u64) (oneI _) 8 (.slice (some ad) xs.length c) (by omega) (fun F=>src_sl (i:=0) (d:=0) (sz:=1) (t:=42) (by kernel_rfl)) (fun a' c' r => ?_)
  exact xR r trivial
theorem t_cloneR(xs:List Int)(z0:Sx.Rest)(n:Nat)(hn:xs.length=n)(hl:xs.length≤1000000): Ct Tryz.prog 46 (sR [.s (.s 0 n)] [.rd 0 (Sx.encI .u64) 0 1 xs 42 z0] 1 [.s (.s 1 n)] fun z=>[.rd 0 (Sx.encI .u64) 0 1 xs 42 z0,.rd 1 (Sx.encI .u64) 0 1 xs 42 z]):=by
 subst hn
 intro g
 obtain⟨b,a,c,h,rfl⟩:=rf_eta g
 cases a with
 | none=>
  refine ctr_rd_nil ?_
  rintro rfl rfl
  refine cXg 8 xaI Tryz.func46 fun F => ?_
  refine xWr (.i 7) _ ⟨[(0,[]),(7,[])],9⟩ (view_nilrd (Sx.encI .u64) 0 1 42 ⟨[],[],(0,0)⟩ (sizedI _)) ?_
  exact xR ⟨[],[],(0,0)⟩ trivial
 | some ad=>
  refine cXg 8 xaI Tryz.func46 fun F => ?_
  refine xN fun b1 => ?_
  refine xAf 42 (some ⟨b1,0,none⟩) 0 xs (sizedI .u64) (oneI _) 8 (.slice (some ad) xs.length c) (by omega) (fun F=>src_rd (i:=0) (d:=0) (sz:=1) (t:=42) (r:=z0) (by kernel_rfl)) (fun a' c' r => ?_)
  exact xR r trivial
end Go.Proofs.YthijdhenekmojaaGreatDoor
/- The model: what stays, and what is looked up. -/
set_option linter.unusedSimpArgs false
set_option maxRecDepth 100000
set_option maxHeartbeats 0
namespace Go.Proofs.YthijdhenekmojaaGreatDoor
open Go.Sx
abbrev mdl2(c:Cfg)(sv:SV)(mt mh:Nat): SE:=.pts 0 (cfgS c++[sv,.mb 1 mt,.mb 2 mh]) 81
abbrev hpR(mh:Nat)(H:HanM)(ps:List PRow): SE:=.rs 2 fun _=>HP 42 mh H ps
structure RP where
 b:Bool
 T:TopM
 ps:List PRow
def fitsB(c:Cfg)(T:TopM)(ke:Int)(n:Int): Bool:=(kget T ke).isSome&&(if ((kget T ke).getD (false,.nil)).1=true then decide (fitsC c n≥0) else decide (n≤c.small))
/-- is something kept? -/
def pubK(c:Cfg)(T:TopM)(ke n co:Int): Bool:=mayB ke&&decide (n≠0)&&decide (co=0)&&fitsB c T ke n
def pubB(c:Cfg)(T:TopM)(ke n co:Int): Bool:=
 if mayB ke=false∨n=0 then co==1 else
 if co=0 then fitsB c T ke n else if co=12 then !(kget T ke).isSome else
 if co=21 then(kget T ke).isSome && !fitsB c T ke n else decide (co=18∨co=16∨co=17)
def pubR(c:Cfg)(T:TopM)(ps:List PRow)(ke:Int)(ws:List Int)(co:Int)(x:RP): Prop:=
 x.b=pubB c T ke ws.length co∧(if pubK c T ke ws.length co=true then ∃q:PRow,q.xs=ws∧x.T=kset T ke (((kget T ke).getD (false,.nil)).1,q)∧x.ps=ps++[q] else x.T=T∧(x.ps=ps∨x.ps=ps++[]))
def PoolOk(T:TopM)(H:HanM)(ps:List PRow): Prop:=(∀x∈T,x.2.2 = .nil∨x.2.2∈ps)∧∀x∈H,x.2 = .nil∨x.2∈ps
theorem kget_mem{κ β : Type}[DecidableEq κ]{l:List (κ×β)}{k : κ}{x : β}(h:kget l k=some x): ∃k',(k',x)∈l:=by
 unfold kget at h
 cases hf:l.find? (fun x=>x.1==k) with
 | none=>rw [hf] at h; cases h
 | some y=>
  rw [hf] at h
  simp only [Option.map_some,Option.some.injEq] at h
  subst h
  exact⟨y.1,List.mem_of_find?_eq_some hf⟩
theorem pool_row{T:TopM}{H:HanM}{ps:List PRow}(h:PoolOk T H ps)(k:Int): ((kget T k).getD (false,.nil)).2 = .nil∨((kget T k).getD (false,.nil)).2∈ps:=by
 cases hk:kget T k with
 | none=>exact .inl rfl
 | some x=>
  obtain⟨k',hm⟩:=kget_mem hk
  exact h.1 _ hm
end Go.Proofs.YthijdhenekmojaaGreatDoor
/- The model: a new one; what a topic is. -/
set_option linter.unusedSimpArgs false
set_option maxRecDepth 100000
set_option maxHeartbeats 0
namespace Go.Proofs.YthijdhenekmojaaGreatDoor
open Go.Sx
structure NwT where
 mt:Nat
 mh:Nat
abbrev schA: SE:=.pts 0 [.sp 1 2 2] 85
abbrev schB: SE:=.pts 1 [.l .i64 1,.l .i64 0,.l .i64 3,.l .i64 0] 84
theorem t_new(c:Cfg)(hc:c.Ok): Ct Tryz.prog 8 (⟨[.g (cfgS c),.s (.sp 0 1 1)],[schA,schB],2,fun _=>True,fun _=>[.s (.p 2 0)],fun x=>[schA,schB,.pts 2 (cfgS c++[.sp 0 1 1,.mb 3 x.mt,.mb 4 x.mh]) 81,.rs 3 fun _=>KMap x.mt ekI evT [],.rs 4 fun _=>HP 42 x.mh [] []]⟩:Sp NwT):=by
 refine cX 19 xaI Tryz.func8 fun g F => ?_
 refine xN fun b1 => ?_
 refine xC Tryz.call26 (t_plan (c) (by omega)) fun _ n2 _ => ?_
 refine xF (decide ((↑(1:Nat):Int)<(1:Int))) rfl ?_
 refine xF (decide ((↑(1:Nat):Int)>(8:Int))) rfl ?_
 refine xT (decide ((0:Int)<(↑(1:Nat):Int))) rfl ?_
 refine xF (decide ((↑(2:Nat):Int)<(1:Int))) rfl ?_
 refine xF (decide ((↑(2:Nat):Int)>(6:Int))) rfl ?_
 refine xT (decide ((0:Int)<(↑(2:Nat):Int))) rfl ?_
 refine xN fun b3 => ?_
 refine xF (decide ((0:Int)≥(↑(1:Nat):Int))) rfl ?_
 refine xT (decide (IntKind.i64.wrap ((0:Int)+(1:Int))<(↑(2:Nat):Int))) rfl ?_
 refine xN fun b4 => ?_
 refine xF (decide ((0:Int)≥(↑(1:Nat):Int))) rfl ?_
 refine xF (decide (IntKind.i64.wrap (IntKind.i64.wrap ((0:Int)+(1:Int))+(1:Int))<(↑(2:Nat):Int))) rfl ?_
 refine xF (decide (IntKind.i64.wrap ((0:Int)+(1:Int))<(↑(1:Nat):Int))) rfl ?_
 refine xN fun b5 => ?_
 refine xN fun b6 => ?_
 refine xN fun b7 => ?_
 refine xEndL [5,6] [.raw b5 (.map #[] 0),.raw b6 (.map #[] 0)] [.res (KMap b5 ekI evT []),.res (HP 42 b6 [] [])] [66,67] pv_new ?_
 exact xR ({mt:=b5,mh:=b6}) (by assumption)
end Go.Proofs.YthijdhenekmojaaGreatDoor
/- errors.As at a code. -/
namespace Go.Proofs.YthijdhenekmojaaGreatDoor
open Go.RowKit Go.Extern.Stop Go.Stop Go.Extern
theorem as_nil(t:Value)(w:World):
  Calls Tryz.prog 82 #[.nilIface,t] w fun e w'=>e = .returned (.bool false)∧w'=w:=by
 go_enter Tryz.func82,Tryz.ntmps82
 go_wp2
 go_ret
 exact⟨rfl,rfl⟩
theorem Tryz.valueOfP(t:Addr)(w:World): (ReflectliteValue.unpack (.iface 146 (.pointer (some t)))).run Tryz.prog w
  = .ok (.agg #[.pointer (some ⟨1,146,none⟩),.pointer (some ⟨w.heap.size,0,none⟩),.int .u64 150]) (w.alloc (.cells #[.pointer (some t)] 146)):=by kernel_rfl
theorem Tryz.typeP(a:Addr)(w:World): (ReflectliteValue.methodAny (ReflectliteValue.valueError "reflectlite.Value.Type" 0) (fun t _ _ _=>ReflectliteType.toType t) #[.agg #[.pointer (some ⟨1,146,none⟩),.pointer (some a),.int .u64 150]]).run Tryz.prog w
  = .ok (.iface 184 (.agg #[.pointer (some ⟨1,146,none⟩)])) w:=by kernel_rfl
theorem Tryz.methodKind(h:Value)(w:World): (Go.method 334 184 (.agg #[h]) "Kind").run Tryz.prog w = .ok (139,h) w:=by kernel_rfl
theorem Tryz.kindP(w:World): ((ReflectliteType.abiMethod fun t=>Functor.map (fun a:Nat=>Value.int IntKind.u8 (a:Int)) (Rtype.kind t)) #[.pointer (some ⟨1,146,none⟩)]).run Tryz.prog w = .ok (.int .u8 22) w:=by kernel_rfl
theorem Tryz.kindE(w:World): ((ReflectliteType.abiMethod fun t=>Functor.map (fun a:Nat=>Value.int IntKind.u8 (a:Int)) (Rtype.kind t)) #[.pointer (some ⟨1,41,none⟩)]).run Tryz.prog w = .ok (.int .u8 2) w:=by kernel_rfl
theorem rlm(z:Sem Value)(f:TypeId→Addr→Nat→Nat→Sem Value)(v:Value):
  ReflectliteValue.method z f #[v]=(do match ←ReflectliteValue.parts v with | none=>z | some (t,a,fl)=>f t a fl (fl % 32)):=rfl
theorem Tryz.partsP(a:Addr)(w:World): (ReflectliteValue.parts (.agg #[.pointer (some ⟨1,146,none⟩),.pointer (some a),.int .u64 150])).run Tryz.prog w = .ok (some (146,a,150)) w:=by kernel_rfl
theorem Tryz.isNilP(a p:Addr)(W:World)(ha:W.cell? a=some (.pointer (some p))):
  (ReflectliteValue.method (ReflectliteValue.valueError "reflectlite.Value.IsNil" 0) ReflectliteValue.isNil #[.agg #[.pointer (some ⟨1,146,none⟩),.pointer (some a),.int .u64 150]]).run Tryz.prog W = .ok (.bool false) W:=by
 rw [rlm]
 simp only [Sem.run_bind,Tryz.partsP,Result.andThen]
 simp [ReflectliteValue.isNil,loadVar,isAgg,underlying,Tryz.underlying146,ha,Result.andThen]
theorem Tryz.methodElem(h:Value)(w:World): (Go.method 334 184 (.agg #[h]) "Elem").run Tryz.prog w = .ok (149,.agg #[h]) w:=by kernel_rfl
theorem Tryz.methodImplements(h:Value)(w:World): (Go.method 334 184 (.agg #[h]) "Implements").run Tryz.prog w = .ok (150,.agg #[h]) w:=by kernel_rfl
theorem Tryz.methodAssignableTo(h:Value)(w:World): (Go.method 334 184 (.agg #[h]) "AssignableTo").run Tryz.prog w = .ok (147,.agg #[h]) w:=by kernel_rfl
theorem Tryz.elemP(w:World): (ReflectliteType.method ReflectliteType.elem #[.agg #[.pointer (some ⟨1,146,none⟩)]]).run Tryz.prog w = .ok (.iface 184 (.agg #[.pointer (some ⟨1,41,none⟩)])) w:=by kernel_rfl
theorem Tryz.implementsE(w:World): (ReflectliteType.relation "Implements" ReflectliteType.implements_ #[.agg #[.pointer (some ⟨1,41,none⟩)],.iface 184 (.agg #[.pointer (some ⟨1,75,none⟩)])]).run Tryz.prog w = .ok (.bool true) w:=by kernel_rfl
theorem Tryz.typeOfE(v:Value)(w:World): (ReflectliteType.typeOf #[.iface 41 v]).run Tryz.prog w = .ok (.iface 184 (.agg #[.pointer (some ⟨1,41,none⟩)])) w:=by kernel_rfl
theorem Tryz.assignableE(w:World): (ReflectliteType.relation "AssignableTo" ReflectliteType.assignableTo #[.agg #[.pointer (some ⟨1,41,none⟩)],.iface 184 (.agg #[.pointer (some ⟨1,41,none⟩)])]).run Tryz.prog w = .ok (.bool true) w:=by kernel_rfl
theorem Tryz.valueOfE(e:Int)(w:World): (ReflectliteValue.unpack (.iface 41 (.int .i64 e))).run Tryz.prog w
  = .ok (.agg #[.pointer (some ⟨1,41,none⟩),.pointer (some ⟨w.heap.size,0,none⟩),.int .u64 130]) (w.alloc (.cells #[.int .i64 e] 41)):=by kernel_rfl
theorem Tryz.elemOfP(w:World): (Rtype.elem? 146).run Tryz.prog w = .ok (some 41) w:=by kernel_rfl
theorem Tryz.mkE(p:Addr)(w:World): (ReflectliteValue.mk 41 p ReflectliteValue.flagAddr).run Tryz.prog w = .ok (.agg #[.pointer (some ⟨1,41,none⟩),.pointer (some p),.int .u64 386]) w:=by kernel_rfl
theorem Tryz.elemVP(a p:Addr)(W:World)(ha:W.cell? a=some (.pointer (some p))):
  (ReflectliteValue.method (ReflectliteValue.valueError "reflectlite.Value.Elem" 0) ReflectliteValue.elem #[.agg #[.pointer (some ⟨1,146,none⟩),.pointer (some a),.int .u64 150]]).run Tryz.prog W
   = .ok (.agg #[.pointer (some ⟨1,41,none⟩),.pointer (some p),.int .u64 386]) W:=by
 rw [rlm]
 simp only [Sem.run_bind,Tryz.partsP,Result.andThen]
 simp [ReflectliteValue.elem,loadVar,isAgg,underlying,Tryz.underlying146,ha,Result.andThen,Tryz.elemOfP,Tryz.mkE]
theorem rls: ∃s1 s2 s3:String,∀v x:Value,ReflectliteValue.set #[v,x]=(do
  let (some (dst,a,fl),some (src,b,_)):=(←ReflectliteValue.parts v,←ReflectliteValue.parts x)
   | unsupported (.noEntry s1)
  if fl / ReflectliteValue.flagAddr % 2==0 then unsupported (.noEntry s2)
  let val ←loadVar src b
  if ←Rtype.directlyAssignable dst src then storeVar dst a val
  else if ←Rtype.implements dst src then
   if (←Rtype.kind src)==20 then
    match val with
    | .nilIface=>unsupported (.noEntry s3)
    | _=>storeVar dst a val
   else storeVar dst a (.iface src val)
  else panicString ("reflectlite.Set: value of type " ++ (←Rtype.spelt src) ++ " is not assignable to type " ++ (←Rtype.spelt dst))
  pure (.tuple #[])):=⟨_,_,_,fun _ _=>rfl⟩
theorem Tryz.partsEa(a:Addr)(w:World): (ReflectliteValue.parts (.agg #[.pointer (some ⟨1,41,none⟩),.pointer (some a),.int .u64 386])).run Tryz.prog w = .ok (some (41,a,386)) w:=by kernel_rfl
theorem Tryz.partsE(a:Addr)(w:World): (ReflectliteValue.parts (.agg #[.pointer (some ⟨1,41,none⟩),.pointer (some a),.int .u64 130])).run Tryz.prog w = .ok (some (41,a,130)) w:=by kernel_rfl
theorem Tryz.directE(w:World): (Rtype.directlyAssignable 41 41).run Tryz.prog w = .ok true w:=by kernel_rfl
theorem Tryz.setE(ta b:Addr)(e:Int)(old:Value)(W:World)(hb:W.cell? b=some (.int .i64 e))(ht:W.cell? ta=some old)(hf:W.frozen? ta=false):
  (ReflectliteValue.set #[.agg #[.pointer (some ⟨1,41,none⟩),.pointer (some ta),.int .u64 386],.agg #[.pointer (some ⟨1,41,none⟩),.pointer (some b),.int .u64 130]]).run Tryz.prog W
   = .ok (.tuple #[]) (W.setCell ta (.int .i64 e)):=by
 obtain⟨s1,s2,s3,hrls⟩:=rls
 rw [hrls]
 simp only [Sem.run_bind,Tryz.partsEa,Tryz.partsE,Result.andThen]
 simp [ReflectliteValue.flagAddr,loadVar,isAgg,underlying,Tryz.underlying41,hb,Result.andThen,Tryz.directE,storeVar,Value.cells,storeCells,Addr.add]
 rw [run_store Tryz.prog W ta _ _ (by rfl)]
 simp [ht,hf]
set_option maxHeartbeats 4000000 in
theorem as_hit(e:Int)(t:Addr)(old:Value)(w:World)(hg:w.cell? ⟨0,0,none⟩=some (.iface 184 (.agg #[.pointer (some ⟨1,75,none⟩)])))(ht0:w.cell? t=some old)(hf0:w.frozen? t=false):
  Calls Tryz.prog 82 #[.iface 41 (.int .i64 e),.iface 146 (.pointer (some t))] w fun ev w'=>ev = .returned (.bool true)∧w'=((((w.alloc (.cells #[.pointer (some t)] 146)).alloc (.cells #[.pointer (some ⟨1,146,none⟩),.pointer (some ⟨w.heap.size,0,none⟩),.int .u64 150] 162)).alloc (.cells #[.pointer (some ⟨1,146,none⟩),.pointer (some ⟨w.heap.size,0,none⟩),.int .u64 150] 162)).alloc (.cells #[.int .i64 e] 41)).setCell t (.int .i64 e):=by
 have h6 := @run_callFunc_extern Tryz.prog 97 _ (fun args=>ReflectliteValue.unpack (args.getD 0 (.tuple #[]))) Tryz.func97 (by kernel_rfl) (by kernel_rfl) (by kernel_rfl) (by kernel_rfl)
 have h7 := @run_callFunc_extern Tryz.prog 98 _ (ReflectliteValue.methodAny (ReflectliteValue.valueError "reflectlite.Value.Type" 0) (fun t _ _ _=>ReflectliteType.toType t)) Tryz.func98 (by kernel_rfl) (by kernel_rfl) (by kernel_rfl) (by kernel_rfl)
 have h8 := @run_callFunc_extern Tryz.prog 99 _ (ReflectliteValue.method (ReflectliteValue.valueError "reflectlite.Value.IsNil" 0) ReflectliteValue.isNil) Tryz.func99 (by kernel_rfl) (by kernel_rfl) (by kernel_rfl) (by kernel_rfl)
 have h27 := @run_callFunc_extern Tryz.prog 139 _ (ReflectliteType.abiMethod fun t=>do pure (.int .u8 (←Rtype.kind t))) Tryz.func139 (by kernel_rfl) (by kernel_rfl) (by kernel_rfl) (by kernel_rfl)
 have h37 := @run_callFunc_extern Tryz.prog 149 _ (ReflectliteType.method ReflectliteType.elem) Tryz.func149 (by kernel_rfl) (by kernel_rfl) (by kernel_rfl) (by kernel_rfl)
 have h38 := @run_callFunc_extern Tryz.prog 150 _ (ReflectliteType.relation "Implements" ReflectliteType.implements_) Tryz.func150 (by kernel_rfl) (by kernel_rfl) (by kernel_rfl) (by kernel_rfl)
 have h10 := @run_callFunc_extern Tryz.prog 115 _ (ReflectliteType.typeOf) Tryz.func115 (by kernel_rfl) (by kernel_rfl) (by kernel_rfl) (by kernel_rfl)
 have h35 := @run_callFunc_extern Tryz.prog 147 _ (ReflectliteType.relation "AssignableTo" ReflectliteType.assignableTo) Tryz.func147 (by kernel_rfl) (by kernel_rfl) (by kernel_rfl) (by kernel_rfl)
 have h11 := @run_callFunc_extern Tryz.prog 116 _ (ReflectliteValue.method (ReflectliteValue.valueError "reflectlite.Value.Elem" 0) ReflectliteValue.elem) Tryz.func116 (by kernel_rfl) (by kernel_rfl) (by kernel_rfl) (by kernel_rfl)
 have h12 := @run_callFunc_extern Tryz.prog 117 _ (ReflectliteValue.set) Tryz.func117 (by kernel_rfl) (by kernel_rfl) (by kernel_rfl) (by kernel_rfl)
 have xtypeOfE:=Tryz.typeOfE
 have xmethodAssignableTo:=Tryz.methodAssignableTo
 have xassignableE:=Tryz.assignableE
 have xvalueOfE:=Tryz.valueOfE
 have xvalueOfP:=Tryz.valueOfP
 have xtypeP:=Tryz.typeP
 have xmethodKind:=Tryz.methodKind
 have xmethodElem:=Tryz.methodElem
 have xmethodImplements:=Tryz.methodImplements
 have xkindP:=Tryz.kindP
 have xkindE:=Tryz.kindE
 have xelemP:=Tryz.elemP
 have ximplementsE:=Tryz.implementsE
 have n8:=Tryz.isNilP ⟨w.heap.size,0,none⟩ t ((w.alloc (.cells #[.pointer (some t)] 146)).alloc (.cells #[.pointer (some ⟨1,146,none⟩),.pointer (some ⟨w.heap.size,0,none⟩),.int .u64 150] 162)) (by simp)
 have hlt:0<w.heap.size:=by
  rcases Nat.eq_zero_or_pos w.heap.size with h0 | h
  ·simp [World.cell?,h0] at hg
  ·exact h
 have hg2:((w.alloc (.cells #[.pointer (some t)] 146)).alloc (.cells #[.pointer (some ⟨1,146,none⟩),.pointer (some ⟨w.heap.size,0,none⟩),.int .u64 150] 162)).cell? ⟨0,0,none⟩=some (.iface 184 (.agg #[.pointer (some ⟨1,75,none⟩)])):=by
  rw [World.cell?_alloc_lt _ _ ⟨0,0,none⟩ (by simp),World.cell?_alloc_lt _ _ ⟨0,0,none⟩ hlt]; exact hg
 have htl:t.block<w.heap.size:=by
  rcases Nat.lt_or_ge t.block w.heap.size with h | h
  ·exact h
  ·simp [World.cell?,Array.getElem?_eq_none h] at ht0
 have el:=Tryz.elemVP ⟨w.heap.size,0,none⟩ t (((w.alloc (.cells #[.pointer (some t)] 146)).alloc (.cells #[.pointer (some ⟨1,146,none⟩),.pointer (some ⟨w.heap.size,0,none⟩),.int .u64 150] 162)).alloc (.cells #[.pointer (some ⟨1,146,none⟩),.pointer (some ⟨w.heap.size,0,none⟩),.int .u64 150] 162)) (by rw [World.cell?_alloc_lt _ _ ⟨w.heap.size,0,none⟩ (by simp; omega)]; simp)
 have st:=Tryz.setE t ⟨w.heap.size+1+1+1,0,none⟩ e old ((((w.alloc (.cells #[.pointer (some t)] 146)).alloc (.cells #[.pointer (some ⟨1,146,none⟩),.pointer (some ⟨w.heap.size,0,none⟩),.int .u64 150] 162)).alloc (.cells #[.pointer (some ⟨1,146,none⟩),.pointer (some ⟨w.heap.size,0,none⟩),.int .u64 150] 162)).alloc (.cells #[.int .i64 e] 41))
  (by rw [World.cell?_alloc_at _ _ _ _ (by simp)]; rfl)
  (by rw [World.cell?_alloc_lt _ _ t (by simp; omega),World.cell?_alloc_lt _ _ t (by simp; omega),World.cell?_alloc_lt _ _ t (by simp; omega),World.cell?_alloc_lt _ _ t htl]; exact ht0)
  (by rw [World.frozen?_alloc_old _ _ t (by simp; omega),World.frozen?_alloc_old _ _ t (by simp; omega),World.frozen?_alloc_old _ _ t (by simp; omega),World.frozen?_alloc_old _ _ t (Nat.ne_of_lt htl)]; exact hf0)
 go_enter Tryz.func82,Tryz.ntmps82
 go_wp2
 refine wp_loop_rounds 1 ?_
 rw [rounds_succ]
 go_wp2
 go_ret
 exact⟨rfl,rfl⟩
end Go.Proofs.YthijdhenekmojaaGreatDoor
namespace Go.Proofs.YthijdhenekmojaaGreatDoor
open Go.Sx
/-- the cell of the variable errors.errorType -/
def handleV: Value:=.iface 184 (.agg #[.pointer (some ⟨1,75,none⟩)])
theorem as_nilC(t:Value): Ctr Tryz.prog 82 #[.nilIface,t] [] (Ret (.bool false) []):=by
 intro F w hi
 refine(as_nil t w).mono ?_
 rintro e w' ⟨rfl,rfl⟩
 exact⟨_,_,rfl,⟨rfl,rfl⟩,hi⟩
theorem as_hitC(gt:Nat)(gf:Nat×Nat)(b:Nat)(old k:Int): Ctr Tryz.prog 82 #[.iface 41 (.int .i64 k),.iface 146 (.pointer (some ⟨b,0,none⟩))] [.raw 0 (.cells #[handleV] gt gf),.pts b [.int .i64 old] 41]
  (Ret (.bool true) [.raw 0 (.cells #[handleV] gt gf),.pts b [.int .i64 k] 41]):=by
 intro F w hi
 have h0:=(hi.one (i:=0) rfl (b:=0) (o:=.cells #[handleV] gt gf) (fun g hg=>hg)).1
 have hb:=(hi.one (i:=1) rfl (b:=b) (o:=.cells #[.int .i64 old] 41 (0,0)) (fun g hg=>hg)).1
 refine(as_hit k ⟨b,0,none⟩ (.int .i64 old) w (by simp [World.cell?,h0,handleV]) (by simp [World.cell?,hb]) (by simp [World.frozen?,hb])).mono ?_
 rintro e w' ⟨rfl,rfl⟩
 refine⟨_,_,rfl,⟨rfl,rfl⟩, ?_⟩
 have h4:In _ F (((((w.alloc (.cells #[.pointer (some ⟨b,0,none⟩)] 146)).alloc (.cells #[.pointer (some ⟨1,146,none⟩),.pointer (some ⟨w.heap.size,0,none⟩),.int .u64 150] 162)).alloc (.cells #[.pointer (some ⟨1,146,none⟩),.pointer (some ⟨w.heap.size,0,none⟩),.int .u64 150] 162)).alloc (.cells #[.int .i64 k] 41))):=(((hi.alloc (.cells #[.pointer (some ⟨b,0,none⟩)] 146)).alloc (.cells #[.pointer (some ⟨1,146,none⟩),.pointer (some ⟨w.heap.size,0,none⟩),.int .u64 150] 162)).alloc (.cells #[.pointer (some ⟨1,146,none⟩),.pointer (some ⟨w.heap.size,0,none⟩),.int .u64 150] 162)).alloc (.cells #[.int .i64 k] 41)
 obtain⟨h5,h6⟩:=h4.one (i:=1) rfl (b:=b) (o:=.cells #[.int .i64 old] 41 (0,0)) (fun g hg=>hg)
 have h7:=h6 (.cells #[.int .i64 k] 41 (0,0)) (.pts b [.int .i64 k] 41) (((((w.alloc (.cells #[.pointer (some ⟨b,0,none⟩)] 146)).alloc (.cells #[.pointer (some ⟨1,146,none⟩),.pointer (some ⟨w.heap.size,0,none⟩),.int .u64 150] 162)).alloc (.cells #[.pointer (some ⟨1,146,none⟩),.pointer (some ⟨w.heap.size,0,none⟩),.int .u64 150] 162)).alloc (.cells #[.int .i64 k] 41)).setCell ⟨b,0,none⟩ (.int .i64 k)) rfl
  (by simp only [World.setCell]; rw [Array.getElem?_modify,if_pos rfl]; exact congrArg _ h5)
  (fun j hj=>by simp only [World.setCell]; rw [Array.getElem?_modify,if_neg (fun h=>hj h.symm)]) rfl rfl rfl
 exact In.left (L:=[.raw 0 (.cells #[handleV] gt gf),.pts b [.int .i64 k] 41]) (M:=[_,_,_,_]) h7
end Go.Proofs.YthijdhenekmojaaGreatDoor
/- The code of a trouble. -/
set_option maxRecDepth 100000
set_option maxHeartbeats 0
namespace Go.Proofs.YthijdhenekmojaaGreatDoor
open Go.Sx
/-- the frame has the variable errors.errorType -/
def HF(F:Fr): Prop := ∃t f,(0,Obj.cells #[handleV] t f)∈F.f
theorem HF.mono{F F':Fr}(h:HF F)(hF:∀p∈F.f,p∈F'.f): HF F':=by
 obtain⟨t,f,hm⟩:=h
 exact⟨t,f,hF _ hm⟩
theorem t_asE(k:Int)(F:Fr)(hF:HF F): CtF Tryz.prog F 82 (⟨[.s (.ii 41 .i64 k),.s (.ip 146 0)],[.pts 0 [.l .i64 0] 41],1,fun _=>True,fun _=>[.s (.bo true)],fun _=>[.pts 0 [.i .i64 k] 41]⟩:Sp Unit):=by
 intro g w hi
 obtain⟨t,f,hm⟩:=hF
 obtain⟨F',h1,h2⟩:=In.lend hm hi
 refine(as_hitC t f (g 0).b 0 k F' w h1).mono ?_
 rintro e w' ⟨v,post,rfl,⟨rfl,rfl⟩,hw⟩
 exact⟨_,_,rfl,⟨(),rf0,trivial,rfl,rfl⟩,h2 _ _ hw⟩
theorem t_as0(v:Value): Ct Tryz.prog 82 (⟨[.s .ni,.s (.o v)],[],0,fun _=>True,fun _=>[.s (.bo false)],fun _=>[]⟩:Sp Unit):=by
 intro g F w hi
 refine(as_nilC v F w hi).mono ?_
 rintro e w' ⟨v,post,rfl,⟨rfl,rfl⟩,hw⟩
 exact⟨_,_,rfl,⟨(),rf0,trivial,rfl,rfl⟩,hw⟩
def x0: Cx:=⟨[],[],[],[]⟩
theorem x0I: Inl Tryz.prog x0:=inl_ok trivial trivial
theorem t_top0: Ct Tryz.prog 65 (⟨[.s .ni],[],0,fun _=>True,fun _=>[.s (.l .i64 0)],fun _=>[]⟩:Sp Unit):=by
 refine cX 8 x0I Tryz.func65 fun g F => ?_
 refine xN fun b1 => ?_
 refine xC Tryz.call82 (t_as0 (Value.iface (146:Nat) (Value.pointer (some {block:=b1,off:=(0:Nat)})))) fun _ n2 _ => ?_
 refine xF (false) rfl ?_
 exact xR () trivial
theorem t_topE(k:Int)(F:Fr)(hF:HF F): CtF Tryz.prog F 65 (⟨[.s (.ii 41 .i64 k)],[],0,fun _=>True,fun _=>[.s (.i .i64 k)],fun _=>[]⟩:Sp Unit):=by
 refine cF 8 x0I Tryz.func65 fun g => ?_
 refine xN fun b1 => ?_
 refine xCt id Tryz.call82 (fun F' h=>t_asE k F' (hF.mono h)) fun _ n1 _ => ?_
 refine xT (true) rfl ?_
 exact xR () trivial
end Go.Proofs.YthijdhenekmojaaGreatDoor
/- Looking at a field, at the schema of the law, by a path of two. -/
set_option linter.unusedSimpArgs false
set_option maxRecDepth 100000
set_option maxHeartbeats 0
namespace Go.Proofs.YthijdhenekmojaaGreatDoor
open Go.Sx
theorem ink32(x:Int): InK .i64 (IntKind.u32.wrap x):=by
 have:=wrap32_rng x
 simp only [InK]; omega
theorem ink32p(x:Int): InK .i64 (1+IntKind.u32.wrap x):=by
 have:=wrap32_rng x
 simp only [InK]; omega
theorem ink32q(x:Int): InK .i64 (2+IntKind.u32.wrap x):=by
 have:=wrap32_rng x
 simp only [InK]; omega
theorem shr0{x:Int}(h:0≤x∧x≤4294967295): bShr .u64 x 32=0:=by
 have e:bShr .u64 x 32=x / 4294967296:=shr_lit x 32 (by decide)
 rw [e]; omega
theorem inkShr{x:Int}(h:0≤x∧x≤4294967295): InK .i64 (bShr .u64 x 32):=by
 rw [shr0 h]; simp only [InK]; omega
abbrev wlk(ask n code:Int): SE:=.pts 3 [.sp 0 1 1,.l .i64 0,.s 4 2,.l .i64 ask,.l .i64 0,.i .u64 n,.i .i64 code] 141
theorem t_check: Ct Tryz.prog 27 (⟨[.s (.sp 0 1 1)],[schA,schB],2,fun _=>True,fun _=>[.s .ni],fun _=>[schA,schB]⟩:Sp Unit):=by
 refine cX 7 xaI Tryz.func27 fun g F => ?_
 refine xF (decide ((↑(1:Nat):Int)<(1:Int))) rfl ?_
 refine xF (decide ((↑(1:Nat):Int)>(8:Int))) rfl ?_
 refine xT (decide ((0:Int)<(↑(1:Nat):Int))) rfl ?_
 refine xF (decide ((↑(2:Nat):Int)<(1:Int))) rfl ?_
 refine xF (decide ((↑(2:Nat):Int)>(6:Int))) rfl ?_
 refine xT (decide ((0:Int)<(↑(2:Nat):Int))) rfl ?_
 refine xN fun b1 => ?_
 refine xF (decide ((0:Int)≥(↑(1:Nat):Int))) rfl ?_
 refine xT (decide (IntKind.i64.wrap ((0:Int)+(1:Int))<(↑(2:Nat):Int))) rfl ?_
 refine xN fun b2 => ?_
 refine xF (decide ((0:Int)≥(↑(1:Nat):Int))) rfl ?_
 refine xF (decide (IntKind.i64.wrap (IntKind.i64.wrap ((0:Int)+(1:Int))+(1:Int))<(↑(2:Nat):Int))) rfl ?_
 refine xF (decide (IntKind.i64.wrap ((0:Int)+(1:Int))<(↑(1:Nat):Int))) rfl ?_
 exact xR () trivial
theorem t_start0(p0 p1:Int)(t:Int)(ht:t=0)(h0:p0=0∨p0=1): Ct Tryz.prog 61 (⟨[.s (.sp 0 1 1),.s (.i .i64 t),.s (.l .i64 1),.s (.s 2 2)],[schA,schB,.sl 2 (Sx.encI .i64) 0 1 [p0,p1] 3],3,fun _=>True,fun _=>[.s (.p 3 0)],fun _=>[schA,schB,.sl 2 (Sx.encI .i64) 0 1 [p0,p1] 3,wlk (1+p0) 0 0,.sl 4 (Sx.encI .i64) 0 1 [p0,p1] 3]⟩:Sp Unit):=by
 subst ht
 have h:∀q,q=0∨q=1→Ct Tryz.prog 61 (⟨[.s (.sp 0 1 1),.s (.l .i64 0),.s (.l .i64 1),.s (.s 2 2)],[schA,schB,.sl 2 (Sx.encI .i64) 0 1 [q,p1] 3],3,fun _=>True,fun _=>[.s (.p 3 0)],fun _=>[schA,schB,.sl 2 (Sx.encI .i64) 0 1 [q,p1] 3,wlk (1+q) 0 0,.sl 4 (Sx.encI .i64) 0 1 [q,p1] 3]⟩:Sp Unit):=by
  intro q hq
  rcases hq with rfl | rfl
  ·refine cX 34 xaI Tryz.func61 fun g F => ?_
   refine xF (decide ((↑(1:Nat):Int)<(1:Int))) rfl ?_
   refine xF (decide ((↑(1:Nat):Int)>(8:Int))) rfl ?_
   refine xT (decide ((0:Int)<(↑(1:Nat):Int))) rfl ?_
   refine xF (decide ((↑(2:Nat):Int)<(1:Int))) rfl ?_
   refine xF (decide ((↑(2:Nat):Int)>(6:Int))) rfl ?_
   refine xT (decide ((0:Int)<(↑(2:Nat):Int))) rfl ?_
   refine xN fun b1 => ?_
   refine xF (decide ((0:Int)≥(↑(1:Nat):Int))) rfl ?_
   refine xT (decide (IntKind.i64.wrap ((0:Int)+(1:Int))<(↑(2:Nat):Int))) rfl ?_
   refine xN fun b2 => ?_
   refine xF (decide ((0:Int)≥(↑(1:Nat):Int))) rfl ?_
   refine xF (decide (IntKind.i64.wrap (IntKind.i64.wrap ((0:Int)+(1:Int))+(1:Int))<(↑(2:Nat):Int))) rfl ?_
   refine xF (decide (IntKind.i64.wrap ((0:Int)+(1:Int))<(↑(1:Nat):Int))) rfl ?_
   refine xF (decide ((0:Int)≥(↑(1:Nat):Int))) rfl ?_
   refine xN fun b3 => ?_
   refine xW0 _ (view_none 5 (b:=b3) .i64 3) ?_ sc_st
   refine xAp 5 (some {block:=b3,off:=0}) (0) (Sx.encI .i64) 0 1 ([]) 3 ([0,p1]) (.i 28) (oneI _) 8 (.slice (g 2).a ([0,p1]).length (g 2).c) (by first | (simp; done) | (simp; omega)) (fun F=>(src_sl (i:=2) (d:=0) (sz:=1) (t:=3) (by kernel_rfl))) (fun a5_ c5_ => ?_)
   refine xN fun b4 => ?_
   refine xF ((2:Int)==(0:Int)) rfl ?_
   refine xO ((2:Nat)≤(2:Nat)∧(0:Int)≤(0:Int)∧(0:Int)<(2:Int)) (by omega) ?_
   refine xO (0<2) (by omega) ?_
   refine xF (decide ((0:Int)<(0:Int))) rfl ?_
   refine xO ((2:Nat)≤(2:Nat)∧(0:Int)≤(0:Int)∧(0:Int)<(2:Int)) (by omega) ?_
   refine xO (0<2) (by omega) ?_
   refine xF (decide ((0:Int)≥(↑(1:Nat):Int))) rfl ?_
   refine xO ((2:Nat)≤(2:Nat)∧(0:Int)≤(0:Int)∧(0:Int)<(2:Int)) (by omega) ?_
   refine xO (0<2) (by omega) ?_
   refine xF (decide ((0:Int)≥(2:Int))) rfl ?_
   refine xO ((2:Nat)≤(2:Nat)∧(0:Int)≤(0:Int)∧(0:Int)<(2:Int)) (by omega) ?_
   refine xO (0<2) (by omega) ?_
   refine xO (InK IntKind.i64 1) (by simp only [InK] at *; omega) ?_
   exact xR () trivial
  ·refine cX 34 xaI Tryz.func61 fun g F => ?_
   refine xF (decide ((↑(1:Nat):Int)<(1:Int))) rfl ?_
   refine xF (decide ((↑(1:Nat):Int)>(8:Int))) rfl ?_
   refine xT (decide ((0:Int)<(↑(1:Nat):Int))) rfl ?_
   refine xF (decide ((↑(2:Nat):Int)<(1:Int))) rfl ?_
   refine xF (decide ((↑(2:Nat):Int)>(6:Int))) rfl ?_
   refine xT (decide ((0:Int)<(↑(2:Nat):Int))) rfl ?_
   refine xN fun b1 => ?_
   refine xF (decide ((0:Int)≥(↑(1:Nat):Int))) rfl ?_
   refine xT (decide (IntKind.i64.wrap ((0:Int)+(1:Int))<(↑(2:Nat):Int))) rfl ?_
   refine xN fun b2 => ?_
   refine xF (decide ((0:Int)≥(↑(1:Nat):Int))) rfl ?_
   refine xF (decide (IntKind.i64.wrap (IntKind.i64.wrap ((0:Int)+(1:Int))+(1:Int))<(↑(2:Nat):Int))) rfl ?_
   refine xF (decide (IntKind.i64.wrap ((0:Int)+(1:Int))<(↑(1:Nat):Int))) rfl ?_
   refine xF (decide ((0:Int)≥(↑(1:Nat):Int))) rfl ?_
   refine xN fun b3 => ?_
   refine xW0 _ (view_none 5 (b:=b3) .i64 3) ?_ sc_st
   refine xAp 5 (some {block:=b3,off:=0}) (0) (Sx.encI .i64) 0 1 ([]) 3 ([1,p1]) (.i 28) (oneI _) 8 (.slice (g 2).a ([1,p1]).length (g 2).c) (by first | (simp; done) | (simp; omega)) (fun F=>(src_sl (i:=2) (d:=0) (sz:=1) (t:=3) (by kernel_rfl))) (fun a5_ c5_ => ?_)
   refine xN fun b4 => ?_
   refine xF ((2:Int)==(0:Int)) rfl ?_
   refine xO ((2:Nat)≤(2:Nat)∧(0:Int)≤(0:Int)∧(0:Int)<(2:Int)) (by omega) ?_
   refine xO (0<2) (by omega) ?_
   refine xF (decide ((1:Int)<(0:Int))) rfl ?_
   refine xO ((2:Nat)≤(2:Nat)∧(0:Int)≤(0:Int)∧(0:Int)<(2:Int)) (by omega) ?_
   refine xO (0<2) (by omega) ?_
   refine xF (decide ((0:Int)≥(↑(1:Nat):Int))) rfl ?_
   refine xO ((2:Nat)≤(2:Nat)∧(0:Int)≤(0:Int)∧(0:Int)<(2:Int)) (by omega) ?_
   refine xO (0<2) (by omega) ?_
   refine xF (decide ((1:Int)≥(2:Int))) rfl ?_
   refine xO ((2:Nat)≤(2:Nat)∧(0:Int)≤(0:Int)∧(0:Int)<(2:Int)) (by omega) ?_
   refine xO (0<2) (by omega) ?_
   refine xO (InK IntKind.i64 2) (by simp only [InK] at *; omega) ?_
   exact xR () trivial
 exact h p0 h0
theorem t_giveA(p1:Int)(x:Int)(hx:0≤x∧x≤4294967295): Ct Tryz.prog 63 (⟨[.s (.p 3 0),.s (.i .u64 x)],[wlk 1 0 0,.sl 4 (Sx.encI .i64) 0 1 [0,p1] 3,schA,schB],5,fun _=>True,fun _=>[],fun _=>[wlk (-1) 0 24,.sl 4 (Sx.encI .i64) 0 1 [0,p1] 3,schA,schB]⟩:Sp Unit):=by
 refine cX 39 xaI Tryz.func63 fun g F => ?_
 refine xO ((2:Nat)≤[(0:Int),p1].length∧(0:Int)≤(0:Int)∧(0:Int)<(↑(2:Nat):Int)) (by first | (simp; done) | (simp; omega)) ?_
 refine xO (Int.toNat 0 < [0,p1].length) (by first | (simp; done) | (simp; omega)) ?_
 refine xO ((0:Int)≤(1:Int)∧(1:Int)≤(↑[(0:Int),p1].length:Int)) (by first | (simp; done) | (simp; omega)) ?_
 refine xN fun b1 => ?_
 refine xF (decide ((0:Int)≥(↑(1:Nat):Int))) rfl ?_
 refine xF (decide ((0:Int)<(0:Int))) rfl ?_
 refine xF (decide ((0:Int)≥(2:Int))) rfl ?_
 refine xO ((0:Int)≤(0:Int)∧(0:Int)<(2:Int)) (by omega) ?_
 refine xN fun b2 => ?_
 refine xF (decide ((0:Int)≥(↑(1:Nat):Int))) rfl ?_
 refine xF (decide ((0:Int)<(0:Int))) rfl ?_
 refine xF (decide ((0:Int)≥(2:Int))) rfl ?_
 refine xO ((0:Int)≤(0:Int)∧(0:Int)<(2:Int)) (by omega) ?_
 refine xO (InK IntKind.i64 (IntKind.u32.wrap x)) (ink32 _) ?_
 refine xO ((0:Int)≤(32:Int)) (by omega) ?_
 refine xO (InK IntKind.i64 (bShr IntKind.u64 x 32)) (inkShr hx) ?_
 refine xO (InK IntKind.i64 (1+IntKind.u32.wrap x)) (ink32p _) ?_
 refine xF ((↑(List.drop (Int.toNat (1:Int)) [(0:Int),p1]).length:Int)==(0:Int)) rfl ?_
 exact xR () trivial
theorem t_giveB(p1:Int)(x:Int)(hx:0≤x∧x≤4294967295): Ct Tryz.prog 63 (⟨[.s (.p 3 0),.s (.i .u64 x)],[wlk 2 0 0,.sl 4 (Sx.encI .i64) 0 1 [1,p1] 3,schA,schB],5,fun _=>True,fun _=>[],fun _=>[wlk (-1) 0 12,.sl 4 (Sx.encI .i64) 0 1 [1,p1] 3,schA,schB]⟩:Sp Unit):=by
 refine cX 39 xaI Tryz.func63 fun g F => ?_
 refine xO ((2:Nat)≤[(1:Int),p1].length∧(0:Int)≤(0:Int)∧(0:Int)<(↑(2:Nat):Int)) (by first | (simp; done) | (simp; omega)) ?_
 refine xO (Int.toNat 0 < [1,p1].length) (by first | (simp; done) | (simp; omega)) ?_
 refine xO ((0:Int)≤(1:Int)∧(1:Int)≤(↑[(1:Int),p1].length:Int)) (by first | (simp; done) | (simp; omega)) ?_
 refine xN fun b1 => ?_
 refine xF (decide ((0:Int)≥(↑(1:Nat):Int))) rfl ?_
 refine xF (decide ((1:Int)<(0:Int))) rfl ?_
 refine xF (decide ((1:Int)≥(2:Int))) rfl ?_
 refine xO ((0:Int)≤(1:Int)∧(1:Int)<(2:Int)) (by omega) ?_
 refine xN fun b2 => ?_
 refine xF (decide ((0:Int)≥(↑(1:Nat):Int))) rfl ?_
 refine xF (decide ((1:Int)<(0:Int))) rfl ?_
 refine xF (decide ((1:Int)≥(2:Int))) rfl ?_
 refine xO ((0:Int)≤(1:Int)∧(1:Int)<(2:Int)) (by omega) ?_
 refine xO (InK IntKind.i64 (IntKind.u32.wrap x)) (ink32 _) ?_
 refine xO ((0:Int)≤(32:Int)) (by omega) ?_
 refine xO (InK IntKind.i64 (bShr IntKind.u64 x 32)) (inkShr hx) ?_
 refine xO (InK IntKind.i64 (2+IntKind.u32.wrap x)) (ink32q _) ?_
 refine xF ((↑(List.drop (Int.toNat (1:Int)) [(1:Int),p1]).length:Int)==(0:Int)) rfl ?_
 refine xT (bShr IntKind.u64 x 32==0) (beq_iff_eq.2 (shr0 hx)) ?_
 exact xR () trivial
end Go.Proofs.YthijdhenekmojaaGreatDoor
/- The model: what is pinned. -/
set_option linter.unusedSimpArgs false
set_option maxRecDepth 100000
set_option maxHeartbeats 0
namespace Go.Proofs.YthijdhenekmojaaGreatDoor
open Go.Sx
structure RH where
 b:Bool
 H:HanM
def pinB(lg:Bool)(k:Nat)(is:Bool)(co:Int): Bool:=
 if co=0 then is&&lg&&decide ((k:Int)>0) else
 if co=12 then !is else if co=24 then is && !lg else
 if co=20 then is&&lg && !decide ((k:Int)>0) else decide (co=19∨co=17)
def pinR(H:HanM)(p:PRow)(lg is:Bool)(cl co n:Int)(x:RH): Prop:=
 x.b=pinB lg p.xs.length is co∧x.H=if (decide (co=0)&&(is&&lg&&decide ((p.xs.length:Int)>0)))=true then kset H (cl,n) p else H
theorem t_pin(c:Cfg)(p:PRow)(H:HanM)(ps:List PRow)(mt mh:Nat)(sv:Value)(cl ki ke:Int)(la lg is:Bool)(wo pa rw rk:Value)(ha co n cm fr to_:Int)(hn:0≤n∧n≤1000000):
  Ct Tryz.prog 35 (⟨[.s (.p 0 0),.g (dS cl ki ke la (.o wo) ha (.o pa) co (.o rw) (.o rk) n cm fr to_),.g [.bo lg,.o (.slice p.a p.xs.length p.c)],.s (.bo is)],[.pts 0 (cfgS c++[.o sv,.mb 1 mt,.mb 2 mh]) 81,hpR mh H ps],3,
   pinR H p lg is cl co n,fun x=>[.s (.bo x.b)],fun x=>[.pts 0 (cfgS c++[.o sv,.mb 1 mt,.mb 2 mh]) 81,hpR mh x.H ps]⟩:Sp RH):=by
 refine cXv 75 xaI Tryz.func35 _ ⟨[(0,(cfgS c++[SV.o sv,SV.mb 1 mt,SV.mb 2 mh]).map (SV.g id)),(2,[]),(4,[])],5⟩ (fun g=>hp_at (te:=42) (mh:=mh) (H:=H) (ps:=ps) 1) fun g F => ?_
 refine xN fun b1 => ?_
 refine xN fun b2 => ?_
 refine xB (co==0) (fun h3 => ?_) (fun h3 => ?_)
 ·skip
  replace h3:=decT h3
  refine xB (is) (fun h4 => ?_) (fun h4 => ?_)
  ·skip
   refine xB (lg) (fun h5 => ?_) (fun h5 => ?_)
   ·skip
    refine xB (decide ((↑p.xs.length:Int)>(0:Int))) (fun h6 => ?_) (fun h6 => ?_)
    ·skip
     replace h6:=decT h6
     refine xO (InK IntKind.i64 n) (by simp only [InK] at *; omega) ?_
     refine xMs 1 (mh) (H) (PRow.v) kH (cl,n) (p) ?_
     refine xT (is) (by assumption) ?_
     refine xT (lg) (by assumption) ?_
     refine xEnd [1,2] [.res (KMap mh ekP PRow.v (kset H (cl,n) p)),.res (Pool 42 (ps))] 2 (HP 42 mh (kset H (cl,n) p) (ps)) pv_fold ?_
     exact xR ({b:=true,H:=kset H (cl,n) p}) (by have e:decide ((p.xs.length:Int)>0)=true:=decide_eq_true (by omega); simp only [pinR,pinB,e]; simp [*]; done)
    ·skip
     replace h6:=decF h6
     refine xT (is) (by assumption) ?_
     refine xT (lg) (by assumption) ?_
     refine xEnd [1,2] [.res (KMap mh ekP PRow.v (H)),.res (Pool 42 (ps))] 2 (HP 42 mh (H) (ps)) pv_fold ?_
     exact xR ({b:=false,H:=H}) (by have e:decide ((p.xs.length:Int)>0)=false:=decide_eq_false (by omega); simp only [pinR,pinB,e]; simp [*]; done)
   ·skip
    refine xT (is) (by assumption) ?_
    refine xF (lg) (by assumption) ?_
    refine xEnd [1,2] [.res (KMap mh ekP PRow.v (H)),.res (Pool 42 (ps))] 2 (HP 42 mh (H) (ps)) pv_fold ?_
    exact xR ({b:=false,H:=H}) (by simp [pinR,pinB, *]; done)
  ·skip
   refine xF (is) (by assumption) ?_
   refine xEnd [1,2] [.res (KMap mh ekP PRow.v (H)),.res (Pool 42 (ps))] 2 (HP 42 mh (H) (ps)) pv_fold ?_
   exact xR ({b:=false,H:=H}) (by simp [pinR,pinB, *]; done)
 ·skip
  replace h3:=decF h3
  refine xB (co==12) (fun h7 => ?_) (fun h7 => ?_)
  ·skip
   replace h7:=decT h7
   refine xEnd [1,2] [.res (KMap mh ekP PRow.v (H)),.res (Pool 42 (ps))] 2 (HP 42 mh (H) (ps)) pv_fold ?_
   exact xR ({b := !is,H:=H}) (by simp [pinR,pinB, *]; done)
  ·skip
   replace h7:=decF h7
   refine xB (co==24) (fun h8 => ?_) (fun h8 => ?_)
   ·skip
    replace h8:=decT h8
    refine xB (is) (fun h9 => ?_) (fun h9 => ?_)
    ·skip
     refine xEnd [1,2] [.res (KMap mh ekP PRow.v (H)),.res (Pool 42 (ps))] 2 (HP 42 mh (H) (ps)) pv_fold ?_
     exact xR ({b := !lg,H:=H}) (by simp [pinR,pinB, *]; done)
    ·skip
     refine xEnd [1,2] [.res (KMap mh ekP PRow.v (H)),.res (Pool 42 (ps))] 2 (HP 42 mh (H) (ps)) pv_fold ?_
     exact xR ({b:=false,H:=H}) (by simp [pinR,pinB, *]; done)
   ·skip
    replace h8:=decF h8
    refine xB (co==20) (fun h10 => ?_) (fun h10 => ?_)
    ·skip
     replace h10:=decT h10
     refine xB (is) (fun h11 => ?_) (fun h11 => ?_)
     ·skip
      refine xB (lg) (fun h12 => ?_) (fun h12 => ?_)
      ·skip
       refine xEnd [1,2] [.res (KMap mh ekP PRow.v (H)),.res (Pool 42 (ps))] 2 (HP 42 mh (H) (ps)) pv_fold ?_
       exact xR ({b := !decide ((↑p.xs.length:Int)>(0:Int)),H:=H}) (by simp [pinR,pinB, *]; done)
      ·skip
       refine xEnd [1,2] [.res (KMap mh ekP PRow.v (H)),.res (Pool 42 (ps))] 2 (HP 42 mh (H) (ps)) pv_fold ?_
       exact xR ({b:=false,H:=H}) (by simp [pinR,pinB, *]; done)
     ·skip
      refine xEnd [1,2] [.res (KMap mh ekP PRow.v (H)),.res (Pool 42 (ps))] 2 (HP 42 mh (H) (ps)) pv_fold ?_
      exact xR ({b:=false,H:=H}) (by simp [pinR,pinB, *]; done)
    ·skip
     replace h10:=decF h10
     refine xB (co==19) (fun h13 => ?_) (fun h13 => ?_)
     ·skip
      replace h13:=decT h13
      refine xEnd [1,2] [.res (KMap mh ekP PRow.v (H)),.res (Pool 42 (ps))] 2 (HP 42 mh (H) (ps)) pv_fold ?_
      exact xR ({b:=true,H:=H}) (by simp [pinR,pinB, *]; done)
     ·skip
      replace h13:=decF h13
      refine xB (co==17) (fun h14 => ?_) (fun h14 => ?_)
      ·skip
       replace h14:=decT h14
       refine xEnd [1,2] [.res (KMap mh ekP PRow.v (H)),.res (Pool 42 (ps))] 2 (HP 42 mh (H) (ps)) pv_fold ?_
       exact xR ({b:=true,H:=H}) (by simp [pinR,pinB, *]; done)
      ·skip
       replace h14:=decF h14
       refine xEnd [1,2] [.res (KMap mh ekP PRow.v (H)),.res (Pool 42 (ps))] 2 (HP 42 mh (H) (ps)) pv_fold ?_
       exact xR ({b:=false,H:=H}) (by simp [pinR,pinB, *]; done)
end Go.Proofs.YthijdhenekmojaaGreatDoor
/- The model: a field of a handle, by a path of two. -/
set_option linter.unusedSimpArgs false
set_option maxRecDepth 100000
set_option maxHeartbeats 0
namespace Go.Proofs.YthijdhenekmojaaGreatDoor
open Go.Sx
abbrev mdl3(c:Cfg)(mt mh:Nat): SE:=.pts 0 (cfgS c++[.sp 4 1 1,.mb 1 mt,.mb 2 mh]) 81
abbrev schC: SE:=.pts 4 [.sp 5 2 2] 85
abbrev schD: SE:=.pts 5 [.l .i64 1,.l .i64 0,.l .i64 3,.l .i64 0] 84
def xf: Cx:=⟨[53,62,64],[],[],[36,53,62,64]⟩
theorem xfI: Inl Tryz.prog xf:=inl_ok ⟨Tryz.call53,Tryz.call62,Tryz.call64,trivial⟩ trivial
abbrev ghF(c:Cfg)(mt mh:Nat): Gh:=⟨[(0,(cfgS c++[SV.sp 4 1 1,SV.mb 1 mt,SV.mb 2 mh]).map (SV.g id)),(3,[]),(4,[SV.sp 5 2 2].map (SV.g id)),(5,[SV.l .i64 1,.l .i64 0,.l .i64 3,.l .i64 0].map (SV.g id)),(2,[]),(6,[])],7⟩
def fldV(ws:List Int)(p0 co n:Int): Bool:=decide ((ws.length:Int)=0)||decide ((ws.length:Int)≤1+p0)||(co==(if p0=0 then 24 else 12)&&n==0)
abbrev fldS(c:Cfg)(H:HanM)(ps:List PRow)(mt mh:Nat)(cl ke:Int)(la:Bool)(wo rw rk:Value)(ha co n cm fr to_:Int)(p0 p1:Int)(v:Bool): Sp Bool:=
 ⟨[.s (.p 0 0),.g (dS cl 6 ke la (.o wo) ha (.s 3 2) co (.o rw) (.o rk) n cm fr to_)],[mdl3 c mt mh,hpR mh H ps,.sl 3 (Sx.encI .i64) 0 1 [p0,p1] 3,schC,schD],6,
   fun b=>b=v,fun b=>[.s (.bo b)],fun _=>[mdl3 c mt mh,hpR mh H ps,.sl 3 (Sx.encI .i64) 0 1 [p0,p1] 3,schC,schD]⟩
def WRng(xs:List Int): Prop := ∀i,0≤xs.getD i 0∧xs.getD i 0≤4294967295
theorem fv_z{ws:List Int}{p0 co n:Int}(h:(ws.length:Int)=0): true=fldV ws p0 co n:=by unfold fldV; rw [decide_eq_true h]; rfl
theorem fv_s{ws:List Int}{p0 co n:Int}(h:(ws.length:Int)≤1+p0): true=fldV ws p0 co n:=by unfold fldV; rw [decide_eq_true h]; simp
theorem fv_v{ws:List Int}{p0 co n:Int}{b:Bool}(h0:¬(ws.length:Int)=0)(h:¬(ws.length:Int)≤1+p0)(hb:b=(co==(if p0=0 then 24 else 12)&&n==0)): b=fldV ws p0 co n:=by unfold fldV; rw [decide_eq_false h0,decide_eq_false h,hb]; rfl
theorem t_fieldA(c:Cfg)(H:HanM)(ps:List PRow)(mt mh:Nat)(cl ke:Int)(la:Bool)(wo rw rk:Value)(ha co n cm fr to_:Int)(p1:Int)(p:PRow)(hw:WRng p.xs)(hl:p.xs.length≤1000)(hk:kget H (cl,ha)=some p)(hp:p = .nil∨p∈ps)(F:Fr)(hF:HF F):
  CtF Tryz.prog F 36 (fldS c H ps mt mh cl ke la wo rw rk ha co n cm fr to_ 0 p1 (fldV p.xs 0 co n)):=by
 refine cFv 85 xfI Tryz.func36 _ (ghF c mt mh) (fun g=>hp_at (te:=42) (mh:=mh) (H:=H) (ps:=ps) 1) fun g => ?_
 refine xN fun b1 => ?_
 refine xMpE 4 5 (mh) (H) (PRow.v) 42 kH (cl,ha) PRow.nil false id ps (fun x=>.i x) p true (by rw [hk]; rfl) (by rw [hk]; rfl) hp ?_
 refine xB ((↑p.xs.length:Int)==(0:Int)) (fun h1 => ?_) (fun h1 => ?_)
 ·skip
  replace h1:=decT h1
  refine xEnd [4,6,7] [.res (KMap mh ekP PRow.v (H)),.res (PoolX 42 (ps) (id p)),PRow.ent 42 (id p)] 2 (HP 42 mh (H) (ps)) pv_end0 ?_
  exact xR (true) (fv_z (by omega))
 ·skip
  replace h1:=decF h1
  refine xO (p.xs.length≤(id p).xs.length∧(0:Int)≤(0:Int)∧(0:Int)<(↑p.xs.length:Int)) (by first | (simp; done) | (simp; omega)) ?_
  refine xO (Int.toNat 0<(id p).xs.length) (by first | (simp; done) | (simp; omega)) ?_
  refine xO ((0:Int)≤(32:Int)) (by omega) ?_
  refine xO (InK IntKind.i64 (bShr IntKind.u64 ((id p).xs.getD 0 0) 32)) (inkShr (hw 0)) ?_
  refine xCy [⟨(g 4).b,none,0⟩,⟨(g 5).b,none,0⟩,⟨0,(g 3).a,(g 3).c⟩] [2,3,1] (Tg.i 11) ⟨[(0,[.n,.n,.n,.n,.n,.n,.n,.n,.n,.i 4,.i 1,.i 2]),(2,[]),(7,[.n,.c,.n,.n,.n,.n,.i 3,.n,.n,.n,.n,.n,.n,.n]),(6,[]),(8,[]),(4,[.i 5]),(5,[.c,.c,.c,.c]),(3,[]),(11,[.i 4,.c,.i 12,.c,.c,.n,.n]),(12,[])],51⟩ Tryz.call61 (fun F' h=>(t_start0 (0) (p1) (bShr IntKind.u64 ((id p).xs.getD (Int.toNat 0) 0) 32) (shr0 (hw 0)) (by omega)).fr) fun _ n2 _ => ?_
  refine xB (decide ((1:Int)+(0:Int)≥(↑p.xs.length:Int))) (fun h3 => ?_) (fun h3 => ?_)
  ·skip
   replace h3:=decT h3
   refine xEnd [1,3,4] [.res (KMap mh ekP PRow.v (H)),.res (PoolX 42 (ps) (id p)),PRow.ent 42 (id p)] 2 (HP 42 mh (H) (ps)) pv_end0 ?_
   exact xR (true) (fv_s (by omega))
  ·skip
   replace h3:=decF h3
   refine xO (p.xs.length≤(id p).xs.length∧(0:Int)≤(1:Int)+(0:Int)∧(1:Int)+(0:Int)<(↑p.xs.length:Int)) (by first | (simp; done) | (simp; omega)) ?_
   refine xO (((1:Int)+(0:Int)).toNat<(id p).xs.length) (by first | (simp; done) | (simp; omega)) ?_
   refine xCy [⟨(g 4).b,none,0⟩,⟨(g 5).b,none,0⟩,⟨0,none,0⟩,⟨(n2 3).b,none,0⟩,⟨0,(n2 4).a,(n2 4).c⟩] [8,9,5,6] ((Tg.l [])) ⟨[(0,[.n,.n,.n,.n,.n,.n,.n,.n,.n,.i 4,.i 1,.i 2]),(2,[]),(7,[.n,.c,.n,.n,.n,.n,.i 3,.n,.n,.n,.n,.n,.n,.n]),(6,[]),(8,[]),(3,[]),(11,[.i 4,.c,.i 12,.c,.c,.n,.n]),(12,[]),(4,[.i 5]),(5,[.c,.c,.c,.c])],94⟩ Tryz.call63 (fun F' h=>(t_giveA (p1) ((id p).xs.getD ((1:Int)+(0:Int)).toNat (0:Int)) (hw 1)).fr) fun _ n5 _ => ?_
   refine xF ((24:Int)==(0:Int)) rfl ?_
   refine xCy [] [] (Tg.n) ⟨[(0,[.n,.n,.n,.n,.n,.n,.n,.n,.n,.i 4,.i 1,.i 2]),(2,[]),(7,[.n,.c,.n,.n,.n,.n,.i 3,.n,.n,.n,.n,.n,.n,.n]),(6,[]),(8,[]),(3,[]),(11,[.i 4,.c,.i 12,.c,.c,.n,.n]),(12,[]),(4,[.i 5]),(5,[.c,.c,.c,.c])],138⟩ Tryz.call65 (fun F' h=>t_topE 24 F' (hF.mono h)) fun _ n9 _ => ?_
   refine xB (co==24) (fun h11 => ?_) (fun h11 => ?_)
   ·skip
    replace h11:=decT h11
    refine xEnd [1,3,4] [.res (KMap mh ekP PRow.v (H)),.res (PoolX 42 (ps) (id p)),PRow.ent 42 (id p)] 2 (HP 42 mh (H) (ps)) pv_end0 ?_
    exact xR (n==0) (fv_v (by omega) (by omega) (by show(n==0)=((co==24)&&(n==0)); rw [beq_iff_eq.2 (show co=24 by omega),Bool.true_and]))
   ·skip
    replace h11:=decF h11
    refine xEnd [1,3,4] [.res (KMap mh ekP PRow.v (H)),.res (PoolX 42 (ps) (id p)),PRow.ent 42 (id p)] 2 (HP 42 mh (H) (ps)) pv_end0 ?_
    exact xR (false) (fv_v (by omega) (by omega) (by show false=((co==24)&&(n==0)); rw [beq_eq_false_iff_ne.2 (show ¬co=24 by omega),Bool.false_and]))
theorem t_fieldB(c:Cfg)(H:HanM)(ps:List PRow)(mt mh:Nat)(cl ke:Int)(la:Bool)(wo rw rk:Value)(ha co n cm fr to_:Int)(p1:Int)(p:PRow)(hw:WRng p.xs)(hl:p.xs.length≤1000)(hk:kget H (cl,ha)=some p)(hp:p = .nil∨p∈ps)(F:Fr)(hF:HF F):
  CtF Tryz.prog F 36 (fldS c H ps mt mh cl ke la wo rw rk ha co n cm fr to_ 1 p1 (fldV p.xs 1 co n)):=by
 refine cFv 85 xfI Tryz.func36 _ (ghF c mt mh) (fun g=>hp_at (te:=42) (mh:=mh) (H:=H) (ps:=ps) 1) fun g => ?_
 refine xN fun b1 => ?_
 refine xMpE 4 5 (mh) (H) (PRow.v) 42 kH (cl,ha) PRow.nil false id ps (fun x=>.i x) p true (by rw [hk]; rfl) (by rw [hk]; rfl) hp ?_
 refine xB ((↑p.xs.length:Int)==(0:Int)) (fun h1 => ?_) (fun h1 => ?_)
 ·skip
  replace h1:=decT h1
  refine xEnd [4,6,7] [.res (KMap mh ekP PRow.v (H)),.res (PoolX 42 (ps) (id p)),PRow.ent 42 (id p)] 2 (HP 42 mh (H) (ps)) pv_end0 ?_
  exact xR (true) (fv_z (by omega))
 ·skip
  replace h1:=decF h1
  refine xO (p.xs.length≤(id p).xs.length∧(0:Int)≤(0:Int)∧(0:Int)<(↑p.xs.length:Int)) (by first | (simp; done) | (simp; omega)) ?_
  refine xO (Int.toNat 0<(id p).xs.length) (by first | (simp; done) | (simp; omega)) ?_
  refine xO ((0:Int)≤(32:Int)) (by omega) ?_
  refine xO (InK IntKind.i64 (bShr IntKind.u64 ((id p).xs.getD 0 0) 32)) (inkShr (hw 0)) ?_
  refine xCy [⟨(g 4).b,none,0⟩,⟨(g 5).b,none,0⟩,⟨0,(g 3).a,(g 3).c⟩] [2,3,1] (Tg.i 11) ⟨[(0,[.n,.n,.n,.n,.n,.n,.n,.n,.n,.i 4,.i 1,.i 2]),(2,[]),(7,[.n,.c,.n,.n,.n,.n,.i 3,.n,.n,.n,.n,.n,.n,.n]),(6,[]),(8,[]),(4,[.i 5]),(5,[.c,.c,.c,.c]),(3,[]),(11,[.i 4,.c,.i 12,.c,.c,.n,.n]),(12,[])],51⟩ Tryz.call61 (fun F' h=>(t_start0 (1) (p1) (bShr IntKind.u64 ((id p).xs.getD (Int.toNat 0) 0) 32) (shr0 (hw 0)) (by omega)).fr) fun _ n2 _ => ?_
  refine xB (decide ((1:Int)+(1:Int)≥(↑p.xs.length:Int))) (fun h3 => ?_) (fun h3 => ?_)
  ·skip
   replace h3:=decT h3
   refine xEnd [1,3,4] [.res (KMap mh ekP PRow.v (H)),.res (PoolX 42 (ps) (id p)),PRow.ent 42 (id p)] 2 (HP 42 mh (H) (ps)) pv_end0 ?_
   exact xR (true) (fv_s (by omega))
  ·skip
   replace h3:=decF h3
   refine xO (p.xs.length≤(id p).xs.length∧(0:Int)≤(1:Int)+(1:Int)∧(1:Int)+(1:Int)<(↑p.xs.length:Int)) (by first | (simp; done) | (simp; omega)) ?_
   refine xO (((1:Int)+(1:Int)).toNat<(id p).xs.length) (by first | (simp; done) | (simp; omega)) ?_
   refine xCy [⟨(g 4).b,none,0⟩,⟨(g 5).b,none,0⟩,⟨0,none,0⟩,⟨(n2 3).b,none,0⟩,⟨0,(n2 4).a,(n2 4).c⟩] [8,9,5,6] ((Tg.l [])) ⟨[(0,[.n,.n,.n,.n,.n,.n,.n,.n,.n,.i 4,.i 1,.i 2]),(2,[]),(7,[.n,.c,.n,.n,.n,.n,.i 3,.n,.n,.n,.n,.n,.n,.n]),(6,[]),(8,[]),(3,[]),(11,[.i 4,.c,.i 12,.c,.c,.n,.n]),(12,[]),(4,[.i 5]),(5,[.c,.c,.c,.c])],94⟩ Tryz.call63 (fun F' h=>(t_giveB (p1) ((id p).xs.getD ((1:Int)+(1:Int)).toNat (0:Int)) (hw 2)).fr) fun _ n6 _ => ?_
   refine xF ((12:Int)==(0:Int)) rfl ?_
   refine xCy [] [] (Tg.n) ⟨[(0,[.n,.n,.n,.n,.n,.n,.n,.n,.n,.i 4,.i 1,.i 2]),(2,[]),(7,[.n,.c,.n,.n,.n,.n,.i 3,.n,.n,.n,.n,.n,.n,.n]),(6,[]),(8,[]),(3,[]),(11,[.i 4,.c,.i 12,.c,.c,.n,.n]),(12,[]),(4,[.i 5]),(5,[.c,.c,.c,.c])],138⟩ Tryz.call65 (fun F' h=>t_topE 12 F' (hF.mono h)) fun _ n10 _ => ?_
   refine xB (co==12) (fun h12 => ?_) (fun h12 => ?_)
   ·skip
    replace h12:=decT h12
    refine xEnd [1,3,4] [.res (KMap mh ekP PRow.v (H)),.res (PoolX 42 (ps) (id p)),PRow.ent 42 (id p)] 2 (HP 42 mh (H) (ps)) pv_end0 ?_
    exact xR (n==0) (fv_v (by omega) (by omega) (by show(n==0)=((co==12)&&(n==0)); rw [beq_iff_eq.2 (show co=12 by omega),Bool.true_and]))
   ·skip
    replace h12:=decF h12
    refine xEnd [1,3,4] [.res (KMap mh ekP PRow.v (H)),.res (PoolX 42 (ps) (id p)),PRow.ent 42 (id p)] 2 (HP 42 mh (H) (ps)) pv_end0 ?_
    exact xR (false) (fv_v (by omega) (by omega) (by show false=((co==12)&&(n==0)); rw [beq_eq_false_iff_ne.2 (show ¬co=12 by omega),Bool.false_and]))
end Go.Proofs.YthijdhenekmojaaGreatDoor
/- The model: what is done of a field. -/
set_option linter.unusedSimpArgs false
set_option maxRecDepth 100000
set_option maxHeartbeats 0
namespace Go.Proofs.YthijdhenekmojaaGreatDoor
open Go.Sx
def fldVO(H:HanM)(cl ha co n p0:Int): Bool:=match kget H (cl,ha) with
 | none=>true
 | some p=>fldV p.xs p0 co n
def HOkM(H:HanM)(ps:List PRow): Prop := ∀k p,kget H k=some p→(p = .nil∨p∈ps)∧WRng p.xs∧p.xs.length≤1000
theorem t_fieldN(c:Cfg)(H:HanM)(ps:List PRow)(mt mh:Nat)(cl ke:Int)(la:Bool)(wo rw rk:Value)(ha co n cm fr to_:Int)(p0 p1:Int)(hk:kget H (cl,ha)=none):
  Ct Tryz.prog 36 (fldS c H ps mt mh cl ke la wo rw rk ha co n cm fr to_ p0 p1 true):=by
 refine cXv 85 xfI Tryz.func36 _ (ghF c mt mh) (fun g=>hp_at (te:=42) (mh:=mh) (H:=H) (ps:=ps) 1) fun g F => ?_
 refine xN fun b1 => ?_
 refine xMpE 4 5 (mh) (H) (PRow.v) 42 kH (cl,ha) PRow.nil false id ps (fun x=>.i x) PRow.nil false (by rw [hk]; rfl) (by rw [hk]; rfl) (.inl rfl) ?_
 refine xT ((↑PRow.nil.xs.length:Int)==(0:Int)) rfl ?_
 refine xEnd [4,6,7] [.res (KMap mh ekP PRow.v (H)),.res (PoolX 42 (ps) (id PRow.nil)),PRow.ent 42 (id PRow.nil)] 2 (HP 42 mh (H) (ps)) pv_end0 ?_
 exact xR (true) rfl
theorem t_fieldAll(c:Cfg)(H:HanM)(ps:List PRow)(hH:HOkM H ps)(mt mh:Nat)(cl ke:Int)(la:Bool)(wo rw rk:Value)(ha co n cm fr to_:Int)(p0 p1:Int)(h01:p0=0∨p0=1)(F:Fr)(hF:HF F):
  CtF Tryz.prog F 36 (fldS c H ps mt mh cl ke la wo rw rk ha co n cm fr to_ p0 p1 (fldVO H cl ha co n p0)):=by
 cases hk:kget H (cl,ha) with
 | none=>
  have e:fldVO H cl ha co n p0=true:=by unfold fldVO; rw [hk]
  rw [e]
  exact(t_fieldN c H ps mt mh cl ke la wo rw rk ha co n cm fr to_ p0 p1 hk).fr
 | some p=>
  have e:fldVO H cl ha co n p0=fldV p.xs p0 co n:=by unfold fldVO; rw [hk]
  rw [e]
  have h:=hH _ _ hk
  rcases h01 with rfl | rfl
  ·exact t_fieldA c H ps mt mh cl ke la wo rw rk ha co n cm fr to_ p1 p h.2.1 h.2.2 hk h.1 F hF
  ·exact t_fieldB c H ps mt mh cl ke la wo rw rk ha co n cm fr to_ p1 p h.2.1 h.2.2 hk h.1 F hF
def doFldO(H:HanM)(cl ha co n p0:Int): Bool:=decide (co=1)||fldVO H cl ha co n p0
def xzo6: Cx:=⟨[],[],[],[]⟩
theorem xzO6: Inl Tryz.prog xzo6:=inl_ok trivial trivial
theorem t_doFldO(c:Cfg)(T:TopM)(H:HanM)(ps:List PRow)(hH:HOkM H ps)(mt mh:Nat)(cl ke:Int)(la:Bool)(wo rw rk:Value)(ha co n cm fr to_:Int)(p0 p1:Int)(h01:p0=0∨p0=1)(F:Fr)(hF:HF F):
  CtF Tryz.prog F 13 (⟨[.s (.p 0 0),.g (dS cl 6 ke la (.o wo) ha (.s 3 2) co (.o rw) (.o rk) n cm fr to_)],[mdl3 c mt mh,topR mt T,hpR mh H ps,.sl 3 (Sx.encI .i64) 0 1 [p0,p1] 3,schC,schD],6,fun b=>b=doFldO H cl ha co n p0,fun b=>[.s (.bo b)],fun _=>[mdl3 c mt mh,topR mt T,hpR mh H ps,.sl 3 (Sx.encI .i64) 0 1 [p0,p1] 3,schC,schD]⟩:Sp Bool):=by
 refine cF 148 xzO6 Tryz.func13 fun g => ?_
 refine xN fun b1 => ?_
 refine xA ?_ ?_
 ·skip
  refine xMg 1 (mt) (T) (evT) kI (ke) (false,PRow.nil) true ?_
  refine xN fun b2 => ?_
  refine xB (co==1) (fun h3 => ?_) (fun h3 => ?_)
  ·skip
   replace h3:=decT h3
   exact xR (true) (by show true=(decide (co=1) || _); rw [decide_eq_true (show co=1 by omega)]; rfl)
  ·skip
   replace h3:=decF h3
   refine xCy [⟨(g 0).b,none,0⟩,⟨0,none,0⟩,⟨0,none,0⟩,⟨0,(g 3).a,(g 3).c⟩,⟨(g 4).b,none,0⟩,⟨(g 5).b,none,0⟩] [0,2,3,4,5] (Tg.n) ⟨[(1,[]),(6,[.n,.c,.n,.n,.n,.n,.i 3,.n,.n,.n,.n,.n,.n,.n]),(8,[.n,.n]),(0,[.n,.n,.n,.n,.n,.n,.n,.n,.n,.i 4,.i 1,.i 2]),(2,[]),(3,[]),(4,[.i 5]),(5,[.c,.c,.c,.c])],52⟩ Tryz.call36 (fun F' h=>t_fieldAll (c) (H) (ps) (by omega) (mt) (mh) (cl) (ke) (la) (wo) (rw) (rk) (ha) (co) (n) (cm) (fr) (to_) (p0) (p1) (by omega) F' (hF.mono h)) fun xn4 n4 hxn4 => ?_
   subst hxn4
   exact xR (fldVO H cl ha co n p0) (by show _ = (decide (co=1) || _); rw [decide_eq_false (show ¬co=1 by omega)]; rfl)
 ·skip
  refine xN fun b5 => ?_
  refine xMg 1 (mt) (T) (evT) kI (ke) (false,PRow.nil) true ?_
  refine xB (co==1) (fun h6 => ?_) (fun h6 => ?_)
  ·skip
   replace h6:=decT h6
   exact xR (true) (by show true=(decide (co=1) || _); rw [decide_eq_true (show co=1 by omega)]; rfl)
  ·skip
   replace h6:=decF h6
   refine xCy [⟨(g 0).b,none,0⟩,⟨0,none,0⟩,⟨0,none,0⟩,⟨0,(g 3).a,(g 3).c⟩,⟨(g 4).b,none,0⟩,⟨(g 5).b,none,0⟩] [0,2,3,4,5] (Tg.n) ⟨[(1,[]),(6,[.n,.c,.n,.n,.n,.n,.i 3,.n,.n,.n,.n,.n,.n,.n]),(7,[.n,.n]),(0,[.n,.n,.n,.n,.n,.n,.n,.n,.n,.i 4,.i 1,.i 2]),(2,[]),(3,[]),(4,[.i 5]),(5,[.c,.c,.c,.c])],52⟩ Tryz.call36 (fun F' h=>t_fieldAll (c) (H) (ps) (by omega) (mt) (mh) (cl) (ke) (la) (wo) (rw) (rk) (ha) (co) (n) (cm) (fr) (to_) (p0) (p1) (by omega) F' (hF.mono h)) fun xn7 n7 hxn7 => ?_
   subst hxn7
   exact xR (fldVO H cl ha co n p0) (by show _ = (decide (co=1) || _); rw [decide_eq_false (show ¬co=1 by omega)]; rfl)
end Go.Proofs.YthijdhenekmojaaGreatDoor
/- Rows compared: one against the first part of another. -/
set_option maxRecDepth 100000
set_option maxHeartbeats 0
namespace Go.Proofs.YthijdhenekmojaaGreatDoor
open Go.Sx
theorem take_step{xs ys:List Int}{i:Nat}(h:xs.take i=ys.take i)(hx:i<xs.length)(hy:i<ys.length)(he:xs.getD i 0=ys.getD i 0): xs.take (i+1)=ys.take (i+1):=by
 rw [List.take_add_one,List.take_add_one,h]
 simp only [List.getD_eq_getElem?_getD,List.getElem?_eq_getElem hx,List.getElem?_eq_getElem hy,Option.getD_some] at he
 rw [List.getElem?_eq_getElem hx,List.getElem?_eq_getElem hy,he]
theorem take_ne{xs ys:List Int}{i n:Nat}(hn:n=ys.length)(hx:i<n)(he:xs.getD i 0≠ys.getD i 0): xs.take n≠ys:=by
 intro h
 apply he
 rw [←h,List.getD_eq_getElem?_getD,List.getD_eq_getElem?_getD,List.getElem?_take_of_lt hx]
theorem t_equal(xs ys:List Int)(z1:Sx.Rest)(n m:Nat)(hn:n≤xs.length)(hm:ys.length=m)(hl:xs.length≤1000000): Ct Tryz.prog 60 (sB [.s (.s 0 n),.s (.s 1 m)] [.sl 0 (Sx.encI .u64) 0 1 xs 42,.rd 1 (Sx.encI .u64) 0 1 ys 42 z1] 2 (decide (xs.take n=ys)) [.sl 0 (Sx.encI .u64) 0 1 xs 42,.rd 1 (Sx.encI .u64) 0 1 ys 42 z1]):=by
 subst hm
 refine cX 26 xaI Tryz.func60 fun g F => ?_
 refine xB ((↑n:Int) != (↑ys.length:Int)) (fun h1 => ?_) (fun h1 => ?_)
 ·skip
  replace h1:=ntT h1
  replace h1:=decF h1
  exact xR (false) ((decide_eq_false (fun h=>by have:=congrArg List.length h; simp at this; omega)).symm)
 ·skip
  replace h1:=ntF h1
  replace h1:=decT h1
  refine xLoop xaI Tryz.func60 [0,1,0,1,1] [.b 0,.c [1,1,1]] [0,1,12,13] [0,1] (fun i:Nat=>[(0,.slice (g 0).a n (g 0).c),(1,.slice (g 1).a ys.length (g 1).c),(12,.int .i64 n),(13,.int .i64 i)]) (fun _=>[(0,.i 0),(1,.i 1)]) (fun _=>[.sl (g 0).a (g 0).c (Sx.encI .u64) 0 1 xs 42,.rd (g 1).a (g 1).c (Sx.encI .u64) 0 1 ys 42 z1]) (fun _=>⟨[(0,[]),(1,[])],2⟩) (fun i=>i≤n∧xs.take i=ys.take i) (fun i=>n-i) 0 ⟨by omega,rfl⟩ (fun i J hI hJ => ?_)
  refine xB (decide ((↑i:Int)<(↑n:Int))) (fun h2 => ?_) (fun h2 => ?_)
  ·skip
   replace h2:=decT h2
   refine xO (n≤xs.length∧(0:Int)≤(↑i:Int)∧(↑i:Int)<(↑n:Int)) ⟨by omega,by omega,by omega⟩ ?_
   refine xO ((↑i:Int).toNat<xs.length) (by omega) ?_
   refine xO (ys.length≤ys.length∧(0:Int)≤(↑i:Int)∧(↑i:Int)<(↑ys.length:Int)) ⟨by omega,by omega,by omega⟩ ?_
   refine xO ((↑i:Int).toNat<ys.length) (by omega) ?_
   refine xB (xs.getD (↑i:Int).toNat (0:Int) != ys.getD (↑i:Int).toNat (0:Int)) (fun h3 => ?_) (fun h3 => ?_)
   ·skip
    replace h3:=ntT h3
    replace h3:=decF h3
    exact xR (false) ((decide_eq_false (take_ne (i:=i) (by omega) (by omega) (by assumption))).symm)
   ·skip
    replace h3:=ntF h3
    replace h3:=decT h3
    refine xO (InK IntKind.i64 (↑i+1)) (by simp only [InK] at *; omega) ?_
    exact xJ hJ (i+1) (by omega) ⟨by omega,take_step hI.2 (by omega) (by omega) (by assumption)⟩
  ·skip
   replace h2:=decF h2
   exact xR (true) ((decide_eq_true (by have hi:i=n:=(by omega); subst hi; rw [hI.2,List.take_of_length_le (by omega)])).symm)
end Go.Proofs.YthijdhenekmojaaGreatDoor
/- Rows that the law makes, and compares. -/
set_option linter.unusedSimpArgs false
set_option maxRecDepth 100000
set_option maxHeartbeats 0
namespace Go.Proofs.YthijdhenekmojaaGreatDoor
open Go.Sx
def xl: Cx:={xa with unroll:=[]}
theorem xlI: Inl Tryz.prog xl:=⟨xaI.1,xaI.2⟩
abbrev sL(args:List SA)(pre:List SE)(n:Nat)(ys:List Int)(post:List Int→List SE): Sp (List Int):=⟨args,pre,n,fun x=>x=ys,fun x=>[.s (.s 1 x.length)],post⟩
theorem t_sameS(xs ys:List Int)(n m:Nat)(hn:xs.length=n)(hm:m≤ys.length)(hl:xs.length≤1000000): Ct Tryz.prog 19 (sB [.s (.s 0 n),.s (.s 1 m)] [.sl 0 (Sx.encI .u64) 0 1 xs 42,.sl 1 (Sx.encI .u64) 0 1 ys 42] 2 (decide (ys.take m=xs)) [.sl 0 (Sx.encI .u64) 0 1 xs 42,.sl 1 (Sx.encI .u64) 0 1 ys 42]):=by
 subst hn
 refine cX 26 xlI Tryz.func19 fun g F => ?_
 refine xB ((↑xs.length:Int) != (↑m:Int)) (fun h1 => ?_) (fun h1 => ?_)
 ·skip
  replace h1:=ntT h1
  replace h1:=decF h1
  exact xR (false) ((decide_eq_false (fun h=>by have:=congrArg List.length h; simp at this; omega)).symm)
 ·skip
  replace h1:=ntF h1
  replace h1:=decT h1
  refine xLoop xlI Tryz.func19 [0,1,0,1,1] [.b 0,.c [1,1,1]] [0,1,5] [0,1] (fun i:Nat=>[(0,.slice (g 0).a xs.length (g 0).c),(1,.slice (g 1).a m (g 1).c),(5,.int .i64 i)]) (fun _=>[(0,.i 0),(1,.i 1)]) (fun _=>[.sl (g 0).a (g 0).c (Sx.encI .u64) 0 1 xs 42,.sl (g 1).a (g 1).c (Sx.encI .u64) 0 1 ys 42]) (fun _=>⟨[(0,[]),(1,[])],2⟩) (fun i=>i≤xs.length∧ys.take i=xs.take i) (fun i=>xs.length-i) 0 ⟨by omega,rfl⟩ (fun i J hI hJ => ?_)
  refine xB (decide ((↑i:Int)<(↑xs.length:Int))) (fun h2 => ?_) (fun h2 => ?_)
  ·skip
   replace h2:=decT h2
   refine xO (xs.length≤xs.length∧(0:Int)≤(↑i:Int)∧(↑i:Int)<(↑xs.length:Int)) (by omega) ?_
   refine xO ((↑i:Int).toNat<xs.length) (by omega) ?_
   refine xO (m≤ys.length∧(0:Int)≤(↑i:Int)∧(↑i:Int)<(↑m:Int)) (by omega) ?_
   refine xO ((↑i:Int).toNat<ys.length) (by omega) ?_
   refine xB (xs.getD (↑i:Int).toNat (0:Int) != ys.getD (↑i:Int).toNat (0:Int)) (fun h3 => ?_) (fun h3 => ?_)
   ·skip
    replace h3:=ntT h3
    replace h3:=decF h3
    exact xR (false) ((decide_eq_false (take_ne (i:=i) (by omega) (by omega) (Ne.symm (by assumption)))).symm)
   ·skip
    replace h3:=ntF h3
    replace h3:=decT h3
    refine xO (InK IntKind.i64 (↑i+1)) (by simp only [InK] at *; omega) ?_
    exact xJ hJ (i+1) (by omega) ⟨by omega,take_step hI.2 (by omega) (by omega) (Eq.symm (by assumption))⟩
  ·skip
   replace h2:=decF h2
   exact xR (true) ((decide_eq_true (by have hi:i=m:=(by omega); subst hi; rw [hI.2,List.take_of_length_le (by omega)])).symm)
theorem t_sameR(xs ys:List Int)(z:Sx.Rest)(n m:Nat)(hn:xs.length=n)(hm:m≤ys.length)(hl:xs.length≤1000000): Ct Tryz.prog 19 (sB [.s (.s 0 n),.s (.s 1 m)] [.rd 0 (Sx.encI .u64) 0 1 xs 42 z,.sl 1 (Sx.encI .u64) 0 1 ys 42] 2 (decide (ys.take m=xs)) [.rd 0 (Sx.encI .u64) 0 1 xs 42 z,.sl 1 (Sx.encI .u64) 0 1 ys 42]):=by
 subst hn
 refine cX 26 xlI Tryz.func19 fun g F => ?_
 refine xB ((↑xs.length:Int) != (↑m:Int)) (fun h1 => ?_) (fun h1 => ?_)
 ·skip
  replace h1:=ntT h1
  replace h1:=decF h1
  exact xR (false) ((decide_eq_false (fun h=>by have:=congrArg List.length h; simp at this; omega)).symm)
 ·skip
  replace h1:=ntF h1
  replace h1:=decT h1
  refine xLoop xlI Tryz.func19 [0,1,0,1,1] [.b 0,.c [1,1,1]] [0,1,5] [0,1] (fun i:Nat=>[(0,.slice (g 0).a xs.length (g 0).c),(1,.slice (g 1).a m (g 1).c),(5,.int .i64 i)]) (fun _=>[(0,.i 0),(1,.i 1)]) (fun _=>[.rd (g 0).a (g 0).c (Sx.encI .u64) 0 1 xs 42 z,.sl (g 1).a (g 1).c (Sx.encI .u64) 0 1 ys 42]) (fun _=>⟨[(0,[]),(1,[])],2⟩) (fun i=>i≤xs.length∧ys.take i=xs.take i) (fun i=>xs.length-i) 0 ⟨by omega,rfl⟩ (fun i J hI hJ => ?_)
  refine xB (decide ((↑i:Int)<(↑xs.length:Int))) (fun h2 => ?_) (fun h2 => ?_)
  ·skip
   replace h2:=decT h2
   refine xO (xs.length≤xs.length∧(0:Int)≤(↑i:Int)∧(↑i:Int)<(↑xs.length:Int)) (by omega) ?_
   refine xO ((↑i:Int).toNat<xs.length) (by omega) ?_
   refine xO (m≤ys.length∧(0:Int)≤(↑i:Int)∧(↑i:Int)<(↑m:Int)) (by omega) ?_
   refine xO ((↑i:Int).toNat<ys.length) (by omega) ?_
   refine xB (xs.getD (↑i:Int).toNat (0:Int) != ys.getD (↑i:Int).toNat (0:Int)) (fun h3 => ?_) (fun h3 => ?_)
   ·skip
    replace h3:=ntT h3
    replace h3:=decF h3
    exact xR (false) ((decide_eq_false (take_ne (i:=i) (by omega) (by omega) (Ne.symm (by assumption)))).symm)
   ·skip
    replace h3:=ntF h3
    replace h3:=decT h3
    refine xO (InK IntKind.i64 (↑i+1)) (by simp only [InK] at *; omega) ?_
    exact xJ hJ (i+1) (by omega) ⟨by omega,take_step hI.2 (by omega) (by omega) (Eq.symm (by assumption))⟩
  ·skip
   replace h2:=decF h2
   exact xR (true) ((decide_eq_true (by have hi:i=m:=(by omega); subst hi; rw [hI.2,List.take_of_length_le (by omega)])).symm)
theorem rep_step{xs:List Int}{more:Int}{ys:List Int}(h:∃k,ys=xs++List.replicate k more∧(k=0∨ys.length≤5))(h5:(ys.length:Int)<5): ∃k,ys++[more]=xs++List.replicate k more∧(k=0∨(ys++[more]).length≤5):=by
 obtain⟨k,rfl,_⟩:=h
 refine⟨k+1,by rw [List.append_assoc,←List.replicate_succ'],.inr ?_⟩
 simp only [List.length_append,List.length_replicate,List.length_cons,List.length_nil] at h5 ⊢
 omega
theorem rep_end{xs:List Int}{more:Int}{ys:List Int}(h:∃k,ys=xs++List.replicate k more∧(k=0∨ys.length≤5))(h5:¬(ys.length:Int)<5): ys=xs++List.replicate (5-xs.length) more:=by
 obtain⟨k,rfl,h⟩:=h
 simp only [List.length_append,List.length_replicate] at h5 h
 have:k=5-xs.length:=by omega
 rw [this]
theorem t_full(xs:List Int)(n:Nat)(hn:xs.length=n)(hl:xs.length≤1000)(more:Int): Ct Tryz.prog 21 (sL [.s (.s 0 n),.s (.i .u64 more)] [.sl 0 (Sx.encI .u64) 0 1 xs 42] 1 (xs++List.replicate (5-xs.length) more) fun ys=>[.sl 0 (Sx.encI .u64) 0 1 xs 42,.sl 1 (Sx.encI .u64) 0 1 ys 42]):=by
 subst hn
 refine cX 17 xlI Tryz.func21 fun g F => ?_
 refine xN fun b1 => ?_
 refine xW0 _ (view_none 1 (b:=b1) .u64 42) ?_ sc_st
 refine xAp 1 (some {block:=b1,off:=0}) (0) (Sx.encI .u64) 0 1 ([]) 42 (xs) (.i 1) (oneI _) 8 (.slice (g 0).a (xs).length (g 0).c) (by simp; omega) (fun F=>(src_sl (i:=0) (d:=0) (sz:=1) (t:=42) (by kernel_rfl))) (fun a1_ c1_ => ?_)
 refine xLoop xlI Tryz.func21 [0,0,1,1] [.b 0,.c [1,1,1]] [1,5] [0,1] (fun i:List Int×Option Addr×Nat=>[(1,.int .u64 more),(5,.slice i.2.1 i.1.length i.2.2)]) (fun _=>[(5,.i 1)]) (fun i=>[.sl (g 0).a (g 0).c (Sx.encI .u64) 0 1 xs 42,.sl i.2.1 i.2.2 (Sx.encI .u64) 0 1 i.1 42]) (fun _=>⟨[(0,[]),(1,[])],2⟩) (fun i=>(∃k,i.1=xs++List.replicate k more∧(k=0∨i.1.length≤5))∧i.1.length≤1000) (fun i=>5-i.1.length) ([]++xs,a1_,c1_) ⟨⟨0,by simp,.inl rfl⟩,by simp; omega⟩ (fun i J hI hJ => ?_)
 refine xB (decide ((↑i.fst.length:Int)<(5:Int))) (fun h2 => ?_) (fun h2 => ?_)
 ·skip
  replace h2:=decT h2
  refine xN fun b3 => ?_
  refine xAp 1 (i.snd.fst) (i.snd.snd) (Sx.encI .u64) 0 1 (i.fst) 42 [more] (.i 1) (oneI _) 8 (.slice (some ⟨b3,0,none⟩) 1 1) (by simp; omega) (fun F=>(src_pts (i:=2) (n:=1) (c:=1) (cs:=cellsOf (Sx.encI .u64) [more]) (t:=42) (by kernel_rfl))) (fun a1_ c1_ => ?_)
  exact xJ hJ (i.1++[more],a1_,c1_) (by simp; omega) ⟨rep_step hI.1 (by assumption),by simp; omega⟩
 ·skip
  replace h2:=decF h2
  exact xR (i.fst) (rep_end hI.1 (by assumption))
theorem few_step{xs ys:List Int}{i:Nat}{x:Int}(h:ys=IntKind.u64.wrap xs.length :: (xs.take i).map IntKind.u64.wrap)(hi:i<xs.length)(hx:x=IntKind.u64.wrap (xs.getD i 0)): ys++[x]=IntKind.u64.wrap xs.length :: (xs.take (i+1)).map IntKind.u64.wrap:=by
 subst h hx
 rw [List.take_add_one,List.getElem?_eq_getElem hi,List.getD_eq_getElem?_getD,List.getElem?_eq_getElem hi]
 simp only [List.map_append,List.map_cons,List.map_nil,List.cons_append,Option.toList_some,Option.getD_some]
theorem few_end{xs ys:List Int}{i:Nat}(h:ys=IntKind.u64.wrap xs.length :: (xs.take i).map IntKind.u64.wrap)(hi:i=3∨(xs.length≤i∧i≤3)): ys=IntKind.u64.wrap xs.length :: (xs.take 3).map IntKind.u64.wrap:=by
 rcases hi with rfl | ⟨h1,h2⟩
 ·exact h
 ·rw [h,List.take_of_length_le h1,List.take_of_length_le (by omega)]
theorem t_few(xs:List Int)(n:Nat)(hn:xs.length=n)(hl:xs.length≤1000000): Ct Tryz.prog 20 (sL [.s (.s 0 n)] [.sl 0 (Sx.encI .i64) 0 1 xs 3] 1 (IntKind.u64.wrap xs.length :: (xs.take 3).map IntKind.u64.wrap) fun ys=>[.sl 0 (Sx.encI .i64) 0 1 xs 3,.sl 1 (Sx.encI .u64) 0 1 ys 42]):=by
 subst hn
 refine cX 28 xlI Tryz.func20 fun g F => ?_
 refine xN fun b1 => ?_
 refine xW0 _ (view_lit 1 (b:=b1) .u64 [IntKind.u64.wrap (xs.length:Int)] 42 (by simp [maxLen])) (xLoop xlI Tryz.func20 [0,1,0,1,1] [.b 0,.c [1,1,1]] [0,3,4] [0,1] (fun i:List Int×Nat×Option Addr×Nat=>[(0,.slice (g 0).a xs.length (g 0).c),(3,.slice i.2.2.1 i.1.length i.2.2.2),(4,.int .i64 i.2.1)]) (fun _=>[(0,.i 0),(3,.i 1)]) (fun i=>[.sl (g 0).a (g 0).c (Sx.encI .i64) 0 1 xs 3,.sl i.2.2.1 i.2.2.2 (Sx.encI .u64) 0 1 i.1 42]) (fun _=>⟨[(0,[]),(1,[])],2⟩) (fun i=>i.1=IntKind.u64.wrap xs.length :: (xs.take i.2.1).map IntKind.u64.wrap∧i.2.1≤3∧i.2.1≤xs.length∧i.1.length≤1+i.2.1) (fun i=>3-i.2.1) ([IntKind.u64.wrap (xs.length:Int)],0,some ⟨b1,0,none⟩,1) ⟨by simp,by simp,by simp,by simp⟩ (fun i J hI hJ => ?_)) sc_st
 refine xB (decide ((↑i.snd.fst:Int)<(↑xs.length:Int))) (fun h2 => ?_) (fun h2 => ?_)
 ·skip
  replace h2:=decT h2
  refine xB (decide ((↑i.snd.fst:Int)<(3:Int))) (fun h3 => ?_) (fun h3 => ?_)
  ·skip
   replace h3:=decT h3
   refine xO (xs.length≤xs.length∧(0:Int)≤(↑i.snd.fst:Int)∧(↑i.snd.fst:Int)<(↑xs.length:Int)) (by omega) ?_
   refine xO ((↑i.snd.fst:Int).toNat<xs.length) (by omega) ?_
   refine xN fun b4 => ?_
   refine xAp 1 (i.snd.snd.fst) (i.snd.snd.snd) (Sx.encI .u64) 0 1 (i.fst) 42 [IntKind.u64.wrap (xs.getD (↑i.snd.fst:Int).toNat (0:Int))] (.i 1) (oneI _) 8 (.slice (some ⟨b4,0,none⟩) 1 1) (by simp; omega) (fun F=>(src_pts (i:=2) (n:=1) (c:=1) (cs:=cellsOf (Sx.encI .u64) [IntKind.u64.wrap (xs.getD (↑i.snd.fst:Int).toNat (0:Int))]) (t:=42) (by kernel_rfl))) (fun a1_ c1_ => ?_)
   refine xO (InK IntKind.i64 (↑i.snd.fst+1)) (by simp only [InK] at *; omega) ?_
   exact xJ hJ (i.1++[IntKind.u64.wrap (xs.getD i.2.1 0)],i.2.1+1,a1_,c1_) (by show 3-(i.2.1+1)<3-i.2.1; omega) ⟨few_step hI.1 (by omega) rfl,by show i.2.1+1≤3; omega,by show i.2.1+1≤xs.length; omega,by simp; omega⟩
  ·skip
   replace h3:=decF h3
   exact xR (i.fst) (few_end hI.1 (by omega))
 ·skip
  replace h2:=decF h2
  exact xR (i.fst) (few_end hI.1 (by omega))
end Go.Proofs.YthijdhenekmojaaGreatDoor
/- The law's config. -/
set_option linter.unusedSimpArgs false
set_option maxRecDepth 100000
set_option maxHeartbeats 0
namespace Go.Proofs.YthijdhenekmojaaGreatDoor
open Go.Sx
def cf(t:Int): Cfg:={topics:=t,small:=4,slots:=2,clients:=3,s0:=5,n0:=2,s1:=8,n1:=2,retry:=2}
theorem cf_ok{t:Int}(h:1≤t∧t≤4): (cf t).Ok:=by simp only [Cfg.Ok,cf]; omega
theorem and3(n:Int): 0≤IntKind.i64.wrap (↑(BitVec.ofInt IntKind.i64.bits n &&& BitVec.ofInt IntKind.i64.bits 3).toNat)∧IntKind.i64.wrap (↑(BitVec.ofInt IntKind.i64.bits n &&& BitVec.ofInt IntKind.i64.bits 3).toNat)≤3:=by
 have h:(BitVec.ofInt IntKind.i64.bits n &&& BitVec.ofInt IntKind.i64.bits 3).toNat≤3:=by
  rw [BitVec.toNat_and]
  exact Nat.le_trans Nat.and_le_right (by decide)
 have h2:IntKind.i64.wrap (((BitVec.ofInt IntKind.i64.bits n &&& BitVec.ofInt IntKind.i64.bits 3).toNat:Nat):Int)=(((BitVec.ofInt IntKind.i64.bits n &&& BitVec.ofInt IntKind.i64.bits 3).toNat:Nat):Int):=by
  apply wrap_in
  simp only [InK]
  omega
 rw [h2]
 omega
theorem t_config(n:Int): Ct Tryz.prog 9 (⟨[.s (.i .i64 n)],[],0,fun t=>1≤t∧t≤4,fun t=>[.g (cfgS (cf t))],fun _=>[]⟩:Sp Int):=by
 refine cX 8 xaI Tryz.func9 fun g F => ?_
 refine xN fun b1 => ?_
 refine xO (InK IntKind.i64 (1+IntKind.i64.wrap ↑(BitVec.ofInt IntKind.i64.bits n &&& BitVec.ofInt IntKind.i64.bits 3).toNat)) (by have:=and3 n; simp only [InK]; omega) ?_
 refine xN fun b2 => ?_
 refine xN fun b3 => ?_
 refine xN fun b4 => ?_
 exact xR (1+IntKind.i64.wrap ↑(BitVec.ofInt IntKind.i64.bits n &&& BitVec.ofInt IntKind.i64.bits 3).toNat) (by have:=and3 n; show 1≤(1:Int) + _∧(1:Int) + _≤4; omega)
end Go.Proofs.YthijdhenekmojaaGreatDoor
/- What is meant by numbers, of no model. -/
set_option linter.unusedSimpArgs false
set_option maxRecDepth 100000
set_option maxHeartbeats 0
namespace Go.Proofs.YthijdhenekmojaaGreatDoor
open Go.Sx
theorem andR(n:Int)(m:Int)(hm:0≤m∧m≤4294967295): 0≤IntKind.i64.wrap (↑(BitVec.ofInt IntKind.i64.bits n &&& BitVec.ofInt IntKind.i64.bits m).toNat)∧IntKind.i64.wrap (↑(BitVec.ofInt IntKind.i64.bits n &&& BitVec.ofInt IntKind.i64.bits m).toNat)≤m:=by
 obtain⟨k,rfl⟩:=Int.eq_ofNat_of_zero_le hm.1
 have h:(BitVec.ofInt IntKind.i64.bits n &&& BitVec.ofInt IntKind.i64.bits (k:Int)).toNat≤k:=by
  rw [BitVec.toNat_and]
  refine Nat.le_trans Nat.and_le_right ?_
  rw [BitVec.ofInt_natCast,BitVec.toNat_ofNat]
  exact Nat.mod_le _ _
 have h2:IntKind.i64.wrap (((BitVec.ofInt IntKind.i64.bits n &&& BitVec.ofInt IntKind.i64.bits (k:Int)).toNat:Nat):Int)=(((BitVec.ofInt IntKind.i64.bits n &&& BitVec.ofInt IntKind.i64.bits (k:Int)).toNat:Nat):Int):=by
  apply wrap_in
  simp only [InK]
  omega
 rw [h2]
 omega
def wd(x:Int): Int:=IntKind.u64.wrap (IntKind.i64.wrap (↑(BitVec.ofInt IntKind.i64.bits x &&& BitVec.ofInt IntKind.i64.bits 4294967295).toNat))
def kd(x:Int): Int:=(x.tmod 6+6).tmod 6
theorem tmR(x:Int)(k:Int)(hk:1≤k∧k≤100): InK .i64 (x.tmod k+k):=by
 have h1:=Int.tmod_lt_of_pos x (show 0<k by omega)
 have h2 : -k<x.tmod k:=by
  rcases Int.le_total 0 x with h | h
  ·have:=Int.tmod_nonneg k h; omega
  ·have h3:=Int.tmod_lt_of_pos (-x) (show 0<k by omega)
   rw [Int.neg_tmod] at h3
   omega
 simp only [InK]
 omega
abbrev opS(ki ke co n cl cm bf af:Int)(n0 n1:Nat)(la ty fa fi:Bool): List SV:=[.i .i64 ki,.i .i64 ke,.i .i64 co,.i .i64 n,.i .i64 cl,.i .i64 cm,.i .i64 bf,.i .i64 af,.s 0 n0,.s 1 n1,.bo la,.bo ty,.bo fa,.bo fi]
abbrev opF(ki ke co n cl cm bf af:Int)(ws ks:List Int)(a0 a1:Option Addr)(c0 c1:Nat)(la ty fa fi:Bool): List SV:=[.i .i64 ki,.i .i64 ke,.i .i64 co,.i .i64 n,.i .i64 cl,.i .i64 cm,.i .i64 bf,.i .i64 af,.o (.slice a0 ws.length c0),.o (.slice a1 ks.length c1),.bo la,.bo ty,.bo fa,.bo fi]
abbrev sO(args:List SA)(pre:List SE)(n k:Nat): Sp (List Value):=⟨args,pre,n,fun cs=>cs.length=k,fun cs=>[.g (cs.map .o)],fun _=>pre⟩
abbrev dSp(ki ke co n cl cm bf af:Int)(ws ks:List Int)(a0 a1:Option Addr)(c0 c1:Nat)(la ty fa fi:Bool): Sp (List Value):=sO [.g (opF ki ke co n cl cm bf af ws ks a0 a1 c0 c1 la ty fa fi),.s .np] [] 0 14
abbrev zD: List Value:=[.int .i64 0,.int .i64 0,.int .i64 0,.bool false,.slice none 0 0,.int .i64 0,.slice none 0 0,.int .i64 0,.slice none 0 0,.slice none 0 0,.int .u64 0,.int .i64 0,.int .i64 0,.int .i64 0]
theorem done2(ki ke co n cl cm bf af:Int)(ws ks:List Int)(a0 a1:Option Addr)(c0 c1:Nat)(la ty fa fi:Bool)(hw:ws.length≤maxLen)(hk:ks.length≤maxLen)(g:Nat→Rf)(F:Fr)(hr0:RowF F a0 .i64 ws)(hr1:RowF F a1 .i64 ks)
  (b1 b2 b3 b7:Nat) (ys:List Int) (a:Option Addr) (c:Nat) (v0 v1 v4:Int) (pa:Option Addr) (pn pc:Nat) (w0 w3:Int) (com:Int) (hy:ys.length≤1000) :
  Go Tryz.prog Tryz.f12 (Tryz.f12.body.getD .skip) 222 F (RetR F (Some_ ((dSp ki ke co n cl cm bf af ws ks a0 a1 c0 c1 la ty fa fi).Q g))) [.c [0,1,0,1,1,1,1,1,1,1],.b 2,.c [1,1,1,1,1,1,1,1]]
   [(1,.pointer none),(2,.pointer (some ⟨b1,0,none⟩)),(4,.pointer (some ⟨b2,0,none⟩)),(5,.pointer (some ⟨b3,0,none⟩)),(7,.pointer (some ⟨b7,0,none⟩)),(8,.int .i64 0)]
   [.pts b1 ((opF ki ke co n cl cm bf af ws ks a0 a1 c0 c1 la ty fa fi).map (SV.v g)) 48,.pts b2 zD 46,.pts b3 [.int .i64 v0,.int .i64 v1,.bool la,.slice a ys.length c,.int .i64 v4,.slice pa pn pc] 40,.sl a c (Sx.encI .u64) 0 1 ys 42,.pts b7 [.int .i64 w0,.slice none 0 0,.slice none 0 0,.int .u64 w3,.int .i64 com] 44]:=by
 refine xG xlI [(1,.c),(2,.i 2),(4,.i 3),(5,.i 4),(7,.i 6)] ⟨[(2,(opF ki ke co n cl cm bf af ws ks a0 a1 c0 c1 la ty fa fi).map (SV.g id)),(3,List.replicate 14 .c),(4,[.n,.n,.n,.i 5,.n,.n]),(5,[]),(6,[.n,.c,.c,.n,.n])],20⟩ Tryz.func12 ?_
 refine xW0 _ (view_nil (Sx.encI .i64) 0 1 3 (sizedI _)) (xLoop xlI Tryz.func12 [0,1,0,1,1,1,1,1,1,1] [.b 2,.c [1,1,1,1,1,1,1,1]] [1,2,4,5,7,8] [0,1,2,3,4,5] (fun i:List Int×Nat×Option Addr×Nat=>[(1,.pointer none),(2,.pointer (some ⟨b1,0,none⟩)),(4,.pointer (some ⟨b2,0,none⟩)),(5,.pointer (some ⟨b3,0,none⟩)),(7,.pointer (some ⟨b7,0,none⟩)),(8,.int .i64 i.2.1)]) (fun _=>[(1,.c),(2,.i 2),(4,.i 3),(5,.i 4),(7,.i 6)]) (fun i=>[.pts b1 ((opF ki ke co n cl cm bf af ws ks a0 a1 c0 c1 la ty fa fi).map (SV.v g)) 48,.pts b2 zD 46,.pts b3 [.int .i64 v0,.int .i64 v1,.bool la,.slice a ys.length c,.int .i64 v4,.slice pa pn pc] 40,.sl a c (Sx.encI .u64) 0 1 ys 42,.pts b7 [.int .i64 w0,.slice none 0 0,.slice i.2.2.1 i.1.length i.2.2.2,.int .u64 w3,.int .i64 com] 44,.sl i.2.2.1 i.2.2.2 (Sx.encI .i64) 0 1 i.1 3]) (fun _=>⟨[(2,(opF ki ke co n cl cm bf af ws ks a0 a1 c0 c1 la ty fa fi).map (SV.g id)),(3,List.replicate 14 .c),(4,[.n,.n,.n,.i 5,.n,.n]),(5,[]),(6,[.n,.c,.i 7,.n,.n]),(7,[])],20⟩) (fun i=>i.1.length=i.2.1∧i.2.1≤5) (fun i=>5-i.2.1) ([],0,none,0) ⟨rfl,by simp⟩ (fun i J hI hJ => ?_)) sc_st
 refine xB (decide ((↑i.snd.fst:Int)<(↑ks.length:Int))) (fun h1 => ?_) (fun h1 => ?_)
 ·skip
  replace h1:=decT h1
  refine xB (decide ((↑i.snd.fst:Int)<(5:Int))) (fun h2 => ?_) (fun h2 => ?_)
  ·skip
   replace h2:=decT h2
   refine xIx hr1 (ks.length) (c1) .i64 (↑i.snd.fst) (show ks.length≤(ks).length∧(0:Int)≤↑i.snd.fst∧↑i.snd.fst<((ks.length:Nat):Int) by omega) ?_
   refine xLd hr1 ((↑i.snd.fst:Int).toNat) (show(↑i.snd.fst:Int).toNat<(ks).length by omega) ?_
   refine xO ((6:Int)≠(0:Int)) (by omega) ?_
   refine xO (InK IntKind.i64 ((ks.getD (↑i.snd.fst:Int).toNat (0:Int)).tmod (6:Int)+(6:Int))) (tmR _ _ (by omega)) ?_
   refine xO ((6:Int)≠(0:Int)) (by omega) ?_
   refine xN fun b3 => ?_
   refine xAp 5 (i.snd.snd.fst) (i.snd.snd.snd) (Sx.encI .i64) 0 1 (i.fst) 3 [((ks.getD (↑i.snd.fst:Int).toNat (0:Int)).tmod (6:Int)+(6:Int)).tmod (6:Int)] (.i 7) (oneI _) 8 (.slice (some ⟨b3,0,none⟩) 1 1) (by simp; omega) (fun F=>(src_pts (i:=6) (n:=1) (c:=1) (cs:=cellsOf (Sx.encI .i64) [((ks.getD (↑i.snd.fst:Int).toNat (0:Int)).tmod (6:Int)+(6:Int)).tmod (6:Int)]) (t:=3) (by kernel_rfl))) (fun a5_ c5_ => ?_)
   refine xO (InK IntKind.i64 (↑i.snd.fst+1)) (by have a:=andR com 16777215 (by omega); have b:=andR bf 3 (by omega); have d:=andR af 3 (by omega); simp only [InK]; omega) ?_
   exact xJ hJ (i.1++[kd (ks.getD i.2.1 0)],i.2.1+1,a5_,c5_) (by show 5-(i.2.1+1)<5-i.2.1; omega) ⟨by simp [hI.1],by show i.2.1+1≤5; omega⟩
  ·skip
   replace h2:=decF h2
   refine xN fun b4 => ?_
   refine xW0 _ (view_none 6 (b:=b4) .u64 42) ?_ sc_st
   refine xAp 6 (some {block:=b4,off:=0}) (0) (Sx.encI .u64) 0 1 ([]) 42 (ys) (.i 26) (oneI _) 8 (.slice a (ys).length c) (by simp; omega) (fun F=>(src_sl (i:=3) (d:=0) (sz:=1) (t:=42) (by kernel_rfl))) (fun a6_ c6_ => ?_)
   refine xB (fi) (fun h5 => ?_) (fun h5 => ?_)
   ·skip
    refine xO ((3:Int)≠(0:Int)) (by omega) ?_
    refine xO (InK IntKind.i64 (cl.tmod (3:Int)+(3:Int))) (tmR _ _ (by omega)) ?_
    refine xO ((3:Int)≠(0:Int)) (by omega) ?_
    refine xO (InK IntKind.i64 (IntKind.i64.wrap ↑(BitVec.ofInt IntKind.i64.bits com &&& BitVec.ofInt IntKind.i64.bits 16777215).toNat-1)) (by have a:=andR com 16777215 (by omega); have b:=andR bf 3 (by omega); have d:=andR af 3 (by omega); simp only [InK]; omega) ?_
    refine xO (InK IntKind.i64 (IntKind.i64.wrap ↑(BitVec.ofInt IntKind.i64.bits com &&& BitVec.ofInt IntKind.i64.bits 16777215).toNat-1-IntKind.i64.wrap ↑(BitVec.ofInt IntKind.i64.bits bf &&& BitVec.ofInt IntKind.i64.bits 3).toNat)) (by have a:=andR com 16777215 (by omega); have b:=andR bf 3 (by omega); have d:=andR af 3 (by omega); simp only [InK]; omega) ?_
    refine xO (InK IntKind.i64 (IntKind.i64.wrap ↑(BitVec.ofInt IntKind.i64.bits com &&& BitVec.ofInt IntKind.i64.bits 16777215).toNat+IntKind.i64.wrap ↑(BitVec.ofInt IntKind.i64.bits af &&& BitVec.ofInt IntKind.i64.bits 3).toNat)) (by have a:=andR com 16777215 (by omega); have b:=andR bf 3 (by omega); have d:=andR af 3 (by omega); simp only [InK]; omega) ?_
    refine xO (InK IntKind.i64 (IntKind.i64.wrap ↑(BitVec.ofInt IntKind.i64.bits com &&& BitVec.ofInt IntKind.i64.bits 16777215).toNat+IntKind.i64.wrap ↑(BitVec.ofInt IntKind.i64.bits af &&& BitVec.ofInt IntKind.i64.bits 3).toNat-1)) (by have a:=andR com 16777215 (by omega); have b:=andR bf 3 (by omega); have d:=andR af 3 (by omega); simp only [InK]; omega) ?_
    exact xRo 14 fun _ h=>h
   ·skip
    refine xO ((3:Int)≠(0:Int)) (by omega) ?_
    refine xO (InK IntKind.i64 (cl.tmod (3:Int)+(3:Int))) (tmR _ _ (by omega)) ?_
    refine xO ((3:Int)≠(0:Int)) (by omega) ?_
    refine xO (InK IntKind.i64 (IntKind.i64.wrap ↑(BitVec.ofInt IntKind.i64.bits com &&& BitVec.ofInt IntKind.i64.bits 16777215).toNat-1)) (by have a:=andR com 16777215 (by omega); have b:=andR bf 3 (by omega); have d:=andR af 3 (by omega); simp only [InK]; omega) ?_
    refine xO (InK IntKind.i64 (IntKind.i64.wrap ↑(BitVec.ofInt IntKind.i64.bits com &&& BitVec.ofInt IntKind.i64.bits 16777215).toNat-1-IntKind.i64.wrap ↑(BitVec.ofInt IntKind.i64.bits bf &&& BitVec.ofInt IntKind.i64.bits 3).toNat)) (by have a:=andR com 16777215 (by omega); have b:=andR bf 3 (by omega); have d:=andR af 3 (by omega); simp only [InK]; omega) ?_
    refine xO (InK IntKind.i64 (IntKind.i64.wrap ↑(BitVec.ofInt IntKind.i64.bits com &&& BitVec.ofInt IntKind.i64.bits 16777215).toNat+IntKind.i64.wrap ↑(BitVec.ofInt IntKind.i64.bits af &&& BitVec.ofInt IntKind.i64.bits 3).toNat)) (by have a:=andR com 16777215 (by omega); have b:=andR bf 3 (by omega); have d:=andR af 3 (by omega); simp only [InK]; omega) ?_
    refine xO (InK IntKind.i64 (IntKind.i64.wrap ↑(BitVec.ofInt IntKind.i64.bits com &&& BitVec.ofInt IntKind.i64.bits 16777215).toNat+IntKind.i64.wrap ↑(BitVec.ofInt IntKind.i64.bits af &&& BitVec.ofInt IntKind.i64.bits 3).toNat-1)) (by have a:=andR com 16777215 (by omega); have b:=andR bf 3 (by omega); have d:=andR af 3 (by omega); simp only [InK]; omega) ?_
    exact xRo 14 fun _ h=>h
 ·skip
  replace h1:=decF h1
  refine xN fun b6 => ?_
  refine xW0 _ (view_none 6 (b:=b6) .u64 42) ?_ sc_st
  refine xAp 6 (some {block:=b6,off:=0}) (0) (Sx.encI .u64) 0 1 ([]) 42 (ys) (.i 24) (oneI _) 8 (.slice a (ys).length c) (by simp; omega) (fun F=>(src_sl (i:=3) (d:=0) (sz:=1) (t:=42) (by kernel_rfl))) (fun a6_ c6_ => ?_)
  refine xB (fi) (fun h7 => ?_) (fun h7 => ?_)
  ·skip
   refine xO ((3:Int)≠(0:Int)) (by omega) ?_
   refine xO (InK IntKind.i64 (cl.tmod (3:Int)+(3:Int))) (tmR _ _ (by omega)) ?_
   refine xO ((3:Int)≠(0:Int)) (by omega) ?_
   refine xO (InK IntKind.i64 (IntKind.i64.wrap ↑(BitVec.ofInt IntKind.i64.bits com &&& BitVec.ofInt IntKind.i64.bits 16777215).toNat-1)) (by have a:=andR com 16777215 (by omega); have b:=andR bf 3 (by omega); have d:=andR af 3 (by omega); simp only [InK]; omega) ?_
   refine xO (InK IntKind.i64 (IntKind.i64.wrap ↑(BitVec.ofInt IntKind.i64.bits com &&& BitVec.ofInt IntKind.i64.bits 16777215).toNat-1-IntKind.i64.wrap ↑(BitVec.ofInt IntKind.i64.bits bf &&& BitVec.ofInt IntKind.i64.bits 3).toNat)) (by have a:=andR com 16777215 (by omega); have b:=andR bf 3 (by omega); have d:=andR af 3 (by omega); simp only [InK]; omega) ?_
   refine xO (InK IntKind.i64 (IntKind.i64.wrap ↑(BitVec.ofInt IntKind.i64.bits com &&& BitVec.ofInt IntKind.i64.bits 16777215).toNat+IntKind.i64.wrap ↑(BitVec.ofInt IntKind.i64.bits af &&& BitVec.ofInt IntKind.i64.bits 3).toNat)) (by have a:=andR com 16777215 (by omega); have b:=andR bf 3 (by omega); have d:=andR af 3 (by omega); simp only [InK]; omega) ?_
   refine xO (InK IntKind.i64 (IntKind.i64.wrap ↑(BitVec.ofInt IntKind.i64.bits com &&& BitVec.ofInt IntKind.i64.bits 16777215).toNat+IntKind.i64.wrap ↑(BitVec.ofInt IntKind.i64.bits af &&& BitVec.ofInt IntKind.i64.bits 3).toNat-1)) (by have a:=andR com 16777215 (by omega); have b:=andR bf 3 (by omega); have d:=andR af 3 (by omega); simp only [InK]; omega) ?_
   exact xRo 14 fun _ h=>h
  ·skip
   refine xO ((3:Int)≠(0:Int)) (by omega) ?_
   refine xO (InK IntKind.i64 (cl.tmod (3:Int)+(3:Int))) (tmR _ _ (by omega)) ?_
   refine xO ((3:Int)≠(0:Int)) (by omega) ?_
   refine xO (InK IntKind.i64 (IntKind.i64.wrap ↑(BitVec.ofInt IntKind.i64.bits com &&& BitVec.ofInt IntKind.i64.bits 16777215).toNat-1)) (by have a:=andR com 16777215 (by omega); have b:=andR bf 3 (by omega); have d:=andR af 3 (by omega); simp only [InK]; omega) ?_
   refine xO (InK IntKind.i64 (IntKind.i64.wrap ↑(BitVec.ofInt IntKind.i64.bits com &&& BitVec.ofInt IntKind.i64.bits 16777215).toNat-1-IntKind.i64.wrap ↑(BitVec.ofInt IntKind.i64.bits bf &&& BitVec.ofInt IntKind.i64.bits 3).toNat)) (by have a:=andR com 16777215 (by omega); have b:=andR bf 3 (by omega); have d:=andR af 3 (by omega); simp only [InK]; omega) ?_
   refine xO (InK IntKind.i64 (IntKind.i64.wrap ↑(BitVec.ofInt IntKind.i64.bits com &&& BitVec.ofInt IntKind.i64.bits 16777215).toNat+IntKind.i64.wrap ↑(BitVec.ofInt IntKind.i64.bits af &&& BitVec.ofInt IntKind.i64.bits 3).toNat)) (by have a:=andR com 16777215 (by omega); have b:=andR bf 3 (by omega); have d:=andR af 3 (by omega); simp only [InK]; omega) ?_
   refine xO (InK IntKind.i64 (IntKind.i64.wrap ↑(BitVec.ofInt IntKind.i64.bits com &&& BitVec.ofInt IntKind.i64.bits 16777215).toNat+IntKind.i64.wrap ↑(BitVec.ofInt IntKind.i64.bits af &&& BitVec.ofInt IntKind.i64.bits 3).toNat-1)) (by have a:=andR com 16777215 (by omega); have b:=andR bf 3 (by omega); have d:=andR af 3 (by omega); simp only [InK]; omega) ?_
   exact xRo 14 fun _ h=>h
end Go.Proofs.YthijdhenekmojaaGreatDoor
/- The document's model: its topics' places. -/
set_option linter.unusedSimpArgs false
set_option maxRecDepth 100000
set_option maxHeartbeats 0
namespace Go.Proofs.YthijdhenekmojaaGreatDoor
open Go.Sx
abbrev TopL:= List (Int×Bool×PRow)
def encT(x:Int×Bool×PRow): List Value:=[.int .i64 x.1,.bool x.2.1,x.2.2.v]
def tN: Int×Bool×PRow:=(0,false,.nil)
theorem sizedT: Sized encT 3:=fun _=>rfl
def atL(L:TopL)(k:Int): Int:=match L.findIdx? (fun x=>x.1==k) with
 | some i=>i
 | none => -1
theorem at_hit{L:TopL}{ke:Int}{i:Nat}(h1:∀x∈L.take i,(x.1==ke)=false)(hi:i<L.length)(h:(L.getD i tN).1=ke): (i:Int)=atL L ke:=by
 have hg:L[i]? = some (L.getD i tN):=by simp [hi]
 have e:L.findIdx? (fun x=>x.1==ke)=some i:=by
  rw [List.findIdx?_eq_some_iff_getElem]
  refine⟨hi, ?_, ?_⟩
  ·have:L[i]=L.getD i tN:=by simp [hi]
   rw [this,h]; simp
  ·intro j hj
   have:=h1 L[j] (List.mem_take_iff_getElem.2 ⟨j,by omega,rfl⟩)
   simpa using this
 unfold atL
 rw [e]
theorem at_miss{L:TopL}{ke:Int}{i:Nat}(h1:∀x∈L.take i,(x.1==ke)=false)(hi:L.length≤i): (-1:Int)=atL L ke:=by
 have e:L.findIdx? (fun x=>x.1==ke)=none:=by
  rw [List.findIdx?_eq_none_iff]
  rw [List.take_of_length_le hi] at h1
  exact h1
 unfold atL
 rw [e]
theorem at_step{L:TopL}{ke:Int}{i:Nat}(h1:∀x∈L.take i,(x.1==ke)=false)(hi:i<L.length)(h:¬(L.getD i tN).1=ke): ∀x∈L.take (i+1),(x.1==ke)=false:=by
 intro x hx
 rw [List.take_add_one] at hx
 rcases List.mem_append.1 hx with hx | hx
 ·exact h1 x hx
 ·have hg:L[i]? = some (L.getD i tN):=by simp [hi]
  rw [hg] at hx
  have:x=L.getD i tN:=by simpa using hx
  rw [this]
  simpa using h
abbrev mdR(c:Cfg)(sv hv:SV)(n:Nat): SE:=.pts 0 (cfgS c++[sv,.s 1 n,hv]) 60
theorem t_at(c:Cfg)(L:TopL)(sv hv:Value)(ke:Int)(n:Nat)(hn:L.length=n)(hl:n≤1000000):
  Ct Tryz.prog 38 (⟨[.s (.p 0 0),.s (.i .i64 ke)],[mdR c (.o sv) (.o hv) n,.sl 1 encT tN 3 L 56],2,fun x=>x=atL L ke,fun x=>[.s (.i .i64 x)],fun _=>[mdR c (.o sv) (.o hv) n,.sl 1 encT tN 3 L 56]⟩:Sp Int):=by
 subst hn
 refine cX 26 xlI Tryz.func38 fun g F => ?_
 refine xLoop xlI Tryz.func38 [0,1,0,1] [.b 0,.c [1,1]] [0,1,5] [0,1] (fun i:Nat=>[(0,.pointer (some ⟨(g 0).b,0,none⟩)),(1,.int .i64 ke),(5,.int .i64 i)]) (fun _=>[(0,.i 0),(1,.n),(5,.n)]) (fun _=>[SE.e g (mdR c (.o sv) (.o hv) L.length),.sl (g 1).a (g 1).c encT tN 3 L 56]) (fun _=>⟨[(0,(cfgS c++[SV.o sv,SV.s 1 L.length,SV.o hv]).map (SV.g id)),(1,[])],2⟩) (fun i=>i≤L.length∧∀x∈L.take i,(x.1==ke)=false) (fun i=>L.length-i) 0 ⟨by omega,by simp⟩ (fun i J hI hJ => ?_)
 refine xB (decide ((↑i:Int)<(↑(List.length L):Int))) (fun h1 => ?_) (fun h1 => ?_)
 ·skip
  replace h1:=decT h1
  refine xO (List.length L≤List.length L∧(0:Int)≤(↑i:Int)∧(↑i:Int)<(↑(List.length L):Int)) (by omega) ?_
  refine xFs 1 ((g 1).a) ((g 1).c) (encT) (tN) 3 (L) 56 (i) 0 false 1 [Value.int IntKind.i64 (List.getD L i tN).fst] .n (show i<(L).length by omega) rfl rfl (by simp) ?_
  refine xB ((List.getD L i tN).fst==ke) (fun h2 => ?_) (fun h2 => ?_)
  ·skip
   replace h2:=decT h2
   exact xR (↑i) (at_hit hI.2 (by omega) (by assumption))
  ·skip
   replace h2:=decF h2
   refine xO (InK IntKind.i64 (↑i+1)) (by simp only [InK] at *; omega) ?_
   exact xJ hJ (i+1) (by omega) ⟨by omega,at_step hI.2 (by omega) (by assumption)⟩
 ·skip
  replace h1:=decF h1
  exact xR (-1) (at_miss hI.2 (by omega))
end Go.Proofs.YthijdhenekmojaaGreatDoor
/- The document's model: its keys; are two rows the same? -/
set_option linter.unusedSimpArgs false
set_option maxRecDepth 100000
set_option maxHeartbeats 0
namespace Go.Proofs.YthijdhenekmojaaGreatDoor
open Go.Sx
theorem kz_step{L:TopL}{ys:List Int}{i:Nat}(h:ys=(L.take i).map (·.1))(hi:i<L.length): ys++[(L.getD i tN).1]=(L.take (i+1)).map (·.1):=by
 have hg:L[i]? = some (L.getD i tN):=by simp [hi]
 rw [List.take_add_one,hg,h]; simp
theorem kz_end{L:TopL}{ys:List Int}{i:Nat}(h:ys=(L.take i).map (·.1))(hi:L.length≤i): ys=L.map (·.1):=by
 rw [h,List.take_of_length_le hi]
theorem t_keysR(c:Cfg)(L:TopL)(sv hv:Value)(n:Nat)(hn:L.length=n)(hl:n≤1000000):
  Ct Tryz.prog 17 (⟨[.s (.p 0 0)],[mdR c (.o sv) (.o hv) n,.sl 1 encT tN 3 L 56],2,fun x=>x=L.map (·.1),fun x=>[.s (.s 2 x.length)],fun x=>[mdR c (.o sv) (.o hv) n,.sl 1 encT tN 3 L 56,.sl 2 (Sx.encI .i64) 0 1 x 3]⟩:Sp (List Int)):=by
 subst hn
 refine cX 26 xlI Tryz.func17 fun g F => ?_
 refine xW0 _ (view_nil (Sx.encI .i64) 0 1 3 (sizedI _)) (xLoop xlI Tryz.func17 [0,1,0,1,1] [.b 0,.c [1,1,1]] [0,3,4] [0,1,2] (fun i:List Int×Nat×Option Addr×Nat=>[(0,.pointer (some ⟨(g 0).b,0,none⟩)),(3,.slice i.2.2.1 i.1.length i.2.2.2),(4,.int .i64 i.2.1)]) (fun _=>[(0,.i 0),(3,.i 2)]) (fun i=>[SE.e g (mdR c (.o sv) (.o hv) L.length),.sl (g 1).a (g 1).c encT tN 3 L 56,.sl i.2.2.1 i.2.2.2 (Sx.encI .i64) 0 1 i.1 3]) (fun _=>⟨[(0,(cfgS c++[SV.o sv,SV.s 1 L.length,SV.o hv]).map (SV.g id)),(1,[]),(2,[])],3⟩) (fun i=>i.1=(L.take i.2.1).map (·.1)∧i.2.1≤L.length∧i.1.length≤i.2.1) (fun i=>L.length-i.2.1) ([],0,none,0) ⟨by simp,by simp,by simp⟩ (fun i J hI hJ => ?_)) sc_st
 refine xB (decide ((↑i.snd.fst:Int)<(↑(List.length L):Int))) (fun h1 => ?_) (fun h1 => ?_)
 ·skip
  replace h1:=decT h1
  refine xO (List.length L≤List.length L∧(0:Int)≤(↑i.snd.fst:Int)∧(↑i.snd.fst:Int)<(↑(List.length L):Int)) (by omega) ?_
  refine xFs 1 ((g 1).a) ((g 1).c) (encT) (tN) 3 (L) 56 (i.snd.fst) 0 false 1 [Value.int IntKind.i64 (List.getD L i.snd.fst tN).fst] .n (show i.snd.fst<(L).length by omega) rfl rfl (by simp) ?_
  refine xN fun b2 => ?_
  refine xAp 2 (i.snd.snd.fst) (i.snd.snd.snd) (Sx.encI .i64) 0 1 (i.fst) 3 [(List.getD L i.snd.fst tN).fst] (.i 2) (oneI _) 8 (.slice (some ⟨b2,0,none⟩) 1 1) (by first | (simp; done) | (simp; omega)) (fun F=>(src_pts (i:=3) (n:=1) (c:=1) (cs:=cellsOf (Sx.encI .i64) [(List.getD L i.snd.fst tN).fst]) (t:=3) (by kernel_rfl))) (fun a2_ c2_ => ?_)
  refine xO (InK IntKind.i64 (↑i.snd.fst+1)) (by simp only [InK] at *; omega) ?_
  exact xJ hJ (i.1++[(L.getD i.2.1 tN).1],i.2.1+1,a2_,c2_) (by show L.length-(i.2.1+1)<L.length-i.2.1; omega) ⟨kz_step hI.1 (by omega),by show i.2.1+1≤L.length; omega,by simp; omega⟩
 ·skip
  replace h1:=decF h1
  exact xR (i.fst) (kz_end hI.1 (by omega))
end Go.Proofs.YthijdhenekmojaaGreatDoor
/- The document's model: one more topic. -/
set_option linter.unusedSimpArgs false
set_option maxRecDepth 100000
set_option maxHeartbeats 0
namespace Go.Proofs.YthijdhenekmojaaGreatDoor
open Go.Sx
theorem pt_end{L:TopL}{ke:Int}{i:Nat}{t:Int×Bool×PRow}(h0:i≤L.length)(h1:∀x∈L.take i,x.1<ke)(h:L.length≤i∨¬(L.getD i tN).1<ke):
  ∃j,j≤L.length∧(∀x∈L.take j,x.1<ke)∧(∀x,L[j]? = some x→¬x.1<ke)∧[]++L.take i++[t]++L.drop i=(L.take j++[t])++L.drop j:=by
 refine⟨i,h0,h1, ?_,by simp⟩
 intro x hx
 have hlt:i<L.length:=(List.getElem?_eq_some_iff.1 hx).1
 have hg:L.getD i tN=x:=by simp [hx]
 rcases h with h | h
 ·omega
 ·rw [←hg]; exact h
theorem oneT: ∀y,∀u∈encT y,u.oneCell'=true:=by
 intro y u hu
 simp only [encT,PRow.v,List.mem_cons,List.not_mem_nil,or_false] at hu
 rcases hu with rfl | rfl | rfl <;> rfl
abbrev mdRr(r:Nat)(c:Cfg)(sv hv:SV)(n:Nat): SE:=.pts 0 (cfgS c++[sv,.s r n,hv]) 60
theorem pt_step{L:TopL}{ke:Int}{i:Nat}(h1:∀x∈L.take i,x.1<ke)(hi:i<L.length)(h:(L.getD i tN).1<ke): ∀x∈L.take (i+1),x.1<ke:=by
 intro x hx
 rw [List.take_add_one] at hx
 rcases List.mem_append.1 hx with hx | hx
 ·exact h1 x hx
 ·have hg:L[i]? = some (L.getD i tN):=by simp [hi]
  rw [hg] at hx
  have:x=L.getD i tN:=by simpa using hx
  rw [this]
  exact h
theorem t_put(c:Cfg)(L:TopL)(sv hv:Value)(ke:Int)(lg:Bool)(p:PRow)(n:Nat)(hn:L.length=n)(hl:n≤1000):
  Ct Tryz.prog 40 (⟨[.s (.p 0 0),.g [.i .i64 ke,.bo lg,.o p.v]],[mdRr 1 c (.o sv) (.o hv) n,.sl 1 encT tN 3 L 56],2,fun L' => ∃i,i≤L.length∧(∀x∈L.take i,x.1<ke)∧(∀x,L[i]? = some x→¬x.1<ke)∧L'=(L.take i++[(ke,lg,p)])++L.drop i,fun _=>[],fun L'=>[mdRr 2 c (.o sv) (.o hv) L'.length,.sl 2 encT tN 3 L' 56]⟩:Sp TopL):=by
 subst hn
 refine cX 48 xlI Tryz.func40 fun g F => ?_
 refine xN fun b1 => ?_
 refine xLoop xlI Tryz.func40 [0,0,1,1] [.b 0,.c [1,1,1]] [0,3,4] [0,1,2] (fun i:Nat=>[(0,.pointer (some ⟨(g 0).b,0,none⟩)),(3,.pointer (some ⟨b1,0,none⟩)),(4,.int .i64 i)]) (fun _=>[(0,.i 0),(3,.i 2)]) (fun _=>[SE.e g (mdRr 1 c (.o sv) (.o hv) L.length),.sl (g 1).a (g 1).c encT tN 3 L 56,.pts b1 [.int .i64 ke,.bool lg,p.v] 56]) (fun _=>⟨[(0,(cfgS c++[SV.o sv,SV.s 1 L.length,SV.o hv]).map (SV.g id)),(1,[]),(2,[.n,.n,.n])],3⟩) (fun i=>i≤L.length∧∀x∈L.take i,x.1<ke) (fun i=>L.length-i) 0 ⟨by omega,by simp⟩ (fun i J hI hJ => ?_)
 refine xB (decide ((↑i:Int)<(↑(List.length L):Int))) (fun h2 => ?_) (fun h2 => ?_)
 ·skip
  replace h2:=decT h2
  refine xO (List.length L≤List.length L∧(0:Int)≤(↑i:Int)∧(↑i:Int)<(↑(List.length L):Int)) (by omega) ?_
  refine xFs 1 ((g 1).a) ((g 1).c) (encT) (tN) 3 (L) 56 (i) 0 false 1 [Value.int IntKind.i64 (List.getD L i tN).fst] .n (show i<(L).length by omega) rfl rfl (by simp) ?_
  refine xB (decide ((List.getD L i tN).fst<ke)) (fun h3 => ?_) (fun h3 => ?_)
  ·skip
   replace h3:=decT h3
   refine xO (InK IntKind.i64 (↑i+1)) (by simp only [InK] at *; omega) ?_
   exact xJ hJ (i+1) (by omega) ⟨by omega,pt_step hI.2 (by omega) (by assumption)⟩
  ·skip
   replace h3:=decF h3
   refine xO ((0:Int)≤(↑i:Int)∧(↑i:Int)≤(↑(List.length L):Int)) (by omega) ?_
   refine xO ((0:Int)≤(↑i:Int)∧(↑i:Int)≤(↑(List.length L):Int)) (by omega) ?_
   refine xA ?_ ?_
   ·skip
    refine xN fun b4 => ?_
    refine xO ((0:Int)≤(↑i:Int)∧(↑i:Int)≤(↑(List.length L):Int)) (by omega) ?_
    refine xO ((0:Int)≤(↑i:Int)∧(↑i:Int)≤(↑(List.length L):Int)) (by omega) ?_
    refine xA ?_ ?_
    ·skip
     refine xW0 _ (view_empty 3 (b:=b4) encT tN 3 56 sizedT (by kernel_rfl)) ?_ sc_st
     refine xAp 3 (some {block:=b4,off:=0}) (0) encT tN 3 ([]) 56 ((L).take (i)) (.i 4) oneT 40 (.slice (g 1).a (i) (g 1).c) (by first | (simp; done) | (simp; omega)) (fun F=>(src_slU (a:=(g 1).a) (c:=(g 1).c) (enc:=encT) (sz:=3) (i:=1) (d:=tN) (t:=56) (i) (show(i)≤(L).length by omega) (by kernel_rfl))) (fun a3_ c3_ => ?_)
     refine xO ((0:Int)≤(↑i:Int)∧(↑i:Int)≤(↑(List.length L):Int)) (by omega) ?_
     refine xN fun b5 => ?_
     refine xO ((0:Int)≤(↑i:Int)∧(↑i:Int)≤(↑(List.length L):Int)) (by omega) ?_
     refine xAp 3 (a3_) (c3_) encT tN 3 ([]++List.take i L) 56 [(ke,lg,p)] (.i 4) oneT 40 (.slice (some ⟨b5,0,none⟩) 1 1) (by first | (simp; done) | (simp; omega)) (fun F=>(src_pts (i:=4) (n:=1) (c:=1) (cs:=cellsOf encT [(ke,lg,p)]) (t:=56) (by kernel_rfl))) (fun a3_ c3_ => ?_)
     refine xO ((0:Int)≤(↑i:Int)∧(↑i:Int)≤(↑(List.length L):Int)) (by omega) ?_
     refine xAp 3 (a3_) (c3_) encT tN 3 ([]++List.take i L++[(ke,lg,p)]) 56 ((L).drop (i)) (.i 4) oneT 40 (.slice (cutA (g 1).a (g 1).c (i) 3) ((L).drop (i)).length ((g 1).c-(i))) (by first | (simp; done) | (simp; omega)) (fun F=>(src_slD (i:=1) (d:=tN) (t:=56) (i) (by omega) (by kernel_rfl))) (fun a3_ c3_ => ?_)
     exact xR ([]++List.take i L++[(ke,lg,p)]++List.drop i L) (pt_end hI.1 hI.2 (.inr (by assumption)))
    ·skip
     refine xN fun b6 => ?_
     refine xO ((0:Int)≤(↑i:Int)∧(↑i:Int)≤(↑(List.length L):Int)) (by omega) ?_
     refine xO ((0:Int)≤(↑i:Int)∧(↑i:Int)≤(↑(List.length L):Int)) (by omega) ?_
     refine xW0 _ (view_empty 3 (b:=b4) encT tN 3 56 sizedT (by kernel_rfl)) ?_ sc_st
     refine xAp 3 (some {block:=b4,off:=0}) (0) encT tN 3 ([]) 56 ((L).take (i)) (.i 4) oneT 40 (.slice (g 1).a (i) (g 1).c) (by first | (simp; done) | (simp; omega)) (fun F=>(src_slU (a:=(g 1).a) (c:=(g 1).c) (enc:=encT) (sz:=3) (i:=1) (d:=tN) (t:=56) (i) (show(i)≤(L).length by omega) (by kernel_rfl))) (fun a3_ c3_ => ?_)
     refine xO ((0:Int)≤(↑i:Int)∧(↑i:Int)≤(↑(List.length L):Int)) (by omega) ?_
     refine xAp 3 (a3_) (c3_) encT tN 3 ([]++List.take i L) 56 [(ke,lg,p)] (.i 4) oneT 40 (.slice (some ⟨b6,0,none⟩) 1 1) (by first | (simp; done) | (simp; omega)) (fun F=>(src_pts (i:=4) (n:=1) (c:=1) (cs:=cellsOf encT [(ke,lg,p)]) (t:=56) (by kernel_rfl))) (fun a3_ c3_ => ?_)
     refine xO ((0:Int)≤(↑i:Int)∧(↑i:Int)≤(↑(List.length L):Int)) (by omega) ?_
     refine xAp 3 (a3_) (c3_) encT tN 3 ([]++List.take i L++[(ke,lg,p)]) 56 ((L).drop (i)) (.i 4) oneT 40 (.slice (cutA (g 1).a (g 1).c (i) 3) ((L).drop (i)).length ((g 1).c-(i))) (by first | (simp; done) | (simp; omega)) (fun F=>(src_slD (i:=1) (d:=tN) (t:=56) (i) (by omega) (by kernel_rfl))) (fun a3_ c3_ => ?_)
     exact xR ([]++List.take i L++[(ke,lg,p)]++List.drop i L) (pt_end hI.1 hI.2 (.inr (by assumption)))
   ·skip
    refine xN fun b7 => ?_
    refine xO ((0:Int)≤(↑i:Int)∧(↑i:Int)≤(↑(List.length L):Int)) (by omega) ?_
    refine xO ((0:Int)≤(↑i:Int)∧(↑i:Int)≤(↑(List.length L):Int)) (by omega) ?_
    refine xN fun b8 => ?_
    refine xO ((0:Int)≤(↑i:Int)∧(↑i:Int)≤(↑(List.length L):Int)) (by omega) ?_
    refine xO ((0:Int)≤(↑i:Int)∧(↑i:Int)≤(↑(List.length L):Int)) (by omega) ?_
    refine xW0 _ (view_empty 4 (b:=b8) encT tN 3 56 sizedT (by kernel_rfl)) ?_ sc_st
    refine xAp 4 (some {block:=b8,off:=0}) (0) encT tN 3 ([]) 56 ((L).take (i)) (.i 5) oneT 40 (.slice (g 1).a (i) (g 1).c) (by first | (simp; done) | (simp; omega)) (fun F=>(src_slU (a:=(g 1).a) (c:=(g 1).c) (enc:=encT) (sz:=3) (i:=1) (d:=tN) (t:=56) (i) (show(i)≤(L).length by omega) (by kernel_rfl))) (fun a4_ c4_ => ?_)
    refine xO ((0:Int)≤(↑i:Int)∧(↑i:Int)≤(↑(List.length L):Int)) (by omega) ?_
    refine xAp 4 (a4_) (c4_) encT tN 3 ([]++List.take i L) 56 [(ke,lg,p)] (.i 5) oneT 40 (.slice (some ⟨b7,0,none⟩) 1 1) (by first | (simp; done) | (simp; omega)) (fun F=>(src_pts (i:=3) (n:=1) (c:=1) (cs:=cellsOf encT [(ke,lg,p)]) (t:=56) (by kernel_rfl))) (fun a4_ c4_ => ?_)
    refine xO ((0:Int)≤(↑i:Int)∧(↑i:Int)≤(↑(List.length L):Int)) (by omega) ?_
    refine xAp 4 (a4_) (c4_) encT tN 3 ([]++List.take i L++[(ke,lg,p)]) 56 ((L).drop (i)) (.i 5) oneT 40 (.slice (cutA (g 1).a (g 1).c (i) 3) ((L).drop (i)).length ((g 1).c-(i))) (by first | (simp; done) | (simp; omega)) (fun F=>(src_slD (i:=1) (d:=tN) (t:=56) (i) (by omega) (by kernel_rfl))) (fun a4_ c4_ => ?_)
    exact xR ([]++List.take i L++[(ke,lg,p)]++List.drop i L) (pt_end hI.1 hI.2 (.inr (by assumption)))
 ·skip
  replace h2:=decF h2
  refine xO ((0:Int)≤(↑i:Int)∧(↑i:Int)≤(↑(List.length L):Int)) (by omega) ?_
  refine xO ((0:Int)≤(↑i:Int)∧(↑i:Int)≤(↑(List.length L):Int)) (by omega) ?_
  refine xA ?_ ?_
  ·skip
   refine xN fun b9 => ?_
   refine xO ((0:Int)≤(↑i:Int)∧(↑i:Int)≤(↑(List.length L):Int)) (by omega) ?_
   refine xO ((0:Int)≤(↑i:Int)∧(↑i:Int)≤(↑(List.length L):Int)) (by omega) ?_
   refine xA ?_ ?_
   ·skip
    refine xW0 _ (view_empty 3 (b:=b9) encT tN 3 56 sizedT (by kernel_rfl)) ?_ sc_st
    refine xAp 3 (some {block:=b9,off:=0}) (0) encT tN 3 ([]) 56 ((L).take (i)) (.i 3) oneT 40 (.slice (g 1).a (i) (g 1).c) (by first | (simp; done) | (simp; omega)) (fun F=>(src_slU (a:=(g 1).a) (c:=(g 1).c) (enc:=encT) (sz:=3) (i:=1) (d:=tN) (t:=56) (i) (show(i)≤(L).length by omega) (by kernel_rfl))) (fun a3_ c3_ => ?_)
    refine xO ((0:Int)≤(↑i:Int)∧(↑i:Int)≤(↑(List.length L):Int)) (by omega) ?_
    refine xN fun b10 => ?_
    refine xO ((0:Int)≤(↑i:Int)∧(↑i:Int)≤(↑(List.length L):Int)) (by omega) ?_
    refine xAp 3 (a3_) (c3_) encT tN 3 ([]++List.take i L) 56 [(ke,lg,p)] (.i 3) oneT 40 (.slice (some ⟨b10,0,none⟩) 1 1) (by first | (simp; done) | (simp; omega)) (fun F=>(src_pts (i:=4) (n:=1) (c:=1) (cs:=cellsOf encT [(ke,lg,p)]) (t:=56) (by kernel_rfl))) (fun a3_ c3_ => ?_)
    refine xO ((0:Int)≤(↑i:Int)∧(↑i:Int)≤(↑(List.length L):Int)) (by omega) ?_
    refine xAp 3 (a3_) (c3_) encT tN 3 ([]++List.take i L++[(ke,lg,p)]) 56 ((L).drop (i)) (.i 3) oneT 40 (.slice (cutA (g 1).a (g 1).c (i) 3) ((L).drop (i)).length ((g 1).c-(i))) (by first | (simp; done) | (simp; omega)) (fun F=>(src_slD (i:=1) (d:=tN) (t:=56) (i) (by omega) (by kernel_rfl))) (fun a3_ c3_ => ?_)
    exact xR ([]++List.take i L++[(ke,lg,p)]++List.drop i L) (pt_end hI.1 hI.2 (.inl (by omega)))
   ·skip
    refine xN fun b11 => ?_
    refine xO ((0:Int)≤(↑i:Int)∧(↑i:Int)≤(↑(List.length L):Int)) (by omega) ?_
    refine xO ((0:Int)≤(↑i:Int)∧(↑i:Int)≤(↑(List.length L):Int)) (by omega) ?_
    refine xW0 _ (view_empty 3 (b:=b9) encT tN 3 56 sizedT (by kernel_rfl)) ?_ sc_st
    refine xAp 3 (some {block:=b9,off:=0}) (0) encT tN 3 ([]) 56 ((L).take (i)) (.i 3) oneT 40 (.slice (g 1).a (i) (g 1).c) (by first | (simp; done) | (simp; omega)) (fun F=>(src_slU (a:=(g 1).a) (c:=(g 1).c) (enc:=encT) (sz:=3) (i:=1) (d:=tN) (t:=56) (i) (show(i)≤(L).length by omega) (by kernel_rfl))) (fun a3_ c3_ => ?_)
    refine xO ((0:Int)≤(↑i:Int)∧(↑i:Int)≤(↑(List.length L):Int)) (by omega) ?_
    refine xAp 3 (a3_) (c3_) encT tN 3 ([]++List.take i L) 56 [(ke,lg,p)] (.i 3) oneT 40 (.slice (some ⟨b11,0,none⟩) 1 1) (by first | (simp; done) | (simp; omega)) (fun F=>(src_pts (i:=4) (n:=1) (c:=1) (cs:=cellsOf encT [(ke,lg,p)]) (t:=56) (by kernel_rfl))) (fun a3_ c3_ => ?_)
    refine xO ((0:Int)≤(↑i:Int)∧(↑i:Int)≤(↑(List.length L):Int)) (by omega) ?_
    refine xAp 3 (a3_) (c3_) encT tN 3 ([]++List.take i L++[(ke,lg,p)]) 56 ((L).drop (i)) (.i 3) oneT 40 (.slice (cutA (g 1).a (g 1).c (i) 3) ((L).drop (i)).length ((g 1).c-(i))) (by first | (simp; done) | (simp; omega)) (fun F=>(src_slD (i:=1) (d:=tN) (t:=56) (i) (by omega) (by kernel_rfl))) (fun a3_ c3_ => ?_)
    exact xR ([]++List.take i L++[(ke,lg,p)]++List.drop i L) (pt_end hI.1 hI.2 (.inl (by omega)))
  ·skip
   refine xN fun b12 => ?_
   refine xO ((0:Int)≤(↑i:Int)∧(↑i:Int)≤(↑(List.length L):Int)) (by omega) ?_
   refine xO ((0:Int)≤(↑i:Int)∧(↑i:Int)≤(↑(List.length L):Int)) (by omega) ?_
   refine xN fun b13 => ?_
   refine xO ((0:Int)≤(↑i:Int)∧(↑i:Int)≤(↑(List.length L):Int)) (by omega) ?_
   refine xO ((0:Int)≤(↑i:Int)∧(↑i:Int)≤(↑(List.length L):Int)) (by omega) ?_
   refine xW0 _ (view_empty 4 (b:=b13) encT tN 3 56 sizedT (by kernel_rfl)) ?_ sc_st
   refine xAp 4 (some {block:=b13,off:=0}) (0) encT tN 3 ([]) 56 ((L).take (i)) (.i 4) oneT 40 (.slice (g 1).a (i) (g 1).c) (by first | (simp; done) | (simp; omega)) (fun F=>(src_slU (a:=(g 1).a) (c:=(g 1).c) (enc:=encT) (sz:=3) (i:=1) (d:=tN) (t:=56) (i) (show(i)≤(L).length by omega) (by kernel_rfl))) (fun a4_ c4_ => ?_)
   refine xO ((0:Int)≤(↑i:Int)∧(↑i:Int)≤(↑(List.length L):Int)) (by omega) ?_
   refine xAp 4 (a4_) (c4_) encT tN 3 ([]++List.take i L) 56 [(ke,lg,p)] (.i 4) oneT 40 (.slice (some ⟨b12,0,none⟩) 1 1) (by first | (simp; done) | (simp; omega)) (fun F=>(src_pts (i:=3) (n:=1) (c:=1) (cs:=cellsOf encT [(ke,lg,p)]) (t:=56) (by kernel_rfl))) (fun a4_ c4_ => ?_)
   refine xO ((0:Int)≤(↑i:Int)∧(↑i:Int)≤(↑(List.length L):Int)) (by omega) ?_
   refine xAp 4 (a4_) (c4_) encT tN 3 ([]++List.take i L++[(ke,lg,p)]) 56 ((L).drop (i)) (.i 4) oneT 40 (.slice (cutA (g 1).a (g 1).c (i) 3) ((L).drop (i)).length ((g 1).c-(i))) (by first | (simp; done) | (simp; omega)) (fun F=>(src_slD (i:=1) (d:=tN) (t:=56) (i) (by omega) (by kernel_rfl))) (fun a4_ c4_ => ?_)
   exact xR ([]++List.take i L++[(ke,lg,p)]++List.drop i L) (pt_end hI.1 hI.2 (.inl (by omega)))
end Go.Proofs.YthijdhenekmojaaGreatDoor
/- The document's model: has a topic room for so many words? -/
set_option linter.unusedSimpArgs false
set_option maxRecDepth 100000
set_option maxHeartbeats 0
namespace Go.Proofs.YthijdhenekmojaaGreatDoor
open Go.Sx
theorem t_right(c:Cfg)(hc:c.Ok): Ct Tryz.prog 29 (⟨[.g (cfgS c)],[],0,fun b=>b=true,fun b=>[.s (.bo b)],fun _=>[]⟩:Sp Bool):=by
 simp only [Cfg.Ok] at hc
 refine cX 57 xaI Tryz.func29 fun g F => ?_
 refine xN fun b1 => ?_
 refine xN fun b2 => ?_
 refine xN fun b3 => ?_
 refine xT (decide (c.topics≥1)) (by first | (simp; done) | (simp; omega)) ?_
 refine xT (decide (c.topics≤8)) (by first | (simp; done) | (simp; omega)) ?_
 refine xT (decide (c.small≥4)) (by first | (simp; done) | (simp; omega)) ?_
 refine xT (decide (c.small≤32)) (by first | (simp; done) | (simp; omega)) ?_
 refine xT (decide (c.slots≥1)) (by first | (simp; done) | (simp; omega)) ?_
 refine xT (decide (c.slots≤8)) (by first | (simp; done) | (simp; omega)) ?_
 refine xT (decide (c.clients≥1)) (by first | (simp; done) | (simp; omega)) ?_
 refine xT (decide (c.clients≤8)) (by first | (simp; done) | (simp; omega)) ?_
 refine xT (decide (c.retry≥1)) (by first | (simp; done) | (simp; omega)) ?_
 refine xT (decide (c.retry≤8)) (by first | (simp; done) | (simp; omega)) ?_
 refine xT (decide (c.s0≥4)) (by first | (simp; done) | (simp; omega)) ?_
 refine xT (decide (c.s0≤96)) (by first | (simp; done) | (simp; omega)) ?_
 refine xO (InK IntKind.i64 (c.s0+1)) (by simp only [InK] at *; omega) ?_
 refine xT (decide (c.s1≥c.s0+1)) (by first | (simp; done) | (simp; omega)) ?_
 refine xT (decide (c.s1≤96)) (by first | (simp; done) | (simp; omega)) ?_
 refine xT (decide (c.n0≥0)) (by first | (simp; done) | (simp; omega)) ?_
 refine xT (decide (c.n0≤12)) (by first | (simp; done) | (simp; omega)) ?_
 refine xT (decide (c.n1≥0)) (by first | (simp; done) | (simp; omega)) ?_
 exact xR (decide (c.n1≤12)) (decide_eq_true (by omega))
def xw: Cx:=⟨[66],[],[],[41,66]⟩
theorem xwI: Inl Tryz.prog xw:=inl_ok ⟨Tryz.call66,trivial⟩ trivial
theorem t_fitsR(c:Cfg)(hc:c.Ok)(sv lv hv wv:Value)(ke:Int)(lg:Bool)(n:Int)(hn:0≤n∧n≤1000000):
  Ct Tryz.prog 41 (⟨[.s (.p 0 0),.g [.i .i64 ke,.bo lg,.o wv],.s (.i .i64 n)],[.pts 0 (cfgS c++[.o sv,.o lv,.o hv]) 60],1,fun b=>b=(if lg=true then decide (fitsC c n≥0) else decide (n≤c.small)),fun b=>[.s (.bo b)],fun _=>[.pts 0 (cfgS c++[.o sv,.o lv,.o hv]) 60]⟩:Sp Bool):=by
 have hc':=hc
 simp only [Cfg.Ok] at hc
 refine cX 23 xwI Tryz.func41 fun g F => ?_
 refine xN fun b1 => ?_
 refine xB (lg) (fun h2 => ?_) (fun h2 => ?_)
 ·skip
  refine xN fun b3 => ?_
  refine xC Tryz.call29 (t_right (c) (by omega)) fun xn4 n4 hxn4 => ?_
  subst hxn4
  refine xF (!true) rfl ?_
  refine xB (decide (n<1)) (fun h5 => ?_) (fun h5 => ?_)
  ·skip
   replace h5:=decT h5
   exact xR (false) (by simp [fitsC, *]; done)
  ·skip
   replace h5:=decF h5
   refine xB (decide (n≤c.s0)) (fun h6 => ?_) (fun h6 => ?_)
   ·skip
    replace h6:=decT h6
    exact xR (true) (by simp [fitsC, *]; done)
   ·skip
    replace h6:=decF h6
    refine xB (decide (n≤c.s1)) (fun h7 => ?_) (fun h7 => ?_)
    ·skip
     replace h7:=decT h7
     exact xR (true) (by simp [fitsC, *]; done)
    ·skip
     replace h7:=decF h7
     exact xR (false) (by simp [fitsC, *]; done)
 ·skip
  exact xR (decide (n≤c.small)) (by simp [fitsC, *]; done)
end Go.Proofs.YthijdhenekmojaaGreatDoor
/- The document's model: what is created, and removed. -/
set_option linter.unusedSimpArgs false
set_option maxRecDepth 100000
set_option maxHeartbeats 0
namespace Go.Proofs.YthijdhenekmojaaGreatDoor
open Go.Sx
def xd: Cx:=⟨[39],[],[],[]⟩
theorem xdI: Inl Tryz.prog xd:=inl_ok ⟨Tryz.call39,trivial⟩ trivial
theorem at_lt(L:TopL)(k:Int): -1≤atL L k∧atL L k<L.length:=by
 unfold atL
 split
 ·rename_i i h
  have:=(List.findIdx?_eq_some_iff_getElem.1 h).1
  omega
 ·omega
abbrev insP(L:TopL)(ke:Int)(lg:Bool)(p:PRow)(L':TopL): Prop := ∃i,i≤L.length∧(∀x∈L.take i,x.1<ke)∧(∀x,L[i]? = some x→¬x.1<ke)∧L'=(L.take i++[(ke,lg,p)])++L.drop i
structure RL where
 b:Bool
 L:TopL
def creR(c:Cfg)(L:TopL)(ke:Int)(la:Bool)(co:Int)(x:RL): Prop:=
 if mayB ke=false then x=⟨co==1,L⟩ else
 if co=0∧atL L ke<0∧(L.length:Int)<c.topics then x.b=true∧insP L ke la .nil x.L else
 x=⟨(co==14&&decide (atL L ke≥0))||(co==15&&decide (atL L ke<0)&&((L.length:Int)==c.topics))||co==17,L⟩
theorem cre_a{c:Cfg}{L:TopL}{ke:Int}{la:Bool}{co:Int}(h:¬(ke≥1∧ke≤2147483647)): creR c L ke la co ⟨co==1,L⟩:=by
 unfold creR; rw [if_pos (by simp only [mayB]; exact decide_eq_false (by omega))]
theorem cre_b{c:Cfg}{L:TopL}{ke:Int}{la:Bool}{co:Int}{L':TopL}(h:ke≥1∧ke≤2147483647)(h1:co=0∧atL L ke<0∧(L.length:Int)<c.topics)(h2:insP L ke la .nil L'): creR c L ke la co ⟨true,L'⟩:=by
 unfold creR
 rw [if_neg (by simp only [mayB]; simp; omega),if_pos h1]
 exact⟨rfl,h2⟩
theorem cre_c{c:Cfg}{L:TopL}{ke:Int}{la:Bool}{co:Int}{b:Bool}(h:ke≥1∧ke≤2147483647)(h1:¬(co=0∧atL L ke<0∧(L.length:Int)<c.topics))(h2:b=((co==14&&decide (atL L ke≥0))||(co==15&&decide (atL L ke<0)&&((L.length:Int)==c.topics))||co==17)): creR c L ke la co ⟨b,L⟩:=by
 unfold creR
 rw [if_neg (by simp only [mayB]; simp; omega),if_neg h1,h2]
theorem t_put0(c:Cfg)(L:TopL)(sv hv:Value)(ke:Int)(lg:Bool)(n:Nat)(hn:L.length=n)(hl:n≤1000):
  Ct Tryz.prog 40 (⟨[.s (.p 0 0),.g [.i .i64 ke,.bo lg,.o (.slice none 0 0)]],[mdRr 1 c (.o sv) (.o hv) n,.sl 1 encT tN 3 L 56],2,insP L ke lg .nil,fun _=>[],fun L'=>[mdRr 2 c (.o sv) (.o hv) L'.length,.sl 2 encT tN 3 L' 56]⟩:Sp TopL):=t_put c L sv hv ke lg .nil n hn hl
theorem t_creR(c:Cfg)(hc:c.Ok)(L:TopL)(sv hv:Value)(cl ke:Int)(la:Bool)(wa pa:Option Addr)(wn wc pn pc:Nat)(rw rk:Value)(ha co m cm fr to_:Int)(n:Nat)(hn:L.length=n)(hl:n≤100):
  Ct Tryz.prog 14 (⟨[.s (.p 0 0),.g (dS cl 1 ke la (.o (.slice wa wn wc)) ha (.o (.slice pa pn pc)) co (.o rw) (.o rk) m cm fr to_)],[mdRr 1 c (.o sv) (.o hv) n,.sl 1 encT tN 3 L 56],2,creR c L ke la co,fun x=>[.s (.bo x.b)],fun x=>[mdRr 2 c (.o sv) (.o hv) x.L.length,.sl 2 encT tN 3 x.L 56]⟩:Sp RL):=by
 subst hn
 refine cX 431 xdI Tryz.func14 fun g F => ?_
 refine xN fun b1 => ?_
 refine xN fun b2 => ?_
 refine xC Tryz.call38 (t_at (c) (L) (sv) (hv) (ke) (List.length L) (by omega) (by omega)) fun xn3 n3 hxn3 => ?_
 subst hxn3
 refine xN fun b4 => ?_
 refine xB (decide (atL L ke≥0)) (fun h5 => ?_) (fun h5 => ?_)
 ·skip
  replace h5:=decT h5
  refine xO (List.length L≤List.length L∧0≤atL L ke∧atL L ke < ↑(List.length L)) (by have:=at_lt L ke; omega) ?_
  refine xO ((atL L ke).toNat<List.length L) (by have:=at_lt L ke; omega) ?_
  refine xB (decide (ke≥1)) (fun h6 => ?_) (fun h6 => ?_)
  ·skip
   replace h6:=decT h6
   refine xB (!decide (ke≤2147483647)) (fun h7 => ?_) (fun h7 => ?_)
   ·skip
    replace h7:=ntT h7
    replace h7:=decF h7
    exact xR ({b:=co==1,L:=L}) (cre_a (by omega))
   ·skip
    replace h7:=ntF h7
    replace h7:=decT h7
    refine xB (co==0) (fun h8 => ?_) (fun h8 => ?_)
    ·skip
     replace h8:=decT h8
     refine xF (decide (atL L ke<0)) (by first | (simp; done) | (simp; omega)) ?_
     refine xF (co==14) (by first | (simp; done) | (simp; omega)) ?_
     refine xF (co==15) (by first | (simp; done) | (simp; omega)) ?_
     exact xR ({b:=co==17,L:=L}) (cre_c (by omega) (by omega) (by simp [*]; done))
    ·skip
     replace h8:=decF h8
     refine xB (co==14) (fun h9 => ?_) (fun h9 => ?_)
     ·skip
      replace h9:=decT h9
      refine xT (decide (atL L ke≥0)) (by first | (simp; done) | (simp; omega)) ?_
      exact xR ({b:=true,L:=L}) (cre_c (by omega) (by omega) (by simp [*]; done))
     ·skip
      replace h9:=decF h9
      refine xB (co==15) (fun h10 => ?_) (fun h10 => ?_)
      ·skip
       replace h10:=decT h10
       refine xF (decide (atL L ke<0)) (by first | (simp; done) | (simp; omega)) ?_
       exact xR ({b:=co==17,L:=L}) (cre_c (by omega) (by omega) (by simp [*]; omega))
      ·skip
       replace h10:=decF h10
       exact xR ({b:=co==17,L:=L}) (cre_c (by omega) (by omega) (by simp [*]; done))
  ·skip
   replace h6:=decF h6
   exact xR ({b:=co==1,L:=L}) (cre_a (by omega))
 ·skip
  replace h5:=decF h5
  refine xB (decide (ke≥1)) (fun h11 => ?_) (fun h11 => ?_)
  ·skip
   replace h11:=decT h11
   refine xB (!decide (ke≤2147483647)) (fun h12 => ?_) (fun h12 => ?_)
   ·skip
    replace h12:=ntT h12
    replace h12:=decF h12
    exact xR ({b:=co==1,L:=L}) (cre_a (by omega))
   ·skip
    replace h12:=ntF h12
    replace h12:=decT h12
    refine xB (co==0) (fun h13 => ?_) (fun h13 => ?_)
    ·skip
     replace h13:=decT h13
     refine xT (decide (atL L ke<0)) (by first | (simp; done) | (simp; omega)) ?_
     refine xB (decide (↑(List.length L)<c.topics)) (fun h14 => ?_) (fun h14 => ?_)
     ·skip
      replace h14:=decT h14
      refine xC Tryz.call40 (t_put0 (c) (L) (sv) (hv) (ke) (la) (List.length L) (by omega) (by omega)) fun xn16 n16 hxn16 => ?_
      exact xR ({b:=true,L:=xn16}) (cre_b (by omega) (by omega) (by assumption))
     ·skip
      replace h14:=decF h14
      refine xF (co==14) (by first | (simp; done) | (simp; omega)) ?_
      refine xF (co==15) (by first | (simp; done) | (simp; omega)) ?_
      exact xR ({b:=co==17,L:=L}) (cre_c (by omega) (by omega) (by simp [*]; done))
    ·skip
     replace h13:=decF h13
     refine xB (co==14) (fun h17 => ?_) (fun h17 => ?_)
     ·skip
      replace h17:=decT h17
      refine xF (decide (atL L ke≥0)) (by first | (simp; done) | (simp; omega)) ?_
      refine xF (co==15) (by first | (simp; done) | (simp; omega)) ?_
      exact xR ({b:=co==17,L:=L}) (cre_c (by omega) (by omega) (by simp [*]; done))
     ·skip
      replace h17:=decF h17
      refine xB (co==15) (fun h18 => ?_) (fun h18 => ?_)
      ·skip
       replace h18:=decT h18
       refine xT (decide (atL L ke<0)) (by first | (simp; done) | (simp; omega)) ?_
       refine xB (↑(List.length L)==c.topics) (fun h19 => ?_) (fun h19 => ?_)
       ·skip
        replace h19:=decT h19
        exact xR ({b:=true,L:=L}) (cre_c (by omega) (by omega) (by simp [*]; omega))
       ·skip
        replace h19:=decF h19
        exact xR ({b:=co==17,L:=L}) (cre_c (by omega) (by omega) (by simp [*]; done))
      ·skip
       replace h18:=decF h18
       exact xR ({b:=co==17,L:=L}) (cre_c (by omega) (by omega) (by simp [*]; done))
  ·skip
   replace h11:=decF h11
   exact xR ({b:=co==1,L:=L}) (cre_a (by omega))
end Go.Proofs.YthijdhenekmojaaGreatDoor
/- The document's model: what is pinned. -/
set_option linter.unusedSimpArgs false
set_option maxRecDepth 100000
set_option maxHeartbeats 0
namespace Go.Proofs.YthijdhenekmojaaGreatDoor
open Go.Sx
abbrev HanL:= List ((Int×Int)×PRow)
def encH(x:(Int×Int)×PRow): List Value:=[.int .i64 x.1.1,.int .i64 x.1.2,x.2.v]
def hN: (Int×Int)×PRow:=((0,0),.nil)
theorem sizedH: Sized encH 3:=fun _=>rfl
theorem oneH: ∀y,∀u∈encH y,u.oneCell'=true:=by
 intro y u hu
 simp only [encH,PRow.v,List.mem_cons,List.not_mem_nil,or_false] at hu
 rcases hu with rfl | rfl | rfl <;> rfl
abbrev mdH(r q:Nat)(c:Cfg)(sv:SV)(n k:Nat): SE:=.pts 0 (cfgS c++[sv,.s r n,.s q k]) 60
structure RHL where
 b:Bool
 H:HanL
def pinL(L:TopL)(H:HanL)(cl ke m co:Int)(x:RHL): Prop:=
 if mayB ke=false then x=⟨co==1,H⟩ else
 if co=0∧atL L ke≥0∧(L.getD (atL L ke).toNat tN).2.1=true∧((L.getD (atL L ke).toNat tN).2.2.xs.length:Int)>0 then x=⟨true,[((cl,m),(L.getD (atL L ke).toNat tN).2.2)]++H⟩ else
 x=⟨(co==12&&decide (atL L ke<0))||(co==24&&decide (atL L ke≥0) && !(L.getD (atL L ke).toNat tN).2.1)||(co==20&&decide (atL L ke≥0)&&(L.getD (atL L ke).toNat tN).2.1&&(((L.getD (atL L ke).toNat tN).2.2.xs.length:Int)==0))||co==17||co==19,H⟩
theorem pn_n{ke:Int}(h:ke≥1∧ke≤2147483647): ¬(mayB ke=false):=by
 intro h1
 simp only [mayB] at h1; simp at h1; omega
theorem pn_a{L:TopL}{H:HanL}{cl ke m co:Int}(h:¬(ke≥1∧ke≤2147483647)): pinL L H cl ke m co ⟨co==1,H⟩:=by
 unfold pinL; rw [if_pos (by simp only [mayB]; exact decide_eq_false (by omega))]
theorem pn_b{L:TopL}{H:HanL}{cl ke m co:Int}(h:ke≥1∧ke≤2147483647)(h1:co=0∧atL L ke≥0)(h2:(L.getD (atL L ke).toNat tN).2.1=true)(h3:((L.getD (atL L ke).toNat tN).2.2.xs.length:Int)>0): pinL L H cl ke m co ⟨true,[((cl,m),(L.getD (atL L ke).toNat tN).2.2)]++H⟩:=by
 unfold pinL
 rw [if_neg (pn_n h),if_pos ⟨h1.1,h1.2,h2,h3⟩]
theorem pn_c{L:TopL}{H:HanL}{cl ke m co:Int}{b:Bool}(h:ke≥1∧ke≤2147483647)(h1:¬(co=0∧atL L ke≥0)∨(L.getD (atL L ke).toNat tN).2.1=false∨¬((L.getD (atL L ke).toNat tN).2.2.xs.length:Int)>0)
  (h2:b=((co==12&&decide (atL L ke<0))||(co==24&&decide (atL L ke≥0) && !(L.getD (atL L ke).toNat tN).2.1)||(co==20&&decide (atL L ke≥0)&&(L.getD (atL L ke).toNat tN).2.1&&(((L.getD (atL L ke).toNat tN).2.2.xs.length:Int)==0))||co==17||co==19)):pinL L H cl ke m co ⟨b,H⟩:=by
 unfold pinL
 rw [if_neg (pn_n h),if_neg,h2]
 rintro⟨g1,g2,g3,g4⟩
 rcases h1 with h1 | h1 | h1
 ·exact h1 ⟨g1,g2⟩
 ·rw [h1] at g3; cases g3
 ·exact h1 g4
theorem t_atH(c:Cfg)(L:TopL)(sv:Value)(ke:Int)(n k:Nat)(hn:L.length=n)(hl:n≤1000000):
  Ct Tryz.prog 38 (⟨[.s (.p 0 0),.s (.i .i64 ke)],[mdH 1 2 c (.o sv) n k,.sl 1 encT tN 3 L 56],3,fun x=>x=atL L ke,fun x=>[.s (.i .i64 x)],fun _=>[mdH 1 2 c (.o sv) n k,.sl 1 encT tN 3 L 56]⟩:Sp Int):=by
 intro g F w hi
 refine(t_at c L sv (.slice (g 2).a k (g 2).c) ke n hn hl g F w hi).mono ?_
 rintro e w' ⟨v,L',he,⟨x,ν,hx,rfl,rfl⟩,hin⟩
 exact⟨_,_,he,⟨x,ν,hx,rfl,rfl⟩,hin⟩
theorem t_pinR(c:Cfg)(hc:c.Ok)(L:TopL)(H:HanL)(sv:Value)(cl ke:Int)(la:Bool)(wa pa:Option Addr)(wn wc pn pc:Nat)(rw rk:Value)(ha co m cm fr to_:Int)(hm:0≤m∧m≤1000)(n k:Nat)(hn:L.length=n)(hk:H.length=k)(hl:n≤100)(hk1:k≤100):
  Ct Tryz.prog 14 (⟨[.s (.p 0 0),.g (dS cl 5 ke la (.o (.slice wa wn wc)) ha (.o (.slice pa pn pc)) co (.o rw) (.o rk) m cm fr to_)],[mdH 1 2 c (.o sv) n k,.sl 1 encT tN 3 L 56,.sl 2 encH hN 3 H 101],3,pinL L H cl ke m co,fun x=>[.s (.bo x.b)],fun x=>[mdH 1 3 c (.o sv) n x.H.length,.sl 1 encT tN 3 L 56,.sl 3 encH hN 3 x.H 101]⟩:Sp RHL):=by
 subst hn
 subst hk
 have hat:=at_lt L ke
 refine cX 431 xdI Tryz.func14 fun g F => ?_
 refine xN fun b1 => ?_
 refine xN fun b2 => ?_
 refine xC Tryz.call38 (t_atH (c) (L) (sv) (ke) (List.length L) (List.length H) (by omega) (by omega)) fun xn3 n3 hxn3 => ?_
 subst hxn3
 refine xN fun b4 => ?_
 refine xB (decide (atL L ke≥0)) (fun h5 => ?_) (fun h5 => ?_)
 ·skip
  replace h5:=decT h5
  refine xO (List.length L≤List.length L∧0≤atL L ke∧atL L ke < ↑(List.length L)) (by omega) ?_
  refine xO ((atL L ke).toNat<List.length L) (by omega) ?_
  refine xB (decide (ke≥1)) (fun h6 => ?_) (fun h6 => ?_)
  ·skip
   replace h6:=decT h6
   refine xB (!decide (ke≤2147483647)) (fun h7 => ?_) (fun h7 => ?_)
   ·skip
    replace h7:=ntT h7
    replace h7:=decF h7
    exact xR ({b:=co==1,H:=H}) (pn_a (by omega))
   ·skip
    replace h7:=ntF h7
    replace h7:=decT h7
    refine xB (co==0) (fun h8 => ?_) (fun h8 => ?_)
    ·skip
     replace h8:=decT h8
     refine xT (decide (atL L ke≥0)) (by first | (simp; done) | (simp; omega)) ?_
     refine xB ((List.getD L (atL L ke).toNat tN).snd.fst) (fun h9 => ?_) (fun h9 => ?_)
     ·skip
      refine xB (decide ((↑(List.getD L (atL L ke).toNat tN).snd.snd.xs.length:Int)>(0:Int))) (fun h10 => ?_) (fun h10 => ?_)
      ·skip
       replace h10:=decT h10
       refine xO (InK IntKind.i64 m) (by simp only [InK] at *; omega) ?_
       refine xN fun b11 => ?_
       refine xW0 _ (view_row 6 (b:=b11) encH hN 3 [((cl,m),(L.getD (atL L ke).toNat tN).2.2)] 101 sizedH (by simp [maxLen]) (by kernel_rfl)) ?_ sc_st
       refine xAp 6 (some {block:=b11,off:=0}) (1) encH hN 3 ([((cl,m),(List.getD L (atL L ke).toNat tN).snd.snd)]) 101 (H) (.i 63) oneH 40 (.slice (g 2).a (H).length (g 2).c) (by first | (simp; done) | (simp; omega)) (fun F=>(src_sl (i:=0) (d:=hN) (sz:=3) (t:=101) (by kernel_rfl))) (fun a6_ c6_ => ?_)
       exact xR ({b:=true,H:=[((cl,m),(List.getD L (atL L ke).toNat tN).snd.snd)]++H}) (pn_b (by omega) (by omega) (by assumption) (by omega))
      ·skip
       replace h10:=decF h10
       refine xF (co==12) (by first | (simp; done) | (simp; omega)) ?_
       refine xF (co==24) (by first | (simp; done) | (simp; omega)) ?_
       refine xF (co==20) (by first | (simp; done) | (simp; omega)) ?_
       refine xF (co==17) (by first | (simp; done) | (simp; omega)) ?_
       exact xR ({b:=co==19,H:=H}) (pn_c (by omega) (.inr (.inr (by omega))) (by simp [-List.getD_eq_getElem?_getD, *]; done))
     ·skip
      refine xF (co==12) (by first | (simp; done) | (simp; omega)) ?_
      refine xF (co==24) (by first | (simp; done) | (simp; omega)) ?_
      refine xF (co==20) (by first | (simp; done) | (simp; omega)) ?_
      refine xF (co==17) (by first | (simp; done) | (simp; omega)) ?_
      exact xR ({b:=co==19,H:=H}) (pn_c (by omega) (.inr (.inl (by assumption))) (by simp [-List.getD_eq_getElem?_getD, *]; done))
    ·skip
     replace h8:=decF h8
     refine xB (co==12) (fun h12 => ?_) (fun h12 => ?_)
     ·skip
      replace h12:=decT h12
      refine xF (decide (atL L ke<0)) (by first | (simp; done) | (simp; omega)) ?_
      refine xF (co==24) (by first | (simp; done) | (simp; omega)) ?_
      refine xF (co==20) (by first | (simp; done) | (simp; omega)) ?_
      refine xF (co==17) (by first | (simp; done) | (simp; omega)) ?_
      exact xR ({b:=co==19,H:=H}) (pn_c (by omega) (.inl (by omega)) (by simp [-List.getD_eq_getElem?_getD, *]; done))
     ·skip
      replace h12:=decF h12
      refine xB (co==24) (fun h13 => ?_) (fun h13 => ?_)
      ·skip
       replace h13:=decT h13
       refine xT (decide (atL L ke≥0)) (by first | (simp; done) | (simp; omega)) ?_
       refine xB (!(List.getD L (atL L ke).toNat tN).snd.fst) (fun h14 => ?_) (fun h14 => ?_)
       ·skip
        replace h14:=ntT h14
        exact xR ({b:=true,H:=H}) (pn_c (by omega) (.inl (by omega)) (by simp [-List.getD_eq_getElem?_getD, *]; done))
       ·skip
        replace h14:=ntF h14
        refine xF (co==20) (by first | (simp; done) | (simp; omega)) ?_
        refine xF (co==17) (by first | (simp; done) | (simp; omega)) ?_
        exact xR ({b:=co==19,H:=H}) (pn_c (by omega) (.inl (by omega)) (by simp [-List.getD_eq_getElem?_getD, *]; done))
      ·skip
       replace h13:=decF h13
       refine xB (co==20) (fun h15 => ?_) (fun h15 => ?_)
       ·skip
        replace h15:=decT h15
        refine xT (decide (atL L ke≥0)) (by first | (simp; done) | (simp; omega)) ?_
        refine xB ((List.getD L (atL L ke).toNat tN).snd.fst) (fun h16 => ?_) (fun h16 => ?_)
        ·skip
         refine xB ((↑(List.getD L (atL L ke).toNat tN).snd.snd.xs.length:Int)==(0:Int)) (fun h17 => ?_) (fun h17 => ?_)
         ·skip
          replace h17:=decT h17
          exact xR ({b:=true,H:=H}) (pn_c (by omega) (.inl (by omega)) (by simp [-List.getD_eq_getElem?_getD, *]; done))
         ·skip
          replace h17:=decF h17
          refine xF (co==17) (by first | (simp; done) | (simp; omega)) ?_
          exact xR ({b:=co==19,H:=H}) (pn_c (by omega) (.inl (by omega)) (by rw [beq_eq_false_iff_ne.2 h17]; simp [-List.getD_eq_getElem?_getD, *]; done))
        ·skip
         refine xF (co==17) (by first | (simp; done) | (simp; omega)) ?_
         exact xR ({b:=co==19,H:=H}) (pn_c (by omega) (.inl (by omega)) (by simp [-List.getD_eq_getElem?_getD, *]; done))
       ·skip
        replace h15:=decF h15
        refine xB (co==17) (fun h18 => ?_) (fun h18 => ?_)
        ·skip
         replace h18:=decT h18
         exact xR ({b:=true,H:=H}) (pn_c (by omega) (.inl (by omega)) (by simp [-List.getD_eq_getElem?_getD, *]; done))
        ·skip
         replace h18:=decF h18
         exact xR ({b:=co==19,H:=H}) (pn_c (by omega) (.inl (by omega)) (by simp [-List.getD_eq_getElem?_getD, *]; done))
  ·skip
   replace h6:=decF h6
   exact xR ({b:=co==1,H:=H}) (pn_a (by omega))
 ·skip
  replace h5:=decF h5
  refine xB (decide (ke≥1)) (fun h19 => ?_) (fun h19 => ?_)
  ·skip
   replace h19:=decT h19
   refine xB (!decide (ke≤2147483647)) (fun h20 => ?_) (fun h20 => ?_)
   ·skip
    replace h20:=ntT h20
    replace h20:=decF h20
    exact xR ({b:=co==1,H:=H}) (pn_a (by omega))
   ·skip
    replace h20:=ntF h20
    replace h20:=decT h20
    refine xB (co==0) (fun h21 => ?_) (fun h21 => ?_)
    ·skip
     replace h21:=decT h21
     refine xF (decide (atL L ke≥0)) (by first | (simp; done) | (simp; omega)) ?_
     refine xF (co==12) (by first | (simp; done) | (simp; omega)) ?_
     refine xF (co==24) (by first | (simp; done) | (simp; omega)) ?_
     refine xF (co==20) (by first | (simp; done) | (simp; omega)) ?_
     refine xF (co==17) (by first | (simp; done) | (simp; omega)) ?_
     exact xR ({b:=co==19,H:=H}) (pn_c (by omega) (.inl (by omega)) (by simp [-List.getD_eq_getElem?_getD, *]; done))
    ·skip
     replace h21:=decF h21
     refine xB (co==12) (fun h22 => ?_) (fun h22 => ?_)
     ·skip
      replace h22:=decT h22
      refine xT (decide (atL L ke<0)) (by first | (simp; done) | (simp; omega)) ?_
      exact xR ({b:=true,H:=H}) (pn_c (by omega) (.inl (by omega)) (by simp [-List.getD_eq_getElem?_getD, *]; omega))
     ·skip
      replace h22:=decF h22
      refine xB (co==24) (fun h23 => ?_) (fun h23 => ?_)
      ·skip
       replace h23:=decT h23
       refine xF (decide (atL L ke≥0)) (by first | (simp; done) | (simp; omega)) ?_
       refine xF (co==20) (by first | (simp; done) | (simp; omega)) ?_
       refine xF (co==17) (by first | (simp; done) | (simp; omega)) ?_
       exact xR ({b:=co==19,H:=H}) (pn_c (by omega) (.inl (by omega)) (by simp [-List.getD_eq_getElem?_getD, *]; done))
      ·skip
       replace h23:=decF h23
       refine xB (co==20) (fun h24 => ?_) (fun h24 => ?_)
       ·skip
        replace h24:=decT h24
        refine xF (decide (atL L ke≥0)) (by first | (simp; done) | (simp; omega)) ?_
        refine xF (co==17) (by first | (simp; done) | (simp; omega)) ?_
        exact xR ({b:=co==19,H:=H}) (pn_c (by omega) (.inl (by omega)) (by simp [-List.getD_eq_getElem?_getD, *]; done))
       ·skip
        replace h24:=decF h24
        refine xB (co==17) (fun h25 => ?_) (fun h25 => ?_)
        ·skip
         replace h25:=decT h25
         exact xR ({b:=true,H:=H}) (pn_c (by omega) (.inl (by omega)) (by simp [-List.getD_eq_getElem?_getD, *]; done))
        ·skip
         replace h25:=decF h25
         exact xR ({b:=co==19,H:=H}) (pn_c (by omega) (.inl (by omega)) (by simp [-List.getD_eq_getElem?_getD, *]; done))
  ·skip
   replace h19:=decF h19
   exact xR ({b:=co==1,H:=H}) (pn_a (by omega))
end Go.Proofs.YthijdhenekmojaaGreatDoor
/- What is meant by numbers, of a model: the last loop. -/
set_option linter.unusedSimpArgs false
set_option maxRecDepth 100000
set_option maxHeartbeats 0
namespace Go.Proofs.YthijdhenekmojaaGreatDoor
open Go.Sx
def HL(a:Option Addr)(c:Nat)(H:HanL)(ps:List PRow): Res:=dens [.sl a c encH hN 3 H 101,.res (Pool 42 ps)]
theorem hl_open{a:Option Addr}{c:Nat}{H:HanL}{ps:List PRow}: View [.res (HL a c H ps)] [.sl a c encH hN 3 H 101,.res (Pool 42 ps)]:=by
 rintro F w ⟨f,⟨f1,f2,rfl,h1,h2⟩,hfit,hr⟩
 obtain rfl:f2=[]:=h2
 exact⟨f1,h1,by simpa using hfit,hr⟩
theorem hl_fold{a:Option Addr}{c:Nat}{H:HanL}{ps:List PRow}: View [.sl a c encH hN 3 H 101,.res (Pool 42 ps)] [.res (HL a c H ps)]:=by
 rintro F w ⟨f,h,hfit,hr⟩
 exact⟨f++[],⟨f,[],rfl,h,rfl⟩,by simpa using hfit,hr⟩
abbrev hlR(H:HanL)(ps:List PRow): SE:=.rs 2 fun g=>HL (g 2).a (g 2).c H ps
def LOk(L:TopL)(ps:List PRow): Prop := ∀x∈L,(x.2.2 = .nil∨x.2.2∈ps)∧x.2.2.xs.length≤96
theorem LOk.get{L:TopL}{ps:List PRow}(h:LOk L ps)(i:Nat): ((L.getD i tN).2.2 = .nil∨(L.getD i tN).2.2∈ps)∧(L.getD i tN).2.2.xs.length≤96:=by
 by_cases hi:i<L.length
 ·have e:L.getD i tN=L[i]:=by simp [hi]
  rw [e]
  exact h _ (List.getElem_mem hi)
 ·have e:L.getD i tN=tN:=by simp [hi]
  rw [e]
  exact⟨.inl rfl,by simp [tN,PRow.nil]⟩
theorem src_HL{Ls:List Ent}{F:Fr}{a:Option Addr}{c:Nat}{H:HanL}{ps:List PRow}{p:PRow}(i:Nat)(hp:p=PRow.nil∨p∈ps)(hL:(places Ls.length [i],pick Ls [i])=(true,[.res (HL a c H ps)])):
  Src Ls F (.slice p.a p.xs.length p.c) (cellsOf (Sx.encI .u64) p.xs) p.xs.length:=by
 simp only [Prod.mk.injEq] at hL
 refine src_view (view_part [i] hL.1 hL.2 hl_open) ?_
 refine src_view (L2:=(dropAt Ls [i]++[Ent.sl a c encH hN 3 H 101])++[.res (PoolX 42 ps p),p.ent 42]) ?_ ?_
 ·intro F' w' hi
  have hi:In ((dropAt Ls [i]++[Ent.sl a c encH hN 3 H 101])++[.res (Pool 42 ps)]) F' w':=by simpa using hi
  obtain⟨F2,g1,g2⟩:=(hi.perm List.perm_append_comm).frame
  exact g2 _ _ (pv_open hp F2 w' g1)
 ·refine src_rd (i:=(dropAt Ls [i]++[Ent.sl a c encH hN 3 H 101]).length+1) (enc:=Sx.encI .u64) (d:=0) (sz:=1) (t:=42) (r:=p.r) ?_
  rw [List.getElem?_append_right (by omega),Nat.add_sub_cancel_left]
  rfl
structure DR where
 cl:Int
 ki:Int
 ke:Int
 ha:Int
 co:Int
 n:Int
 cm:Int
 fr:Int
 to_:Int
 ws:List Int
 pt:List Int
 rw:List Int
 rk:List Int
def DP(ki ha n:Int)(ws pt:List Int): Prop:=0≤ki∧ki≤9∧0≤ha∧ha≤3∧0≤n∧n≤3∧ws.length≤9∧(∀w∈ws,0≤w∧w≤4294967295)∧(ki=6→∃p0 p1,pt=[p0,p1]∧0≤p0∧p0≤1∧0≤p1∧p1≤3)∧(ki≠6→pt=[])
def DOk(x:DR): Prop:=DP x.ki x.ha x.n x.ws x.pt∧x.rw.length≤104∧x.rk.length≤1000
abbrev mB(c:Cfg)(sv:Value)(L:TopL)(H:HanL)(ps:List PRow): List SE:=[mdH 1 2 c (.o sv) L.length H.length,.sl 1 encT tN 3 L 56,hlR H ps]
abbrev dB(ki ke co n cl cm bf af:Int)(ws ks:List Int)(a0 a1:Option Addr)(c0 c1:Nat)(la ty fa fi:Bool)(c:Cfg)(sv:Value)(L:TopL)(H:HanL)(ps:List PRow): Sp DR:=
 ⟨[.g (opF ki ke co n cl cm bf af ws ks a0 a1 c0 c1 la ty fa fi),.s (.p 0 0)],mB c sv L H ps,3,DOk,
  fun x=>[.g [.i .i64 x.cl,.i .i64 x.ki,.i .i64 x.ke,.bo la,.s 3 x.ws.length,.i .i64 x.ha,.s 4 x.pt.length,.i .i64 x.co,.s 5 x.rw.length,.s 6 x.rk.length,.i .u64 x.n,.i .i64 x.cm,.i .i64 x.fr,.i .i64 x.to_]],
  fun x=>mB c sv L H ps++[.sl 3 (Sx.encI .u64) 0 1 x.ws 42,.sl 4 (Sx.encI .i64) 0 1 x.pt 3,.sl 5 (Sx.encI .u64) 0 1 x.rw 42,.sl 6 (Sx.encI .i64) 0 1 x.rk 3]⟩
abbrev mBe(g:Nat→Rf)(c:Cfg)(sv:Value)(L:TopL)(H:HanL)(ps:List PRow): List Ent:=(mB c sv L H ps).map (SE.e g)
theorem t_keysB(c:Cfg)(L:TopL)(sv:Value)(n k:Nat)(hn:L.length=n)(hl:n≤1000000):
  Ct Tryz.prog 17 (⟨[.s (.p 0 0)],[mdH 1 2 c (.o sv) n k,.sl 1 encT tN 3 L 56],3,fun x=>x=L.map (·.1),fun x=>[.s (.s 3 x.length)],fun x=>[mdH 1 2 c (.o sv) n k,.sl 1 encT tN 3 L 56,.sl 3 (Sx.encI .i64) 0 1 x 3]⟩:Sp (List Int)):=by
 intro g F w hi
 refine(t_keysR c L sv (.slice (g 2).a k (g 2).c) n hn hl g F w hi).mono ?_
 rintro e w' ⟨v,L',he,⟨x,ν,hx,rfl,rfl⟩,hin⟩
 exact⟨_,_,he,⟨x,fun i => ν (i-1),hx,rfl,rfl⟩,hin⟩
theorem doneC(ki ke co n cl cm bf af:Int)(ws ks:List Int)(a0 a1:Option Addr)(c0 c1:Nat)(la ty fa fi:Bool)(g:Nat→Rf)(F:Fr)
  (c:Cfg) (sv:Value) (L:TopL) (H:HanL) (ps:List PRow) (hL:LOk L ps) (hl:L.length≤100)
  (d1 d2 d3 d7:Nat) (ys:List Int) (a:Option Addr) (cc:Nat) (v0 v1 v4:Int) (pt:List Int) (pa:Option Addr) (pc:Nat) (w0 w3 com:Int) (hd:DP v0 v4 w3 ys pt) (rw:List Int) (ra:Option Addr) (rc:Nat) (hrw:rw.length≤104) (rk:List Int) (ka:Option Addr) (kc:Nat) (hrk:rk.length≤1000) :
  Go Tryz.prog Tryz.f12 (Tryz.f12.body.getD .skip) 222 F (RetR F (Some_ ((dB ki ke co n cl cm bf af ws ks a0 a1 c0 c1 la ty fa fi c sv L H ps).Q g))) [.c [0,1,1,0,1,0,1,1,1,1,1,1,1,1,1],.b 4,.c [1,1,1,1,1,1,1,1,1,1]]
   [(1,.pointer (some ⟨(g 0).b,0,none⟩)),(2,.pointer (some ⟨d1,0,none⟩)),(4,.pointer (some ⟨d2,0,none⟩)),(5,.pointer (some ⟨d3,0,none⟩)),(7,.pointer (some ⟨d7,0,none⟩)),(9,.int .i64 0)]
   (mBe g c sv L H ps++[.pts d1 ((opF ki ke co n cl cm bf af ws ks a0 a1 c0 c1 la ty fa fi).map (SV.v g)) 48,.pts d2 zD 46,.pts d3 [.int .i64 v0,.int .i64 v1,.bool la,.slice a ys.length cc,.int .i64 v4,.slice pa pt.length pc] 40,.sl a cc (Sx.encI .u64) 0 1 ys 42,.pts d7 [.int .i64 w0,.slice ra rw.length rc,.slice ka rk.length kc,.int .u64 w3,.int .i64 com] 44,.sl pa pc (Sx.encI .i64) 0 1 pt 3,.sl ka kc (Sx.encI .i64) 0 1 rk 3,.sl ra rc (Sx.encI .u64) 0 1 rw 42]):=by
 refine xG xlI [(1,.i 0),(2,.i 3),(4,.i 4),(5,.i 5),(7,.i 7)] ⟨[(0,(cfgS c++[SV.o sv,SV.s 1 L.length,SV.s 2 H.length]).map (SV.g id)),(1,[]),(2,[]),(3,(opF ki ke co n cl cm bf af ws ks a0 a1 c0 c1 la ty fa fi).map (SV.g id)),(4,List.replicate 14 .c),(5,[.n,.n,.n,.i 6,.n,.i 8]),(6,[]),(7,[.n,.i 10,.i 9,.n,.n]),(8,[]),(9,[]),(10,[])],20⟩ Tryz.func12 ?_
 refine xLoop xlI Tryz.func12 [0,1,1,0,1,0,1,1,1,1,1,1,1,1,1] [.b 4,.c [1,1,1,1,1,1,1,1,1,1]] [1,2,4,5,7,9] [0,1,2,3,4,5,6,7,8,9,10] (fun i:List Int×Nat×Option Addr×Nat=>[(1,.pointer (some ⟨(g 0).b,0,none⟩)),(2,.pointer (some ⟨d1,0,none⟩)),(4,.pointer (some ⟨d2,0,none⟩)),(5,.pointer (some ⟨d3,0,none⟩)),(7,.pointer (some ⟨d7,0,none⟩)),(9,.int .i64 i.2.1)]) (fun _=>[(1,.i 0),(2,.i 3),(4,.i 4),(5,.i 5),(7,.i 7)]) (fun i=>mBe g c sv L H ps++[.pts d1 ((opF ki ke co n cl cm bf af ws ks a0 a1 c0 c1 la ty fa fi).map (SV.v g)) 48,.pts d2 zD 46,.pts d3 [.int .i64 v0,.int .i64 v1,.bool la,.slice a ys.length cc,.int .i64 v4,.slice pa pt.length pc] 40,.sl a cc (Sx.encI .u64) 0 1 ys 42,.pts d7 [.int .i64 w0,.slice i.2.2.1 i.1.length i.2.2.2,.slice ka rk.length kc,.int .u64 w3,.int .i64 com] 44,.sl pa pc (Sx.encI .i64) 0 1 pt 3,.sl ka kc (Sx.encI .i64) 0 1 rk 3,.sl i.2.2.1 i.2.2.2 (Sx.encI .u64) 0 1 i.1 42]) (fun _=>⟨[(0,(cfgS c++[SV.o sv,SV.s 1 L.length,SV.s 2 H.length]).map (SV.g id)),(1,[]),(2,[]),(3,(opF ki ke co n cl cm bf af ws ks a0 a1 c0 c1 la ty fa fi).map (SV.g id)),(4,List.replicate 14 .c),(5,[.n,.n,.n,.i 6,.n,.i 8]),(6,[]),(7,[.n,.i 10,.i 9,.n,.n]),(8,[]),(9,[]),(10,[])],20⟩) (fun i=>i.1.length≤104∧i.2.1≤L.length) (fun i=>L.length-i.2.1) (rw,0,ra,rc) ⟨hrw,by simp⟩ (fun i J hI hJ => ?_)
 refine xB (decide ((↑i.snd.fst:Int)<(↑(List.length L):Int))) (fun h1 => ?_) (fun h1 => ?_)
 ·skip
  replace h1:=decT h1
  refine xO (List.length L≤List.length L∧(0:Int)≤(↑i.snd.fst:Int)∧(↑i.snd.fst:Int)<(↑(List.length L):Int)) (by omega) ?_
  refine xFs 1 ((g 1).a) ((g 1).c) (encT) (tN) 3 (L) 56 (i.snd.fst) 0 false 1 [Value.int IntKind.i64 (List.getD L i.snd.fst tN).fst] .n (show i.snd.fst<(L).length by omega) rfl rfl (by simp) ?_
  refine xB ((List.getD L i.snd.fst tN).fst==v1) (fun h2 => ?_) (fun h2 => ?_)
  ·skip
   replace h2:=decT h2
   refine xN fun b3 => ?_
   refine xO (List.length L≤List.length L∧(0:Int)≤(↑i.snd.fst:Int)∧(↑i.snd.fst:Int)<(↑(List.length L):Int)) (by omega) ?_
   refine xFs 1 ((g 1).a) ((g 1).c) (encT) (tN) 3 (L) 56 (i.snd.fst) 2 false 1 [(List.getD L i.snd.fst tN).snd.snd.v] .n (show i.snd.fst<(L).length by omega) rfl rfl (by simp) ?_
   refine xW0 _ (view_none 11 (b:=b3) .u64 42) ?_ sc_st
   refine xAp 11 (some {block:=b3,off:=0}) (0) (Sx.encI .u64) 0 1 ([]) 42 (((L.getD i.2.1 tN).2.2.xs)) (.i 24) (oneI _) 8 ((L.getD i.2.1 tN).2.2.v) (by have:=(hL.get i.2.1).2; simp [-List.getD_eq_getElem?_getD]; omega) (fun F=>(src_HL (a:=(g 2).a) (c:=(g 2).c) (H:=H) (ps:=ps) (p:=(L.getD i.2.1 tN).2.2) 2 (hL.get i.2.1).1 (by kernel_rfl))) (fun a11_ c11_ => ?_)
   refine xO (List.length L≤List.length L∧(0:Int)≤(↑i.snd.fst:Int)∧(↑i.snd.fst:Int)<(↑(List.length L):Int)) (by omega) ?_
   refine xFs 1 ((g 1).a) ((g 1).c) (encT) (tN) 3 (L) 56 (i.snd.fst) 1 false 1 [Value.bool (List.getD L i.snd.fst tN).snd.fst] .n (show i.snd.fst<(L).length by omega) rfl rfl (by simp) ?_
   refine xB ((List.getD L i.snd.fst tN).snd.fst) (fun h4 => ?_) (fun h4 => ?_)
   ·skip
    refine xB (decide ((↑([]++(List.getD L i.snd.fst tN).snd.snd.xs).length:Int)≤(5:Int))) (fun h5 => ?_) (fun h5 => ?_)
    ·skip
     replace h5:=decT h5
     refine xW0 _ (view_idx [0,1,2,3,4,5,6,7,8,9,11] (by kernel_rfl)) (xLoop xlI Tryz.func12 [0,1,1,1,0,1,0,0,1,0,0,1,1,0,1,0,1,1,1,1,1,1,1,1,1] [.b 6,.b 5,.c [1,1,0,0,1,1,0,1,0,1,1,1,1,1,1,1,1,1],.j J,.b 4,.c [1,1,1,1,1,1,1,1,1,1]] [1,2,4,5,7,9,10] [0,1,2,3,4,5,6,7,8,9,10] (fun j:List Int×Option Addr×Nat=>[(1,.pointer (some ⟨(g 0).b,0,none⟩)),(2,.pointer (some ⟨d1,0,none⟩)),(4,.pointer (some ⟨d2,0,none⟩)),(5,.pointer (some ⟨d3,0,none⟩)),(7,.pointer (some ⟨d7,0,none⟩)),(9,.int .i64 i.2.1),(10,.int .i64 5)]) (fun _=>[(1,.i 0),(2,.i 3),(4,.i 4),(5,.i 5),(7,.i 7)]) (fun j=>mBe g c sv L H ps++[.pts d1 ((opF ki ke co n cl cm bf af ws ks a0 a1 c0 c1 la ty fa fi).map (SV.v g)) 48,.pts d2 zD 46,.pts d3 [.int .i64 v0,.int .i64 v1,.bool la,.slice a ys.length cc,.int .i64 v4,.slice pa pt.length pc] 40,.sl a cc (Sx.encI .u64) 0 1 ys 42,.pts d7 [.int .i64 w0,.slice j.2.1 j.1.length j.2.2,.slice ka rk.length kc,.int .u64 w3,.int .i64 com] 44,.sl pa pc (Sx.encI .i64) 0 1 pt 3,.sl ka kc (Sx.encI .i64) 0 1 rk 3,.sl j.2.1 j.2.2 (Sx.encI .u64) 0 1 j.1 42]) (fun _=>⟨[(0,(cfgS c++[SV.o sv,SV.s 1 L.length,SV.s 2 H.length]).map (SV.g id)),(1,[]),(2,[]),(3,(opF ki ke co n cl cm bf af ws ks a0 a1 c0 c1 la ty fa fi).map (SV.g id)),(4,List.replicate 14 .c),(5,[.n,.n,.n,.i 6,.n,.i 8]),(6,[]),(7,[.n,.i 10,.i 9,.n,.n]),(8,[]),(9,[]),(10,[])],20⟩) (fun j=>j.1.length≤104) (fun j=>(5:Int).toNat-j.1.length) ([]++(L.getD i.2.1 tN).2.2.xs,a11_,c11_) (by have:=(hL.get i.2.1).2; simp [-List.getD_eq_getElem?_getD]; omega) (fun j J2 hj hJ2 => ?_)) sc_st
     refine xB (decide ((↑j.fst.length:Int)<(5:Int))) (fun h6 => ?_) (fun h6 => ?_)
     ·skip
      replace h6:=decT h6
      refine xN fun b7 => ?_
      refine xAp 10 (j.snd.fst) (j.snd.snd) (Sx.encI .u64) 0 1 (j.fst) 42 [9] (.i 10) (oneI _) 8 (.slice (some ⟨b7,0,none⟩) 1 1) (by first | (simp; done) | (simp; omega)) (fun F=>(src_pts (i:=11) (n:=1) (c:=1) (cs:=cellsOf (Sx.encI .u64) [9]) (t:=42) (by kernel_rfl))) (fun a10_ c10_ => ?_)
      exact xJ hJ2 (j.1++[9],a10_,c10_) (by simp; omega) (by simp; omega)
     ·skip
      replace h6:=decF h6
      refine xO (InK IntKind.i64 (↑i.snd.fst+1)) (by have a:=andR com 16777215 (by omega); have b:=andR bf 3 (by omega); have d:=andR af 3 (by omega); simp only [InK]; omega) ?_
      exact xJ hJ (j.1,i.2.1+1,j.2.1,j.2.2) (by show L.length-(i.2.1+1)<L.length-i.2.1; omega) ⟨hj,by show i.2.1+1≤L.length; omega⟩
    ·skip
     replace h5:=decF h5
     refine xO (List.length L≤List.length L∧(0:Int)≤(↑i.snd.fst:Int)∧(↑i.snd.fst:Int)<(↑(List.length L):Int)) (by omega) ?_
     refine xFs 1 ((g 1).a) ((g 1).c) (encT) (tN) 3 (L) 56 (i.snd.fst) 1 false 1 [Value.bool (List.getD L i.snd.fst tN).snd.fst] .n (show i.snd.fst<(L).length by omega) rfl rfl (by simp) ?_
     refine xT ((List.getD L i.snd.fst tN).snd.fst) (by assumption) ?_
     refine xW0 _ (view_idx [0,1,2,3,4,5,6,7,8,9,11] (by kernel_rfl)) (xLoop xlI Tryz.func12 [0,1,1,1,0,1,0,0,1,0,0,1,1,0,1,0,1,1,1,1,1,1,1,1,1] [.b 6,.b 5,.c [1,1,0,0,1,1,0,1,0,1,1,1,1,1,1,1,1,1],.j J,.b 4,.c [1,1,1,1,1,1,1,1,1,1]] [1,2,4,5,7,9,10] [0,1,2,3,4,5,6,7,8,9,10] (fun j:List Int×Option Addr×Nat=>[(1,.pointer (some ⟨(g 0).b,0,none⟩)),(2,.pointer (some ⟨d1,0,none⟩)),(4,.pointer (some ⟨d2,0,none⟩)),(5,.pointer (some ⟨d3,0,none⟩)),(7,.pointer (some ⟨d7,0,none⟩)),(9,.int .i64 i.2.1),(10,.int .i64 8)]) (fun _=>[(1,.i 0),(2,.i 3),(4,.i 4),(5,.i 5),(7,.i 7)]) (fun j=>mBe g c sv L H ps++[.pts d1 ((opF ki ke co n cl cm bf af ws ks a0 a1 c0 c1 la ty fa fi).map (SV.v g)) 48,.pts d2 zD 46,.pts d3 [.int .i64 v0,.int .i64 v1,.bool la,.slice a ys.length cc,.int .i64 v4,.slice pa pt.length pc] 40,.sl a cc (Sx.encI .u64) 0 1 ys 42,.pts d7 [.int .i64 w0,.slice j.2.1 j.1.length j.2.2,.slice ka rk.length kc,.int .u64 w3,.int .i64 com] 44,.sl pa pc (Sx.encI .i64) 0 1 pt 3,.sl ka kc (Sx.encI .i64) 0 1 rk 3,.sl j.2.1 j.2.2 (Sx.encI .u64) 0 1 j.1 42]) (fun _=>⟨[(0,(cfgS c++[SV.o sv,SV.s 1 L.length,SV.s 2 H.length]).map (SV.g id)),(1,[]),(2,[]),(3,(opF ki ke co n cl cm bf af ws ks a0 a1 c0 c1 la ty fa fi).map (SV.g id)),(4,List.replicate 14 .c),(5,[.n,.n,.n,.i 6,.n,.i 8]),(6,[]),(7,[.n,.i 10,.i 9,.n,.n]),(8,[]),(9,[]),(10,[])],20⟩) (fun j=>j.1.length≤104) (fun j=>(8:Int).toNat-j.1.length) ([]++(L.getD i.2.1 tN).2.2.xs,a11_,c11_) (by have:=(hL.get i.2.1).2; simp [-List.getD_eq_getElem?_getD]; omega) (fun j J2 hj hJ2 => ?_)) sc_st
     refine xB (decide ((↑j.fst.length:Int)<(8:Int))) (fun h8 => ?_) (fun h8 => ?_)
     ·skip
      replace h8:=decT h8
      refine xN fun b9 => ?_
      refine xAp 10 (j.snd.fst) (j.snd.snd) (Sx.encI .u64) 0 1 (j.fst) 42 [9] (.i 10) (oneI _) 8 (.slice (some ⟨b9,0,none⟩) 1 1) (by first | (simp; done) | (simp; omega)) (fun F=>(src_pts (i:=11) (n:=1) (c:=1) (cs:=cellsOf (Sx.encI .u64) [9]) (t:=42) (by kernel_rfl))) (fun a10_ c10_ => ?_)
      exact xJ hJ2 (j.1++[9],a10_,c10_) (by simp; omega) (by simp; omega)
     ·skip
      replace h8:=decF h8
      refine xO (InK IntKind.i64 (↑i.snd.fst+1)) (by have a:=andR com 16777215 (by omega); have b:=andR bf 3 (by omega); have d:=andR af 3 (by omega); simp only [InK]; omega) ?_
      exact xJ hJ (j.1,i.2.1+1,j.2.1,j.2.2) (by show L.length-(i.2.1+1)<L.length-i.2.1; omega) ⟨hj,by show i.2.1+1≤L.length; omega⟩
   ·skip
    refine xO (List.length L≤List.length L∧(0:Int)≤(↑i.snd.fst:Int)∧(↑i.snd.fst:Int)<(↑(List.length L):Int)) (by omega) ?_
    refine xFs 1 ((g 1).a) ((g 1).c) (encT) (tN) 3 (L) 56 (i.snd.fst) 1 false 1 [Value.bool (List.getD L i.snd.fst tN).snd.fst] .n (show i.snd.fst<(L).length by omega) rfl rfl (by simp) ?_
    refine xF ((List.getD L i.snd.fst tN).snd.fst) (by assumption) ?_
    refine xW0 _ (view_idx [0,1,2,3,4,5,6,7,8,9,11] (by kernel_rfl)) (xLoop xlI Tryz.func12 [0,1,1,1,0,1,0,0,1,0,0,1,1,0,1,0,1,1,1,1,1,1,1,1,1] [.b 6,.b 5,.c [1,1,0,0,1,1,0,1,0,1,1,1,1,1,1,1,1,1],.j J,.b 4,.c [1,1,1,1,1,1,1,1,1,1]] [1,2,4,5,7,9,10] [0,1,2,3,4,5,6,7,8,9,10] (fun j:List Int×Option Addr×Nat=>[(1,.pointer (some ⟨(g 0).b,0,none⟩)),(2,.pointer (some ⟨d1,0,none⟩)),(4,.pointer (some ⟨d2,0,none⟩)),(5,.pointer (some ⟨d3,0,none⟩)),(7,.pointer (some ⟨d7,0,none⟩)),(9,.int .i64 i.2.1),(10,.int .i64 4)]) (fun _=>[(1,.i 0),(2,.i 3),(4,.i 4),(5,.i 5),(7,.i 7)]) (fun j=>mBe g c sv L H ps++[.pts d1 ((opF ki ke co n cl cm bf af ws ks a0 a1 c0 c1 la ty fa fi).map (SV.v g)) 48,.pts d2 zD 46,.pts d3 [.int .i64 v0,.int .i64 v1,.bool la,.slice a ys.length cc,.int .i64 v4,.slice pa pt.length pc] 40,.sl a cc (Sx.encI .u64) 0 1 ys 42,.pts d7 [.int .i64 w0,.slice j.2.1 j.1.length j.2.2,.slice ka rk.length kc,.int .u64 w3,.int .i64 com] 44,.sl pa pc (Sx.encI .i64) 0 1 pt 3,.sl ka kc (Sx.encI .i64) 0 1 rk 3,.sl j.2.1 j.2.2 (Sx.encI .u64) 0 1 j.1 42]) (fun _=>⟨[(0,(cfgS c++[SV.o sv,SV.s 1 L.length,SV.s 2 H.length]).map (SV.g id)),(1,[]),(2,[]),(3,(opF ki ke co n cl cm bf af ws ks a0 a1 c0 c1 la ty fa fi).map (SV.g id)),(4,List.replicate 14 .c),(5,[.n,.n,.n,.i 6,.n,.i 8]),(6,[]),(7,[.n,.i 10,.i 9,.n,.n]),(8,[]),(9,[]),(10,[])],20⟩) (fun j=>j.1.length≤104) (fun j=>(4:Int).toNat-j.1.length) ([]++(L.getD i.2.1 tN).2.2.xs,a11_,c11_) (by have:=(hL.get i.2.1).2; simp [-List.getD_eq_getElem?_getD]; omega) (fun j J2 hj hJ2 => ?_)) sc_st
    refine xB (decide ((↑j.fst.length:Int)<(4:Int))) (fun h10 => ?_) (fun h10 => ?_)
    ·skip
     replace h10:=decT h10
     refine xN fun b11 => ?_
     refine xAp 10 (j.snd.fst) (j.snd.snd) (Sx.encI .u64) 0 1 (j.fst) 42 [9] (.i 10) (oneI _) 8 (.slice (some ⟨b11,0,none⟩) 1 1) (by first | (simp; done) | (simp; omega)) (fun F=>(src_pts (i:=11) (n:=1) (c:=1) (cs:=cellsOf (Sx.encI .u64) [9]) (t:=42) (by kernel_rfl))) (fun a10_ c10_ => ?_)
     exact xJ hJ2 (j.1++[9],a10_,c10_) (by simp; omega) (by simp; omega)
    ·skip
     replace h10:=decF h10
     refine xO (InK IntKind.i64 (↑i.snd.fst+1)) (by have a:=andR com 16777215 (by omega); have b:=andR bf 3 (by omega); have d:=andR af 3 (by omega); simp only [InK]; omega) ?_
     exact xJ hJ (j.1,i.2.1+1,j.2.1,j.2.2) (by show L.length-(i.2.1+1)<L.length-i.2.1; omega) ⟨hj,by show i.2.1+1≤L.length; omega⟩
  ·skip
   replace h2:=decF h2
   refine xO (InK IntKind.i64 (↑i.snd.fst+1)) (by have a:=andR com 16777215 (by omega); have b:=andR bf 3 (by omega); have d:=andR af 3 (by omega); simp only [InK]; omega) ?_
   exact xJ hJ (i.1,i.2.1+1,i.2.2.1,i.2.2.2) (by show L.length-(i.2.1+1)<L.length-i.2.1; omega) ⟨hI.1,by show i.2.1+1≤L.length; omega⟩
 ·skip
  replace h1:=decF h1
  refine xO ((3:Int)≠(0:Int)) (by omega) ?_
  refine xO (InK IntKind.i64 (cl.tmod (3:Int)+(3:Int))) (tmR _ _ (by omega)) ?_
  refine xO ((3:Int)≠(0:Int)) (by omega) ?_
  refine xO (InK IntKind.i64 (IntKind.i64.wrap ↑(BitVec.ofInt IntKind.i64.bits com &&& BitVec.ofInt IntKind.i64.bits 16777215).toNat-1)) (by have a:=andR com 16777215 (by omega); have b:=andR bf 3 (by omega); have d:=andR af 3 (by omega); simp only [InK]; omega) ?_
  refine xO (InK IntKind.i64 (IntKind.i64.wrap ↑(BitVec.ofInt IntKind.i64.bits com &&& BitVec.ofInt IntKind.i64.bits 16777215).toNat-1-IntKind.i64.wrap ↑(BitVec.ofInt IntKind.i64.bits bf &&& BitVec.ofInt IntKind.i64.bits 3).toNat)) (by have a:=andR com 16777215 (by omega); have b:=andR bf 3 (by omega); have d:=andR af 3 (by omega); simp only [InK]; omega) ?_
  refine xO (InK IntKind.i64 (IntKind.i64.wrap ↑(BitVec.ofInt IntKind.i64.bits com &&& BitVec.ofInt IntKind.i64.bits 16777215).toNat+IntKind.i64.wrap ↑(BitVec.ofInt IntKind.i64.bits af &&& BitVec.ofInt IntKind.i64.bits 3).toNat)) (by have a:=andR com 16777215 (by omega); have b:=andR bf 3 (by omega); have d:=andR af 3 (by omega); simp only [InK]; omega) ?_
  refine xO (InK IntKind.i64 (IntKind.i64.wrap ↑(BitVec.ofInt IntKind.i64.bits com &&& BitVec.ofInt IntKind.i64.bits 16777215).toNat+IntKind.i64.wrap ↑(BitVec.ofInt IntKind.i64.bits af &&& BitVec.ofInt IntKind.i64.bits 3).toNat-1)) (by have a:=andR com 16777215 (by omega); have b:=andR bf 3 (by omega); have d:=andR af 3 (by omega); simp only [InK]; omega) ?_
  exact xR ({cl:=(cl.tmod (3:Int)+(3:Int)).tmod (3:Int),ki:=v0,ke:=v1,ha:=v4,co:=w0,n:=w3,cm:=com,fr:=IntKind.i64.wrap (↑(BitVec.ofInt IntKind.i64.bits com &&& BitVec.ofInt IntKind.i64.bits (16777215:Int)).toNat:Int)-(1:Int)-IntKind.i64.wrap (↑(BitVec.ofInt IntKind.i64.bits bf &&& BitVec.ofInt IntKind.i64.bits (3:Int)).toNat:Int),to_:=IntKind.i64.wrap (↑(BitVec.ofInt IntKind.i64.bits com &&& BitVec.ofInt IntKind.i64.bits (16777215:Int)).toNat:Int)+IntKind.i64.wrap (↑(BitVec.ofInt IntKind.i64.bits af &&& BitVec.ofInt IntKind.i64.bits (3:Int)).toNat:Int)-(1:Int),ws:=ys,pt:=pt,rw:=i.fst,rk:=rk}) ⟨hd,hI.1,hrk⟩
end Go.Proofs.YthijdhenekmojaaGreatDoor
/- What is meant by numbers, of a model: keys, and what follows. -/
set_option linter.unusedSimpArgs false
set_option maxRecDepth 100000
set_option maxHeartbeats 0
namespace Go.Proofs.YthijdhenekmojaaGreatDoor
open Go.Sx
def xz: Cx:=⟨[],[],[],[]⟩
theorem xzI: Inl Tryz.prog xz:=inl_ok trivial trivial
theorem doneB(ki ke co n cl cm bf af:Int)(ws ks:List Int)(a0 a1:Option Addr)(c0 c1:Nat)(la ty fa fi:Bool)(hw:ws.length≤maxLen)(hk:ks.length≤maxLen)(g:Nat→Rf)(F:Fr)(hr0:RowF F a0 .i64 ws)(hr1:RowF F a1 .i64 ks)
  (c:Cfg) (sv:Value) (L:TopL) (H:HanL) (ps:List PRow) (hL:LOk L ps) (hl:L.length≤100)
  (d1 d2 d3 d7:Nat) (ys:List Int) (a:Option Addr) (cc:Nat) (v0 v1 v4:Int) (pt:List Int) (pa:Option Addr) (pc:Nat) (w0 w3 com:Int) (hd:DP v0 v4 w3 ys pt) :
  Go Tryz.prog Tryz.f12 (Tryz.f12.body.getD .skip) 222 F (RetR F (Some_ ((dB ki ke co n cl cm bf af ws ks a0 a1 c0 c1 la ty fa fi c sv L H ps).Q g))) [.c [0,1,0,1,1,1,1,1,1,1],.b 2,.c [1,1,1,1,1,1,1,1]]
   [(1,.pointer (some ⟨(g 0).b,0,none⟩)),(2,.pointer (some ⟨d1,0,none⟩)),(4,.pointer (some ⟨d2,0,none⟩)),(5,.pointer (some ⟨d3,0,none⟩)),(7,.pointer (some ⟨d7,0,none⟩)),(8,.int .i64 0)]
   (mBe g c sv L H ps++[.pts d1 ((opF ki ke co n cl cm bf af ws ks a0 a1 c0 c1 la ty fa fi).map (SV.v g)) 48,.pts d2 zD 46,.pts d3 [.int .i64 v0,.int .i64 v1,.bool la,.slice a ys.length cc,.int .i64 v4,.slice pa pt.length pc] 40,.sl a cc (Sx.encI .u64) 0 1 ys 42,.pts d7 [.int .i64 w0,.slice none 0 0,.slice none 0 0,.int .u64 w3,.int .i64 com] 44,.sl pa pc (Sx.encI .i64) 0 1 pt 3]):=by
 have hyl:ys.length≤9:=hd.2.2.2.2.2.2.1
 refine xG xzI [(1,.i 0),(2,.i 3),(4,.i 4),(5,.i 5),(7,.i 7)] ⟨[(0,(cfgS c++[SV.o sv,SV.s 1 L.length,SV.s 2 H.length]).map (SV.g id)),(1,[]),(2,[]),(3,(opF ki ke co n cl cm bf af ws ks a0 a1 c0 c1 la ty fa fi).map (SV.g id)),(4,List.replicate 14 .c),(5,[.n,.n,.n,.i 6,.n,.i 8]),(6,[]),(7,[.n,.c,.c,.n,.n]),(8,[])],20⟩ Tryz.func12 ?_
 refine xW0 _ (view_nil (Sx.encI .i64) 0 1 3 (sizedI _)) (xLoop xzI Tryz.func12 [0,1,0,1,1,1,1,1,1,1] [.b 2,.c [1,1,1,1,1,1,1,1]] [1,2,4,5,7,8] [0,1,2,3,4,5,6,7,8,9] (fun i:List Int×Nat×Option Addr×Nat=>[(1,.pointer (some ⟨(g 0).b,0,none⟩)),(2,.pointer (some ⟨d1,0,none⟩)),(4,.pointer (some ⟨d2,0,none⟩)),(5,.pointer (some ⟨d3,0,none⟩)),(7,.pointer (some ⟨d7,0,none⟩)),(8,.int .i64 i.2.1)]) (fun _=>[(1,.i 0),(2,.i 3),(4,.i 4),(5,.i 5),(7,.i 7)]) (fun i=>mBe g c sv L H ps++[.pts d1 ((opF ki ke co n cl cm bf af ws ks a0 a1 c0 c1 la ty fa fi).map (SV.v g)) 48,.pts d2 zD 46,.pts d3 [.int .i64 v0,.int .i64 v1,.bool la,.slice a ys.length cc,.int .i64 v4,.slice pa pt.length pc] 40,.sl a cc (Sx.encI .u64) 0 1 ys 42,.pts d7 [.int .i64 w0,.slice none 0 0,.slice i.2.2.1 i.1.length i.2.2.2,.int .u64 w3,.int .i64 com] 44,.sl pa pc (Sx.encI .i64) 0 1 pt 3,.sl i.2.2.1 i.2.2.2 (Sx.encI .i64) 0 1 i.1 3]) (fun _=>⟨[(0,(cfgS c++[SV.o sv,SV.s 1 L.length,SV.s 2 H.length]).map (SV.g id)),(1,[]),(2,[]),(3,(opF ki ke co n cl cm bf af ws ks a0 a1 c0 c1 la ty fa fi).map (SV.g id)),(4,List.replicate 14 .c),(5,[.n,.n,.n,.i 6,.n,.i 8]),(6,[]),(7,[.n,.c,.i 9,.n,.n]),(8,[]),(9,[])],20⟩) (fun i=>i.1.length=i.2.1∧i.2.1≤5) (fun i=>5-i.2.1) ([],0,none,0) ⟨rfl,by simp⟩ (fun i J hI hJ => ?_)) sc_st
 refine xB (decide ((↑i.snd.fst:Int)<(↑ks.length:Int))) (fun h1 => ?_) (fun h1 => ?_)
 ·skip
  replace h1:=decT h1
  refine xB (decide ((↑i.snd.fst:Int)<(5:Int))) (fun h2 => ?_) (fun h2 => ?_)
  ·skip
   replace h2:=decT h2
   refine xIx hr1 (ks.length) (c1) .i64 (↑i.snd.fst) (show ks.length≤(ks).length∧(0:Int)≤↑i.snd.fst∧↑i.snd.fst<((ks.length:Nat):Int) by omega) ?_
   refine xLd hr1 ((↑i.snd.fst:Int).toNat) (show(↑i.snd.fst:Int).toNat<(ks).length by omega) ?_
   refine xO ((6:Int)≠(0:Int)) (by omega) ?_
   refine xO (InK IntKind.i64 ((ks.getD i.snd.fst (0:Int)).tmod (6:Int)+(6:Int))) (tmR _ _ (by omega)) ?_
   refine xO ((6:Int)≠(0:Int)) (by omega) ?_
   refine xN fun b3 => ?_
   refine xAp 9 (i.snd.snd.fst) (i.snd.snd.snd) (Sx.encI .i64) 0 1 (i.fst) 3 [((ks.getD (↑i.snd.fst:Int).toNat (0:Int)).tmod (6:Int)+(6:Int)).tmod (6:Int)] (.i 9) (oneI _) 8 (.slice (some ⟨b3,0,none⟩) 1 1) (by first | (simp; done) | (simp; omega)) (fun F=>(src_pts (i:=10) (n:=1) (c:=1) (cs:=cellsOf (Sx.encI .i64) [((ks.getD (↑i.snd.fst:Int).toNat (0:Int)).tmod (6:Int)+(6:Int)).tmod (6:Int)]) (t:=3) (by kernel_rfl))) (fun a9_ c9_ => ?_)
   refine xO (InK IntKind.i64 (↑i.snd.fst+1)) (by have a:=andR com 16777215 (by omega); have b:=andR bf 3 (by omega); have d:=andR af 3 (by omega); exact⟨by omega,by omega⟩) ?_
   exact xJ hJ (i.1++[kd (ks.getD i.2.1 0)],i.2.1+1,a9_,c9_) (by show 5-(i.2.1+1)<5-i.2.1; omega) ⟨by simp [hI.1],by show i.2.1+1≤5; omega⟩
  ·skip
   replace h2:=decF h2
   refine xN fun b4 => ?_
   refine xW0 _ (view_none 10 (b:=b4) .u64 42) ?_ sc_st
   refine xAp 10 (some {block:=b4,off:=0}) (0) (Sx.encI .u64) 0 1 ([]) 42 (ys) (.i 26) (oneI _) 8 (.slice a (ys).length cc) (by first | (simp; done) | (simp; omega)) (fun F=>(src_sl (i:=6) (d:=0) (sz:=1) (t:=42) (by kernel_rfl))) (fun a10_ c10_ => ?_)
   refine xB (fi) (fun h5 => ?_) (fun h5 => ?_)
   ·skip
    refine xC Tryz.call17 (t_keysR (c) (L) (sv) (Value.slice (g 2).a (List.length H) (g 2).c) (List.length L) (by omega) (by omega)) fun xn6 n6 hxn6 => ?_
    subst hxn6
    refine xGo [1,2,4,5,7,9] [9,10,0,1,2,3,4,5,6,11,8] _ _ _ (doneC ki ke co n cl cm bf af ws ks a0 a1 c0 c1 la ty fa fi g F c sv L H ps hL hl (d1) (d2) (d3) (d7) (ys) (a) (cc) (v0) (v1) (v4) (pt) (pa) (pc) (w0) (w3) (com) hd ([]++ys) (a10_) (c10_) (by rw [List.nil_append]; omega) (List.map (fun x=>x.fst) L) ((n6 2).a) ((n6 2).c) (by rw [List.length_map]; omega))
   ·skip
    refine xO ((3:Int)≠(0:Int)) (by omega) ?_
    refine xO (InK IntKind.i64 (cl.tmod (3:Int)+(3:Int))) (tmR _ _ (by omega)) ?_
    refine xO ((3:Int)≠(0:Int)) (by omega) ?_
    refine xO (InK IntKind.i64 (IntKind.i64.wrap ↑(BitVec.ofInt IntKind.i64.bits com &&& BitVec.ofInt IntKind.i64.bits 16777215).toNat-1)) (by have a:=andR com 16777215 (by omega); have b:=andR bf 3 (by omega); have d:=andR af 3 (by omega); exact⟨by omega,by omega⟩) ?_
    refine xO (InK IntKind.i64 (IntKind.i64.wrap ↑(BitVec.ofInt IntKind.i64.bits com &&& BitVec.ofInt IntKind.i64.bits 16777215).toNat-1-IntKind.i64.wrap ↑(BitVec.ofInt IntKind.i64.bits bf &&& BitVec.ofInt IntKind.i64.bits 3).toNat)) (by have a:=andR com 16777215 (by omega); have b:=andR bf 3 (by omega); have d:=andR af 3 (by omega); exact⟨by omega,by omega⟩) ?_
    refine xO (InK IntKind.i64 (IntKind.i64.wrap ↑(BitVec.ofInt IntKind.i64.bits com &&& BitVec.ofInt IntKind.i64.bits 16777215).toNat+IntKind.i64.wrap ↑(BitVec.ofInt IntKind.i64.bits af &&& BitVec.ofInt IntKind.i64.bits 3).toNat)) (by have a:=andR com 16777215 (by omega); have b:=andR bf 3 (by omega); have d:=andR af 3 (by omega); exact⟨by omega,by omega⟩) ?_
    refine xO (InK IntKind.i64 (IntKind.i64.wrap ↑(BitVec.ofInt IntKind.i64.bits com &&& BitVec.ofInt IntKind.i64.bits 16777215).toNat+IntKind.i64.wrap ↑(BitVec.ofInt IntKind.i64.bits af &&& BitVec.ofInt IntKind.i64.bits 3).toNat-1)) (by have a:=andR com 16777215 (by omega); have b:=andR bf 3 (by omega); have d:=andR af 3 (by omega); exact⟨by omega,by omega⟩) ?_
    exact xR ({cl:=(cl.tmod (3:Int)+(3:Int)).tmod (3:Int),ki:=v0,ke:=v1,ha:=v4,co:=w0,n:=w3,cm:=com,fr:=IntKind.i64.wrap (↑(BitVec.ofInt IntKind.i64.bits com &&& BitVec.ofInt IntKind.i64.bits (16777215:Int)).toNat:Int)-(1:Int)-IntKind.i64.wrap (↑(BitVec.ofInt IntKind.i64.bits bf &&& BitVec.ofInt IntKind.i64.bits (3:Int)).toNat:Int),to_:=IntKind.i64.wrap (↑(BitVec.ofInt IntKind.i64.bits com &&& BitVec.ofInt IntKind.i64.bits (16777215:Int)).toNat:Int)+IntKind.i64.wrap (↑(BitVec.ofInt IntKind.i64.bits af &&& BitVec.ofInt IntKind.i64.bits (3:Int)).toNat:Int)-(1:Int),ws:=ys,pt:=pt,rw:=[]++ys,rk:=i.fst}) ⟨hd,by simp only [List.nil_append]; omega,by simp only []; omega⟩
 ·skip
  replace h1:=decF h1
  refine xN fun b7 => ?_
  refine xW0 _ (view_none 10 (b:=b7) .u64 42) ?_ sc_st
  refine xAp 10 (some {block:=b7,off:=0}) (0) (Sx.encI .u64) 0 1 ([]) 42 (ys) (.i 24) (oneI _) 8 (.slice a (ys).length cc) (by first | (simp; done) | (simp; omega)) (fun F=>(src_sl (i:=6) (d:=0) (sz:=1) (t:=42) (by kernel_rfl))) (fun a10_ c10_ => ?_)
  refine xB (fi) (fun h8 => ?_) (fun h8 => ?_)
  ·skip
   refine xC Tryz.call17 (t_keysR (c) (L) (sv) (Value.slice (g 2).a (List.length H) (g 2).c) (List.length L) (by omega) (by omega)) fun xn9 n9 hxn9 => ?_
   subst hxn9
   refine xGo [1,2,4,5,7,9] [9,10,0,1,2,3,4,5,6,11,8] _ _ _ (doneC ki ke co n cl cm bf af ws ks a0 a1 c0 c1 la ty fa fi g F c sv L H ps hL hl (d1) (d2) (d3) (d7) (ys) (a) (cc) (v0) (v1) (v4) (pt) (pa) (pc) (w0) (w3) (com) hd ([]++ys) (a10_) (c10_) (by rw [List.nil_append]; omega) (List.map (fun x=>x.fst) L) ((n9 2).a) ((n9 2).c) (by rw [List.length_map]; omega))
  ·skip
   refine xO ((3:Int)≠(0:Int)) (by omega) ?_
   refine xO (InK IntKind.i64 (cl.tmod (3:Int)+(3:Int))) (tmR _ _ (by omega)) ?_
   refine xO ((3:Int)≠(0:Int)) (by omega) ?_
   refine xO (InK IntKind.i64 (IntKind.i64.wrap ↑(BitVec.ofInt IntKind.i64.bits com &&& BitVec.ofInt IntKind.i64.bits 16777215).toNat-1)) (by have a:=andR com 16777215 (by omega); have b:=andR bf 3 (by omega); have d:=andR af 3 (by omega); exact⟨by omega,by omega⟩) ?_
   refine xO (InK IntKind.i64 (IntKind.i64.wrap ↑(BitVec.ofInt IntKind.i64.bits com &&& BitVec.ofInt IntKind.i64.bits 16777215).toNat-1-IntKind.i64.wrap ↑(BitVec.ofInt IntKind.i64.bits bf &&& BitVec.ofInt IntKind.i64.bits 3).toNat)) (by have a:=andR com 16777215 (by omega); have b:=andR bf 3 (by omega); have d:=andR af 3 (by omega); exact⟨by omega,by omega⟩) ?_
   refine xO (InK IntKind.i64 (IntKind.i64.wrap ↑(BitVec.ofInt IntKind.i64.bits com &&& BitVec.ofInt IntKind.i64.bits 16777215).toNat+IntKind.i64.wrap ↑(BitVec.ofInt IntKind.i64.bits af &&& BitVec.ofInt IntKind.i64.bits 3).toNat)) (by have a:=andR com 16777215 (by omega); have b:=andR bf 3 (by omega); have d:=andR af 3 (by omega); exact⟨by omega,by omega⟩) ?_
   refine xO (InK IntKind.i64 (IntKind.i64.wrap ↑(BitVec.ofInt IntKind.i64.bits com &&& BitVec.ofInt IntKind.i64.bits 16777215).toNat+IntKind.i64.wrap ↑(BitVec.ofInt IntKind.i64.bits af &&& BitVec.ofInt IntKind.i64.bits 3).toNat-1)) (by have a:=andR com 16777215 (by omega); have b:=andR bf 3 (by omega); have d:=andR af 3 (by omega); exact⟨by omega,by omega⟩) ?_
   exact xR ({cl:=(cl.tmod (3:Int)+(3:Int)).tmod (3:Int),ki:=v0,ke:=v1,ha:=v4,co:=w0,n:=w3,cm:=com,fr:=IntKind.i64.wrap (↑(BitVec.ofInt IntKind.i64.bits com &&& BitVec.ofInt IntKind.i64.bits (16777215:Int)).toNat:Int)-(1:Int)-IntKind.i64.wrap (↑(BitVec.ofInt IntKind.i64.bits bf &&& BitVec.ofInt IntKind.i64.bits (3:Int)).toNat:Int),to_:=IntKind.i64.wrap (↑(BitVec.ofInt IntKind.i64.bits com &&& BitVec.ofInt IntKind.i64.bits (16777215:Int)).toNat:Int)+IntKind.i64.wrap (↑(BitVec.ofInt IntKind.i64.bits af &&& BitVec.ofInt IntKind.i64.bits (3:Int)).toNat:Int)-(1:Int),ws:=ys,pt:=pt,rw:=[]++ys,rk:=i.fst}) ⟨hd,by simp only [List.nil_append]; omega,by simp only []; omega⟩
end Go.Proofs.YthijdhenekmojaaGreatDoor
/- What is meant by numbers, of a model. -/
set_option linter.unusedSimpArgs false
set_option maxRecDepth 100000
set_option maxHeartbeats 0
namespace Go.Proofs.YthijdhenekmojaaGreatDoor
open Go.Sx
abbrev kk(ki:Int): Int:=(ki.tmod 10+10).tmod 10
theorem kk_rng(ki:Int): 0≤(ki.tmod 10+10).tmod 10∧(ki.tmod 10+10).tmod 10≤9:=by
 have h1:=Int.tmod_lt_of_pos ki (show(0:Int)<10 by omega)
 have h2 : -10<ki.tmod 10:=by
  rcases Int.le_total 0 ki with h | h
  ·have:=Int.tmod_nonneg 10 h; omega
  ·have h3:=Int.tmod_lt_of_pos (-ki) (show(0:Int)<10 by omega)
   rw [Int.neg_tmod] at h3
   omega
 have h3:0≤ki.tmod 10+10:=by omega
 exact⟨Int.tmod_nonneg 10 h3,by have:=Int.tmod_lt_of_pos (ki.tmod 10+10) (show(0:Int)<10 by omega); omega⟩
theorem wd_rng(x:Int): 0≤wd x∧wd x≤4294967295:=by
 have h:=andR x 4294967295 (by omega)
 unfold wd
 rw [wrap_in (k:=.u64) (by simp only [InK]; omega)]
 exact h
theorem andU(n:Int)(m:Int)(hm:0≤m∧m≤4294967295): 0≤IntKind.u64.wrap (↑(BitVec.ofInt IntKind.u64.bits n &&& BitVec.ofInt IntKind.u64.bits m).toNat)∧IntKind.u64.wrap (↑(BitVec.ofInt IntKind.u64.bits n &&& BitVec.ofInt IntKind.u64.bits m).toNat)≤m:=by
 obtain⟨k,rfl⟩:=Int.eq_ofNat_of_zero_le hm.1
 have h:(BitVec.ofInt IntKind.u64.bits n &&& BitVec.ofInt IntKind.u64.bits (k:Int)).toNat≤k:=by
  rw [BitVec.toNat_and]
  refine Nat.le_trans Nat.and_le_right ?_
  rw [BitVec.ofInt_natCast,BitVec.toNat_ofNat]
  exact Nat.mod_le _ _
 have h2:IntKind.u64.wrap (((BitVec.ofInt IntKind.u64.bits n &&& BitVec.ofInt IntKind.u64.bits (k:Int)).toNat:Nat):Int)=(((BitVec.ofInt IntKind.u64.bits n &&& BitVec.ofInt IntKind.u64.bits (k:Int)).toNat:Nat):Int):=by
  apply wrap_in
  simp only [InK]
  omega
 rw [h2]
 omega
def WsOk(ys:List Int): Prop:=ys.length≤9∧∀w∈ys,0≤w∧w≤4294967295
theorem WsOk.add{ys:List Int}{x:Int}(h:WsOk ys)(hl:ys.length<9): WsOk (ys++[wd x]):=by
 refine⟨by simp; omega, ?_⟩
 intro w hw
 rcases List.mem_append.1 hw with hw | hw
 ·exact h.2 w hw
 ·rw [List.mem_singleton.1 hw]; exact wd_rng x
theorem WsOk.set{ys:List Int}{i:Nat}{x:Int}(h:WsOk ys)(hx:0≤x∧x≤4294967295): WsOk (ys.set i x):=by
 refine⟨by simp [h.1], ?_⟩
 intro w hw
 rcases List.mem_or_eq_of_mem_set hw with hw | rfl
 ·exact h.2 w hw
 ·exact hx
theorem WsOk.setU{ys:List Int}{i:Nat}{x:Int}(h:WsOk ys): WsOk (ys.set i (IntKind.u64.wrap (↑(BitVec.ofInt IntKind.u64.bits x &&& BitVec.ofInt IntKind.u64.bits 255).toNat))):=
 h.set (by have:=andU x 255 (by omega); omega)
theorem dp0{ki n:Int}{w3:Int}{ys:List Int}(h6:¬(ki.tmod 10+10).tmod 10=6)(hy:WsOk ys)(h3:0≤w3∧w3≤3): DP ((ki.tmod 10+10).tmod 10) (IntKind.i64.wrap (↑(BitVec.ofInt IntKind.i64.bits n &&& BitVec.ofInt IntKind.i64.bits 3).toNat)) w3 ys []:=by
 have h1:=kk_rng ki
 have h2:=andR n 3 (by omega)
 exact⟨h1.1,h1.2,h2.1,h2.2,h3.1,h3.2,hy.1,hy.2,fun h=>absurd h h6,fun _=>rfl⟩
theorem dp6{ki n p0 p1:Int}{w3:Int}{ys:List Int}(h6:(ki.tmod 10+10).tmod 10=6)(hy:WsOk ys)(h3:0≤w3∧w3≤3)(hp0:0≤p0∧p0≤1)(hp1:0≤p1∧p1≤3): DP ((ki.tmod 10+10).tmod 10) (IntKind.i64.wrap (↑(BitVec.ofInt IntKind.i64.bits n &&& BitVec.ofInt IntKind.i64.bits 3).toNat)) w3 ys [p0,p1]:=by
 have h1:=kk_rng ki
 have h2:=andR n 3 (by omega)
 exact⟨h1.1,h1.2,h2.1,h2.2,h3.1,h3.2,hy.1,hy.2,fun _=>⟨p0,p1,rfl,hp0.1,hp0.2,hp1.1,hp1.2⟩,fun h=>absurd h6 h⟩
theorem doneB2(ki ke co n cl cm bf af:Int)(ws ks:List Int)(a0 a1:Option Addr)(c0 c1:Nat)(la ty fa fi:Bool)(hw:ws.length≤maxLen)(hk:ks.length≤maxLen)(g:Nat→Rf)(F:Fr)(hr0:RowF F a0 .i64 ws)(hr1:RowF F a1 .i64 ks)
  (c:Cfg) (sv:Value) (L:TopL) (H:HanL) (ps:List PRow) (hL:LOk L ps) (hl:L.length≤100)
  (d1 d2 d3 d7:Nat) (ys:List Int) (a:Option Addr) (cc:Nat) (v0 v1 v4:Int) (pt:List Int) (pa:Option Addr) (pc:Nat) (w0 w3 com:Int) (ym:Nat) (hym:ys.length=ym) (hd:DP v0 v4 w3 ys pt) :
  Go Tryz.prog Tryz.f12 (Tryz.f12.body.getD .skip) 222 F (RetR F (Some_ ((dB ki ke co n cl cm bf af ws ks a0 a1 c0 c1 la ty fa fi c sv L H ps).Q g))) [.c [0,1,0,1,1,1,1,1,1,1],.b 2,.c [1,1,1,1,1,1,1,1]]
   [(1,.pointer (some ⟨(g 0).b,0,none⟩)),(2,.pointer (some ⟨d1,0,none⟩)),(4,.pointer (some ⟨d2,0,none⟩)),(5,.pointer (some ⟨d3,0,none⟩)),(7,.pointer (some ⟨d7,0,none⟩)),(8,.int .i64 0)]
   (mBe g c sv L H ps++[.pts d1 ((opF ki ke co n cl cm bf af ws ks a0 a1 c0 c1 la ty fa fi).map (SV.v g)) 48,.pts d2 zD 46,.pts d3 [.int .i64 v0,.int .i64 v1,.bool la,.slice a ym cc,.int .i64 v4,.slice pa pt.length pc] 40,.sl a cc (Sx.encI .u64) 0 1 ys 42,.pts d7 [.int .i64 w0,.slice none 0 0,.slice none 0 0,.int .u64 w3,.int .i64 com] 44,.sl pa pc (Sx.encI .i64) 0 1 pt 3]):=by
 subst hym
 exact doneB ki ke co n cl cm bf af ws ks a0 a1 c0 c1 la ty fa fi hw hk g F hr0 hr1 c sv L H ps hL hl d1 d2 d3 d7 ys a cc v0 v1 v4 pt pa pc w0 w3 com hd
theorem andU3(n:Int): 0≤IntKind.u64.wrap (IntKind.i64.wrap (↑(BitVec.ofInt IntKind.i64.bits n &&& BitVec.ofInt IntKind.i64.bits 3).toNat))∧IntKind.u64.wrap (IntKind.i64.wrap (↑(BitVec.ofInt IntKind.i64.bits n &&& BitVec.ofInt IntKind.i64.bits 3).toNat))≤3:=by
 have h:=andR n 3 (by omega)
 rw [wrap_in (k:=.u64) (by simp only [InK]; omega)]
 exact h
theorem t_dB0(ki ke co n cl cm bf af:Int)(ws ks:List Int)(a0 a1:Option Addr)(c0 c1:Nat)(la ty fa fi:Bool)(hw:ws.length≤maxLen)(hk:ks.length≤maxLen)(F:Fr)(hr0:RowF F a0 .i64 ws)(hr1:RowF F a1 .i64 ks)
  (c:Cfg) (sv:Value) (L:TopL) (H:HanL) (ps:List PRow) (hL:LOk L ps) (hl:L.length≤100) (h6:¬(ki.tmod 10+10).tmod 10=6) :
  CtF Tryz.prog F 12 (dB ki ke co n cl cm bf af ws ks a0 a1 c0 c1 la ty fa fi c sv L H ps):=by
 refine cF 222 xzI Tryz.func12 fun g => ?_
 refine xN fun b1 => ?_
 refine xN fun b2 => ?_
 refine xO ((10:Int)≠(0:Int)) (by omega) ?_
 refine xO (InK IntKind.i64 (ki.tmod (10:Int)+(10:Int))) (tmR _ _ (by omega)) ?_
 refine xO ((10:Int)≠(0:Int)) (by omega) ?_
 refine xO ((6:Int)≠(0:Int)) (by omega) ?_
 refine xO (InK IntKind.i64 (ke.tmod (6:Int)+(6:Int))) (tmR _ _ (by omega)) ?_
 refine xO ((6:Int)≠(0:Int)) (by omega) ?_
 refine xN fun b3 => ?_
 refine xW0 _ (view_nil (Sx.encI .i64) 0 1 3 (sizedI _)) (xW0 _ (view_nil (Sx.encI .u64) 0 1 42 (sizedI _)) (xLoop xzI Tryz.func12 [0,1,0,1,1] [.b 0,.c [1,1,1]] [1,2,4,5,6] [0,1,2,3,4,5,6,7] (fun i:List Int×Nat×Option Addr×Nat=>[(1,.pointer (some ⟨(g 0).b,0,none⟩)),(2,.pointer (some ⟨b1,0,none⟩)),(4,.pointer (some ⟨b2,0,none⟩)),(5,.pointer (some ⟨b3,0,none⟩)),(6,.int .i64 i.2.1)]) (fun _=>[(1,.i 0),(2,.i 3),(4,.i 4),(5,.i 5)]) (fun i=>mBe g c sv L H ps++[.pts b1 ((opF ki ke co n cl cm bf af ws ks a0 a1 c0 c1 la ty fa fi).map (SV.v g)) 48,.pts b2 zD 46,.pts b3 [.int .i64 ((ki.tmod 10+10).tmod 10),.int .i64 ((ke.tmod 6+6).tmod 6),.bool la,.slice i.2.2.1 i.1.length i.2.2.2,.int .i64 (IntKind.i64.wrap (↑(BitVec.ofInt IntKind.i64.bits n &&& BitVec.ofInt IntKind.i64.bits 3).toNat)),.slice none 0 0] 40,.sl none 0 (Sx.encI .i64) 0 1 [] 3,.sl i.2.2.1 i.2.2.2 (Sx.encI .u64) 0 1 i.1 42]) (fun _=>⟨[(0,(cfgS c++[SV.o sv,SV.s 1 L.length,SV.s 2 H.length]).map (SV.g id)),(1,[]),(2,[]),(3,(opF ki ke co n cl cm bf af ws ks a0 a1 c0 c1 la ty fa fi).map (SV.g id)),(4,List.replicate 14 .c),(5,[.n,.n,.n,.i 7,.n,.c]),(6,[]),(7,[])],20⟩) (fun i=>i.1.length=i.2.1∧i.2.1≤9∧WsOk i.1) (fun i=>9-i.2.1) ([],0,none,0) ⟨rfl,by simp,by simp,by simp⟩ (fun i J hI hJ => ?_)) sc_st) sc_st
 refine xB (decide ((↑i.snd.fst:Int)<(↑ws.length:Int))) (fun h4 => ?_) (fun h4 => ?_)
 ·skip
  replace h4:=decT h4
  refine xB (decide ((↑i.snd.fst:Int)<(9:Int))) (fun h5 => ?_) (fun h5 => ?_)
  ·skip
   replace h5:=decT h5
   refine xIx hr0 (ws.length) (c0) .i64 (↑i.snd.fst) (show ws.length≤(ws).length∧(0:Int)≤↑i.snd.fst∧↑i.snd.fst<((ws.length:Nat):Int) by omega) ?_
   refine xLd hr0 ((↑i.snd.fst:Int).toNat) (show(↑i.snd.fst:Int).toNat<(ws).length by omega) ?_
   refine xN fun b6 => ?_
   refine xAp 7 (i.snd.snd.fst) (i.snd.snd.snd) (Sx.encI .u64) 0 1 (i.fst) 42 [IntKind.u64.wrap (IntKind.i64.wrap (↑(BitVec.ofInt IntKind.i64.bits (ws.getD (↑i.snd.fst:Int).toNat (0:Int)) &&& BitVec.ofInt IntKind.i64.bits (4294967295:Int)).toNat:Int))] (.i 7) (oneI _) 8 (.slice (some ⟨b6,0,none⟩) 1 1) (by first | (simp; done) | (simp; omega)) (fun F=>(src_pts (i:=8) (n:=1) (c:=1) (cs:=cellsOf (Sx.encI .u64) [IntKind.u64.wrap (IntKind.i64.wrap (↑(BitVec.ofInt IntKind.i64.bits (ws.getD (↑i.snd.fst:Int).toNat (0:Int)) &&& BitVec.ofInt IntKind.i64.bits (4294967295:Int)).toNat:Int))]) (t:=42) (by kernel_rfl))) (fun a7_ c7_ => ?_)
   refine xO (InK IntKind.i64 (↑i.snd.fst+1)) (by simp only [InK] at *; omega) ?_
   exact xJ hJ (i.1++[wd (ws.getD i.2.1 0)],i.2.1+1,a7_,c7_) (by show 9-(i.2.1+1)<9-i.2.1; omega) ⟨by simp [hI.1],by show i.2.1+1≤9; omega,hI.2.2.add (by have:=hI.1; omega)⟩
  ·skip
   replace h5:=decF h5
   refine xT (decide ((↑i.fst.length:Int)>(0:Int))) (by first | (simp; done) | (simp; omega)) ?_
   refine xB (!ty) (fun h7 => ?_) (fun h7 => ?_)
   ·skip
    replace h7:=ntT h7
    refine xO (i.fst.length≤i.fst.length∧(0:Int)≤(0:Int)∧(0:Int)<(↑i.fst.length:Int)) (by omega) ?_
    refine xO (Int.toNat 0<i.fst.length) (by omega) ?_
    refine xO (i.fst.length≤i.fst.length∧(0:Int)≤(0:Int)∧(0:Int)<(↑i.fst.length:Int)) (by omega) ?_
    refine xO (Int.toNat 0<i.fst.length) (by omega) ?_
    refine xE (IntKind.u64.wrap ↑(BitVec.ofInt IntKind.u64.bits (i.fst.getD (Int.toNat 0) 0) &&& BitVec.ofInt IntKind.u64.bits 255).toNat:Int) fun _ => ?_
    refine xF ((ki.tmod 10+10).tmod 10==6) (beq_eq_false_iff_ne.2 h6) ?_
    refine xO ((25:Int)≠(0:Int)) (by omega) ?_
    refine xO (InK IntKind.i64 (co.tmod (25:Int)+(25:Int))) (tmR _ _ (by omega)) ?_
    refine xO ((25:Int)≠(0:Int)) (by omega) ?_
    refine xN fun b8 => ?_
    refine xB (fa) (fun h9 => ?_) (fun h9 => ?_)
    ·skip
     refine xGo [1,2,4,5,7,8] [0,1,2,3,4,5,7,8,6] _ _ _ (doneB2 ki ke co n cl cm bf af ws ks a0 a1 c0 c1 la ty fa fi hw hk g F hr0 hr1 c sv L H ps hL hl (b1) (b2) (b3) (b8) (i.fst.set (Int.toNat 0) (IntKind.u64.wrap ↑(BitVec.ofInt IntKind.u64.bits (i.fst.getD (Int.toNat 0) 0) &&& BitVec.ofInt IntKind.u64.bits 255).toNat)) (i.snd.snd.fst) (i.snd.snd.snd) ((ki.tmod 10+10).tmod 10) ((ke.tmod 6+6).tmod 6) (IntKind.i64.wrap ↑(BitVec.ofInt IntKind.i64.bits n &&& BitVec.ofInt IntKind.i64.bits 3).toNat) ([]) (none) (0) ((co.tmod (25:Int)+(25:Int)).tmod (25:Int)) (IntKind.u64.wrap (IntKind.i64.wrap ↑(BitVec.ofInt IntKind.i64.bits n &&& BitVec.ofInt IntKind.i64.bits 3).toNat)) (cm) (i.fst.length) (List.length_set ..) (dp0 h6 hI.2.2.setU (andU3 n)))
    ·skip
     refine xGo [1,2,4,5,7,8] [0,1,2,3,4,5,7,8,6] _ _ _ (doneB2 ki ke co n cl cm bf af ws ks a0 a1 c0 c1 la ty fa fi hw hk g F hr0 hr1 c sv L H ps hL hl (b1) (b2) (b3) (b8) (i.fst.set (Int.toNat 0) (IntKind.u64.wrap ↑(BitVec.ofInt IntKind.u64.bits (i.fst.getD (Int.toNat 0) 0) &&& BitVec.ofInt IntKind.u64.bits 255).toNat)) (i.snd.snd.fst) (i.snd.snd.snd) ((ki.tmod 10+10).tmod 10) ((ke.tmod 6+6).tmod 6) (IntKind.i64.wrap ↑(BitVec.ofInt IntKind.i64.bits n &&& BitVec.ofInt IntKind.i64.bits 3).toNat) ([]) (none) (0) ((co.tmod (25:Int)+(25:Int)).tmod (25:Int)) (IntKind.u64.wrap (IntKind.i64.wrap ↑(BitVec.ofInt IntKind.i64.bits n &&& BitVec.ofInt IntKind.i64.bits 3).toNat)) (IntKind.i64.wrap ↑(BitVec.ofInt IntKind.i64.bits cm &&& BitVec.ofInt IntKind.i64.bits 31).toNat) (i.fst.length) (List.length_set ..) (dp0 h6 hI.2.2.setU (andU3 n)))
   ·skip
    replace h7:=ntF h7
    refine xF ((ki.tmod 10+10).tmod 10==6) (beq_eq_false_iff_ne.2 h6) ?_
    refine xO ((25:Int)≠(0:Int)) (by omega) ?_
    refine xO (InK IntKind.i64 (co.tmod (25:Int)+(25:Int))) (tmR _ _ (by omega)) ?_
    refine xO ((25:Int)≠(0:Int)) (by omega) ?_
    refine xN fun b10 => ?_
    refine xB (fa) (fun h11 => ?_) (fun h11 => ?_)
    ·skip
     refine xGo [1,2,4,5,7,8] [0,1,2,3,4,5,7,8,6] _ _ _ (doneB2 ki ke co n cl cm bf af ws ks a0 a1 c0 c1 la ty fa fi hw hk g F hr0 hr1 c sv L H ps hL hl (b1) (b2) (b3) (b10) (i.fst) (i.snd.snd.fst) (i.snd.snd.snd) ((ki.tmod 10+10).tmod 10) ((ke.tmod 6+6).tmod 6) (IntKind.i64.wrap ↑(BitVec.ofInt IntKind.i64.bits n &&& BitVec.ofInt IntKind.i64.bits 3).toNat) ([]) (none) (0) ((co.tmod (25:Int)+(25:Int)).tmod (25:Int)) (IntKind.u64.wrap (IntKind.i64.wrap ↑(BitVec.ofInt IntKind.i64.bits n &&& BitVec.ofInt IntKind.i64.bits 3).toNat)) (cm) (i.fst.length) rfl (dp0 h6 hI.2.2 (andU3 n)))
    ·skip
     refine xGo [1,2,4,5,7,8] [0,1,2,3,4,5,7,8,6] _ _ _ (doneB2 ki ke co n cl cm bf af ws ks a0 a1 c0 c1 la ty fa fi hw hk g F hr0 hr1 c sv L H ps hL hl (b1) (b2) (b3) (b10) (i.fst) (i.snd.snd.fst) (i.snd.snd.snd) ((ki.tmod 10+10).tmod 10) ((ke.tmod 6+6).tmod 6) (IntKind.i64.wrap ↑(BitVec.ofInt IntKind.i64.bits n &&& BitVec.ofInt IntKind.i64.bits 3).toNat) ([]) (none) (0) ((co.tmod (25:Int)+(25:Int)).tmod (25:Int)) (IntKind.u64.wrap (IntKind.i64.wrap ↑(BitVec.ofInt IntKind.i64.bits n &&& BitVec.ofInt IntKind.i64.bits 3).toNat)) (IntKind.i64.wrap ↑(BitVec.ofInt IntKind.i64.bits cm &&& BitVec.ofInt IntKind.i64.bits 31).toNat) (i.fst.length) rfl (dp0 h6 hI.2.2 (andU3 n)))
 ·skip
  replace h4:=decF h4
  refine xB (decide ((↑i.fst.length:Int)>(0:Int))) (fun h12 => ?_) (fun h12 => ?_)
  ·skip
   replace h12:=decT h12
   refine xB (!ty) (fun h13 => ?_) (fun h13 => ?_)
   ·skip
    replace h13:=ntT h13
    refine xO (i.fst.length≤i.fst.length∧(0:Int)≤(0:Int)∧(0:Int)<(↑i.fst.length:Int)) (by omega) ?_
    refine xO (Int.toNat 0<i.fst.length) (by omega) ?_
    refine xO (i.fst.length≤i.fst.length∧(0:Int)≤(0:Int)∧(0:Int)<(↑i.fst.length:Int)) (by omega) ?_
    refine xO (Int.toNat 0<i.fst.length) (by omega) ?_
    refine xE (IntKind.u64.wrap ↑(BitVec.ofInt IntKind.u64.bits (i.fst.getD (Int.toNat 0) 0) &&& BitVec.ofInt IntKind.u64.bits 255).toNat:Int) fun _ => ?_
    refine xF ((ki.tmod 10+10).tmod 10==6) (beq_eq_false_iff_ne.2 h6) ?_
    refine xO ((25:Int)≠(0:Int)) (by omega) ?_
    refine xO (InK IntKind.i64 (co.tmod (25:Int)+(25:Int))) (tmR _ _ (by omega)) ?_
    refine xO ((25:Int)≠(0:Int)) (by omega) ?_
    refine xN fun b14 => ?_
    refine xB (fa) (fun h15 => ?_) (fun h15 => ?_)
    ·skip
     refine xGo [1,2,4,5,7,8] [0,1,2,3,4,5,7,8,6] _ _ _ (doneB2 ki ke co n cl cm bf af ws ks a0 a1 c0 c1 la ty fa fi hw hk g F hr0 hr1 c sv L H ps hL hl (b1) (b2) (b3) (b14) (i.fst.set (Int.toNat 0) (IntKind.u64.wrap ↑(BitVec.ofInt IntKind.u64.bits (i.fst.getD (Int.toNat 0) 0) &&& BitVec.ofInt IntKind.u64.bits 255).toNat)) (i.snd.snd.fst) (i.snd.snd.snd) ((ki.tmod 10+10).tmod 10) ((ke.tmod 6+6).tmod 6) (IntKind.i64.wrap ↑(BitVec.ofInt IntKind.i64.bits n &&& BitVec.ofInt IntKind.i64.bits 3).toNat) ([]) (none) (0) ((co.tmod (25:Int)+(25:Int)).tmod (25:Int)) (IntKind.u64.wrap (IntKind.i64.wrap ↑(BitVec.ofInt IntKind.i64.bits n &&& BitVec.ofInt IntKind.i64.bits 3).toNat)) (cm) (i.fst.length) (List.length_set ..) (dp0 h6 hI.2.2.setU (andU3 n)))
    ·skip
     refine xGo [1,2,4,5,7,8] [0,1,2,3,4,5,7,8,6] _ _ _ (doneB2 ki ke co n cl cm bf af ws ks a0 a1 c0 c1 la ty fa fi hw hk g F hr0 hr1 c sv L H ps hL hl (b1) (b2) (b3) (b14) (i.fst.set (Int.toNat 0) (IntKind.u64.wrap ↑(BitVec.ofInt IntKind.u64.bits (i.fst.getD (Int.toNat 0) 0) &&& BitVec.ofInt IntKind.u64.bits 255).toNat)) (i.snd.snd.fst) (i.snd.snd.snd) ((ki.tmod 10+10).tmod 10) ((ke.tmod 6+6).tmod 6) (IntKind.i64.wrap ↑(BitVec.ofInt IntKind.i64.bits n &&& BitVec.ofInt IntKind.i64.bits 3).toNat) ([]) (none) (0) ((co.tmod (25:Int)+(25:Int)).tmod (25:Int)) (IntKind.u64.wrap (IntKind.i64.wrap ↑(BitVec.ofInt IntKind.i64.bits n &&& BitVec.ofInt IntKind.i64.bits 3).toNat)) (IntKind.i64.wrap ↑(BitVec.ofInt IntKind.i64.bits cm &&& BitVec.ofInt IntKind.i64.bits 31).toNat) (i.fst.length) (List.length_set ..) (dp0 h6 hI.2.2.setU (andU3 n)))
   ·skip
    replace h13:=ntF h13
    refine xF ((ki.tmod 10+10).tmod 10==6) (beq_eq_false_iff_ne.2 h6) ?_
    refine xO ((25:Int)≠(0:Int)) (by omega) ?_
    refine xO (InK IntKind.i64 (co.tmod (25:Int)+(25:Int))) (tmR _ _ (by omega)) ?_
    refine xO ((25:Int)≠(0:Int)) (by omega) ?_
    refine xN fun b16 => ?_
    refine xB (fa) (fun h17 => ?_) (fun h17 => ?_)
    ·skip
     refine xGo [1,2,4,5,7,8] [0,1,2,3,4,5,7,8,6] _ _ _ (doneB2 ki ke co n cl cm bf af ws ks a0 a1 c0 c1 la ty fa fi hw hk g F hr0 hr1 c sv L H ps hL hl (b1) (b2) (b3) (b16) (i.fst) (i.snd.snd.fst) (i.snd.snd.snd) ((ki.tmod 10+10).tmod 10) ((ke.tmod 6+6).tmod 6) (IntKind.i64.wrap ↑(BitVec.ofInt IntKind.i64.bits n &&& BitVec.ofInt IntKind.i64.bits 3).toNat) ([]) (none) (0) ((co.tmod (25:Int)+(25:Int)).tmod (25:Int)) (IntKind.u64.wrap (IntKind.i64.wrap ↑(BitVec.ofInt IntKind.i64.bits n &&& BitVec.ofInt IntKind.i64.bits 3).toNat)) (cm) (i.fst.length) rfl (dp0 h6 hI.2.2 (andU3 n)))
    ·skip
     refine xGo [1,2,4,5,7,8] [0,1,2,3,4,5,7,8,6] _ _ _ (doneB2 ki ke co n cl cm bf af ws ks a0 a1 c0 c1 la ty fa fi hw hk g F hr0 hr1 c sv L H ps hL hl (b1) (b2) (b3) (b16) (i.fst) (i.snd.snd.fst) (i.snd.snd.snd) ((ki.tmod 10+10).tmod 10) ((ke.tmod 6+6).tmod 6) (IntKind.i64.wrap ↑(BitVec.ofInt IntKind.i64.bits n &&& BitVec.ofInt IntKind.i64.bits 3).toNat) ([]) (none) (0) ((co.tmod (25:Int)+(25:Int)).tmod (25:Int)) (IntKind.u64.wrap (IntKind.i64.wrap ↑(BitVec.ofInt IntKind.i64.bits n &&& BitVec.ofInt IntKind.i64.bits 3).toNat)) (IntKind.i64.wrap ↑(BitVec.ofInt IntKind.i64.bits cm &&& BitVec.ofInt IntKind.i64.bits 31).toNat) (i.fst.length) rfl (dp0 h6 hI.2.2 (andU3 n)))
  ·skip
   replace h12:=decF h12
   refine xF ((ki.tmod 10+10).tmod 10==6) (beq_eq_false_iff_ne.2 h6) ?_
   refine xO ((25:Int)≠(0:Int)) (by omega) ?_
   refine xO (InK IntKind.i64 (co.tmod (25:Int)+(25:Int))) (tmR _ _ (by omega)) ?_
   refine xO ((25:Int)≠(0:Int)) (by omega) ?_
   refine xN fun b18 => ?_
   refine xB (fa) (fun h19 => ?_) (fun h19 => ?_)
   ·skip
    refine xGo [1,2,4,5,7,8] [0,1,2,3,4,5,7,8,6] _ _ _ (doneB2 ki ke co n cl cm bf af ws ks a0 a1 c0 c1 la ty fa fi hw hk g F hr0 hr1 c sv L H ps hL hl (b1) (b2) (b3) (b18) (i.fst) (i.snd.snd.fst) (i.snd.snd.snd) ((ki.tmod 10+10).tmod 10) ((ke.tmod 6+6).tmod 6) (IntKind.i64.wrap ↑(BitVec.ofInt IntKind.i64.bits n &&& BitVec.ofInt IntKind.i64.bits 3).toNat) ([]) (none) (0) ((co.tmod (25:Int)+(25:Int)).tmod (25:Int)) (IntKind.u64.wrap (IntKind.i64.wrap ↑(BitVec.ofInt IntKind.i64.bits n &&& BitVec.ofInt IntKind.i64.bits 3).toNat)) (cm) (i.fst.length) rfl (dp0 h6 hI.2.2 (andU3 n)))
   ·skip
    refine xGo [1,2,4,5,7,8] [0,1,2,3,4,5,7,8,6] _ _ _ (doneB2 ki ke co n cl cm bf af ws ks a0 a1 c0 c1 la ty fa fi hw hk g F hr0 hr1 c sv L H ps hL hl (b1) (b2) (b3) (b18) (i.fst) (i.snd.snd.fst) (i.snd.snd.snd) ((ki.tmod 10+10).tmod 10) ((ke.tmod 6+6).tmod 6) (IntKind.i64.wrap ↑(BitVec.ofInt IntKind.i64.bits n &&& BitVec.ofInt IntKind.i64.bits 3).toNat) ([]) (none) (0) ((co.tmod (25:Int)+(25:Int)).tmod (25:Int)) (IntKind.u64.wrap (IntKind.i64.wrap ↑(BitVec.ofInt IntKind.i64.bits n &&& BitVec.ofInt IntKind.i64.bits 3).toNat)) (IntKind.i64.wrap ↑(BitVec.ofInt IntKind.i64.bits cm &&& BitVec.ofInt IntKind.i64.bits 31).toNat) (i.fst.length) rfl (dp0 h6 hI.2.2 (andU3 n)))
theorem t_dB6(ki ke co n cl cm bf af:Int)(ws ks:List Int)(a0 a1:Option Addr)(c0 c1:Nat)(la ty fa fi:Bool)(hw:ws.length≤maxLen)(hk:ks.length≤maxLen)(F:Fr)(hr0:RowF F a0 .i64 ws)(hr1:RowF F a1 .i64 ks)
  (c:Cfg) (sv:Value) (L:TopL) (H:HanL) (ps:List PRow) (hL:LOk L ps) (hl:L.length≤100) (h6:(ki.tmod 10+10).tmod 10=6) :
  CtF Tryz.prog F 12 (dB ki ke co n cl cm bf af ws ks a0 a1 c0 c1 la ty fa fi c sv L H ps):=by
 refine cF 222 xzI Tryz.func12 fun g => ?_
 refine xN fun b1 => ?_
 refine xN fun b2 => ?_
 refine xO ((10:Int)≠(0:Int)) (by omega) ?_
 refine xO (InK IntKind.i64 (ki.tmod (10:Int)+(10:Int))) (tmR _ _ (by omega)) ?_
 refine xO ((10:Int)≠(0:Int)) (by omega) ?_
 refine xO ((6:Int)≠(0:Int)) (by omega) ?_
 refine xO (InK IntKind.i64 (ke.tmod (6:Int)+(6:Int))) (tmR _ _ (by omega)) ?_
 refine xO ((6:Int)≠(0:Int)) (by omega) ?_
 refine xN fun b3 => ?_
 refine xW0 _ (view_nil (Sx.encI .u64) 0 1 42 (sizedI _)) (xLoop xzI Tryz.func12 [0,1,0,1,1] [.b 0,.c [1,1,1]] [1,2,4,5,6] [0,1,2,3,4,5,6] (fun i:List Int×Nat×Option Addr×Nat=>[(1,.pointer (some ⟨(g 0).b,0,none⟩)),(2,.pointer (some ⟨b1,0,none⟩)),(4,.pointer (some ⟨b2,0,none⟩)),(5,.pointer (some ⟨b3,0,none⟩)),(6,.int .i64 i.2.1)]) (fun _=>[(1,.i 0),(2,.i 3),(4,.i 4),(5,.i 5)]) (fun i=>mBe g c sv L H ps++[.pts b1 ((opF ki ke co n cl cm bf af ws ks a0 a1 c0 c1 la ty fa fi).map (SV.v g)) 48,.pts b2 zD 46,.pts b3 [.int .i64 ((ki.tmod 10+10).tmod 10),.int .i64 ((ke.tmod 6+6).tmod 6),.bool la,.slice i.2.2.1 i.1.length i.2.2.2,.int .i64 (IntKind.i64.wrap (↑(BitVec.ofInt IntKind.i64.bits n &&& BitVec.ofInt IntKind.i64.bits 3).toNat)),.slice none 0 0] 40,.sl i.2.2.1 i.2.2.2 (Sx.encI .u64) 0 1 i.1 42]) (fun _=>⟨[(0,(cfgS c++[SV.o sv,SV.s 1 L.length,SV.s 2 H.length]).map (SV.g id)),(1,[]),(2,[]),(3,(opF ki ke co n cl cm bf af ws ks a0 a1 c0 c1 la ty fa fi).map (SV.g id)),(4,List.replicate 14 .c),(5,[.n,.n,.n,.i 6,.n,.c]),(6,[])],20⟩) (fun i=>i.1.length=i.2.1∧i.2.1≤9∧WsOk i.1) (fun i=>9-i.2.1) ([],0,none,0) ⟨rfl,by simp,by simp,by simp⟩ (fun i J hI hJ => ?_)) sc_st
 refine xB (decide ((↑i.snd.fst:Int)<(↑ws.length:Int))) (fun h4 => ?_) (fun h4 => ?_)
 ·skip
  replace h4:=decT h4
  refine xB (decide ((↑i.snd.fst:Int)<(9:Int))) (fun h5 => ?_) (fun h5 => ?_)
  ·skip
   replace h5:=decT h5
   refine xIx hr0 (ws.length) (c0) .i64 (↑i.snd.fst) (show ws.length≤(ws).length∧(0:Int)≤↑i.snd.fst∧↑i.snd.fst<((ws.length:Nat):Int) by omega) ?_
   refine xLd hr0 ((↑i.snd.fst:Int).toNat) (show(↑i.snd.fst:Int).toNat<(ws).length by omega) ?_
   refine xN fun b6 => ?_
   refine xAp 6 (i.snd.snd.fst) (i.snd.snd.snd) (Sx.encI .u64) 0 1 (i.fst) 42 [IntKind.u64.wrap (IntKind.i64.wrap (↑(BitVec.ofInt IntKind.i64.bits (ws.getD (↑i.snd.fst:Int).toNat (0:Int)) &&& BitVec.ofInt IntKind.i64.bits (4294967295:Int)).toNat:Int))] (.i 6) (oneI _) 8 (.slice (some ⟨b6,0,none⟩) 1 1) (by first | (simp; done) | (simp; omega)) (fun F=>(src_pts (i:=7) (n:=1) (c:=1) (cs:=cellsOf (Sx.encI .u64) [IntKind.u64.wrap (IntKind.i64.wrap (↑(BitVec.ofInt IntKind.i64.bits (ws.getD (↑i.snd.fst:Int).toNat (0:Int)) &&& BitVec.ofInt IntKind.i64.bits (4294967295:Int)).toNat:Int))]) (t:=42) (by kernel_rfl))) (fun a6_ c6_ => ?_)
   refine xO (InK IntKind.i64 (↑i.snd.fst+1)) (by simp only [InK] at *; omega) ?_
   exact xJ hJ (i.1++[wd (ws.getD i.2.1 0)],i.2.1+1,a6_,c6_) (by show 9-(i.2.1+1)<9-i.2.1; omega) ⟨by simp [hI.1],by show i.2.1+1≤9; omega,hI.2.2.add (by have:=hI.1; omega)⟩
  ·skip
   replace h5:=decF h5
   refine xT (decide ((↑i.fst.length:Int)>(0:Int))) (by first | (simp; done) | (simp; omega)) ?_
   refine xB (!ty) (fun h7 => ?_) (fun h7 => ?_)
   ·skip
    replace h7:=ntT h7
    refine xO (i.fst.length≤i.fst.length∧(0:Int)≤(0:Int)∧(0:Int)<(↑i.fst.length:Int)) (by omega) ?_
    refine xO (Int.toNat 0<i.fst.length) (by omega) ?_
    refine xO (i.fst.length≤i.fst.length∧(0:Int)≤(0:Int)∧(0:Int)<(↑i.fst.length:Int)) (by omega) ?_
    refine xO (Int.toNat 0<i.fst.length) (by omega) ?_
    refine xE (IntKind.u64.wrap ↑(BitVec.ofInt IntKind.u64.bits (i.fst.getD (Int.toNat 0) 0) &&& BitVec.ofInt IntKind.u64.bits 255).toNat:Int) fun _ => ?_
    refine xT ((ki.tmod 10+10).tmod 10==6) (beq_iff_eq.2 h6) ?_
    refine xO ((0:Int)≤(2:Int)) (by omega) ?_
    refine xN fun b8 => ?_
    refine xO ((25:Int)≠(0:Int)) (by omega) ?_
    refine xO (InK IntKind.i64 (co.tmod (25:Int)+(25:Int))) (tmR _ _ (by omega)) ?_
    refine xO ((25:Int)≠(0:Int)) (by omega) ?_
    refine xN fun b9 => ?_
    refine xB (fa) (fun h10 => ?_) (fun h10 => ?_)
    ·skip
     refine xW0 _ (view_lit 7 (b:=b8) .i64 [IntKind.i64.wrap ↑(BitVec.ofInt IntKind.i64.bits ke &&& BitVec.ofInt IntKind.i64.bits 1).toNat,IntKind.i64.wrap ↑(BitVec.ofInt IntKind.i64.bits (bShr IntKind.i64 n 2) &&& BitVec.ofInt IntKind.i64.bits 3).toNat] 3 (by simp [maxLen])) ?_ sc_st
     refine xGo [1,2,4,5,7,8] [0,1,2,3,4,5,6,8,7] _ _ _ (doneB2 ki ke co n cl cm bf af ws ks a0 a1 c0 c1 la ty fa fi hw hk g F hr0 hr1 c sv L H ps hL hl (b1) (b2) (b3) (b9) (i.fst.set (Int.toNat 0) (IntKind.u64.wrap ↑(BitVec.ofInt IntKind.u64.bits (i.fst.getD (Int.toNat 0) 0) &&& BitVec.ofInt IntKind.u64.bits 255).toNat)) (i.snd.snd.fst) (i.snd.snd.snd) ((ki.tmod 10+10).tmod 10) ((ke.tmod 6+6).tmod 6) (IntKind.i64.wrap ↑(BitVec.ofInt IntKind.i64.bits n &&& BitVec.ofInt IntKind.i64.bits 3).toNat) ([IntKind.i64.wrap ↑(BitVec.ofInt IntKind.i64.bits ke &&& BitVec.ofInt IntKind.i64.bits 1).toNat,IntKind.i64.wrap ↑(BitVec.ofInt IntKind.i64.bits (bShr IntKind.i64 n 2) &&& BitVec.ofInt IntKind.i64.bits 3).toNat]) (some {block:=b8,off:=0}) (2) ((co.tmod (25:Int)+(25:Int)).tmod (25:Int)) (IntKind.u64.wrap (IntKind.i64.wrap ↑(BitVec.ofInt IntKind.i64.bits n &&& BitVec.ofInt IntKind.i64.bits 3).toNat)) (cm) (i.fst.length) (List.length_set ..) (dp6 h6 hI.2.2.setU (andU3 n) (andR _ 1 (by omega)) (andR _ 3 (by omega))))
    ·skip
     refine xW0 _ (view_lit 7 (b:=b8) .i64 [IntKind.i64.wrap ↑(BitVec.ofInt IntKind.i64.bits ke &&& BitVec.ofInt IntKind.i64.bits 1).toNat,IntKind.i64.wrap ↑(BitVec.ofInt IntKind.i64.bits (bShr IntKind.i64 n 2) &&& BitVec.ofInt IntKind.i64.bits 3).toNat] 3 (by simp [maxLen])) ?_ sc_st
     refine xGo [1,2,4,5,7,8] [0,1,2,3,4,5,6,8,7] _ _ _ (doneB2 ki ke co n cl cm bf af ws ks a0 a1 c0 c1 la ty fa fi hw hk g F hr0 hr1 c sv L H ps hL hl (b1) (b2) (b3) (b9) (i.fst.set (Int.toNat 0) (IntKind.u64.wrap ↑(BitVec.ofInt IntKind.u64.bits (i.fst.getD (Int.toNat 0) 0) &&& BitVec.ofInt IntKind.u64.bits 255).toNat)) (i.snd.snd.fst) (i.snd.snd.snd) ((ki.tmod 10+10).tmod 10) ((ke.tmod 6+6).tmod 6) (IntKind.i64.wrap ↑(BitVec.ofInt IntKind.i64.bits n &&& BitVec.ofInt IntKind.i64.bits 3).toNat) ([IntKind.i64.wrap ↑(BitVec.ofInt IntKind.i64.bits ke &&& BitVec.ofInt IntKind.i64.bits 1).toNat,IntKind.i64.wrap ↑(BitVec.ofInt IntKind.i64.bits (bShr IntKind.i64 n 2) &&& BitVec.ofInt IntKind.i64.bits 3).toNat]) (some {block:=b8,off:=0}) (2) ((co.tmod (25:Int)+(25:Int)).tmod (25:Int)) (IntKind.u64.wrap (IntKind.i64.wrap ↑(BitVec.ofInt IntKind.i64.bits n &&& BitVec.ofInt IntKind.i64.bits 3).toNat)) (IntKind.i64.wrap ↑(BitVec.ofInt IntKind.i64.bits cm &&& BitVec.ofInt IntKind.i64.bits 31).toNat) (i.fst.length) (List.length_set ..) (dp6 h6 hI.2.2.setU (andU3 n) (andR _ 1 (by omega)) (andR _ 3 (by omega))))
   ·skip
    replace h7:=ntF h7
    refine xT ((ki.tmod 10+10).tmod 10==6) (beq_iff_eq.2 h6) ?_
    refine xO ((0:Int)≤(2:Int)) (by omega) ?_
    refine xN fun b11 => ?_
    refine xO ((25:Int)≠(0:Int)) (by omega) ?_
    refine xO (InK IntKind.i64 (co.tmod (25:Int)+(25:Int))) (tmR _ _ (by omega)) ?_
    refine xO ((25:Int)≠(0:Int)) (by omega) ?_
    refine xN fun b12 => ?_
    refine xB (fa) (fun h13 => ?_) (fun h13 => ?_)
    ·skip
     refine xW0 _ (view_lit 7 (b:=b11) .i64 [IntKind.i64.wrap ↑(BitVec.ofInt IntKind.i64.bits ke &&& BitVec.ofInt IntKind.i64.bits 1).toNat,IntKind.i64.wrap ↑(BitVec.ofInt IntKind.i64.bits (bShr IntKind.i64 n 2) &&& BitVec.ofInt IntKind.i64.bits 3).toNat] 3 (by simp [maxLen])) ?_ sc_st
     refine xGo [1,2,4,5,7,8] [0,1,2,3,4,5,6,8,7] _ _ _ (doneB2 ki ke co n cl cm bf af ws ks a0 a1 c0 c1 la ty fa fi hw hk g F hr0 hr1 c sv L H ps hL hl (b1) (b2) (b3) (b12) (i.fst) (i.snd.snd.fst) (i.snd.snd.snd) ((ki.tmod 10+10).tmod 10) ((ke.tmod 6+6).tmod 6) (IntKind.i64.wrap ↑(BitVec.ofInt IntKind.i64.bits n &&& BitVec.ofInt IntKind.i64.bits 3).toNat) ([IntKind.i64.wrap ↑(BitVec.ofInt IntKind.i64.bits ke &&& BitVec.ofInt IntKind.i64.bits 1).toNat,IntKind.i64.wrap ↑(BitVec.ofInt IntKind.i64.bits (bShr IntKind.i64 n 2) &&& BitVec.ofInt IntKind.i64.bits 3).toNat]) (some {block:=b11,off:=0}) (2) ((co.tmod (25:Int)+(25:Int)).tmod (25:Int)) (IntKind.u64.wrap (IntKind.i64.wrap ↑(BitVec.ofInt IntKind.i64.bits n &&& BitVec.ofInt IntKind.i64.bits 3).toNat)) (cm) (i.fst.length) rfl (dp6 h6 hI.2.2 (andU3 n) (andR _ 1 (by omega)) (andR _ 3 (by omega))))
    ·skip
     refine xW0 _ (view_lit 7 (b:=b11) .i64 [IntKind.i64.wrap ↑(BitVec.ofInt IntKind.i64.bits ke &&& BitVec.ofInt IntKind.i64.bits 1).toNat,IntKind.i64.wrap ↑(BitVec.ofInt IntKind.i64.bits (bShr IntKind.i64 n 2) &&& BitVec.ofInt IntKind.i64.bits 3).toNat] 3 (by simp [maxLen])) ?_ sc_st
     refine xGo [1,2,4,5,7,8] [0,1,2,3,4,5,6,8,7] _ _ _ (doneB2 ki ke co n cl cm bf af ws ks a0 a1 c0 c1 la ty fa fi hw hk g F hr0 hr1 c sv L H ps hL hl (b1) (b2) (b3) (b12) (i.fst) (i.snd.snd.fst) (i.snd.snd.snd) ((ki.tmod 10+10).tmod 10) ((ke.tmod 6+6).tmod 6) (IntKind.i64.wrap ↑(BitVec.ofInt IntKind.i64.bits n &&& BitVec.ofInt IntKind.i64.bits 3).toNat) ([IntKind.i64.wrap ↑(BitVec.ofInt IntKind.i64.bits ke &&& BitVec.ofInt IntKind.i64.bits 1).toNat,IntKind.i64.wrap ↑(BitVec.ofInt IntKind.i64.bits (bShr IntKind.i64 n 2) &&& BitVec.ofInt IntKind.i64.bits 3).toNat]) (some {block:=b11,off:=0}) (2) ((co.tmod (25:Int)+(25:Int)).tmod (25:Int)) (IntKind.u64.wrap (IntKind.i64.wrap ↑(BitVec.ofInt IntKind.i64.bits n &&& BitVec.ofInt IntKind.i64.bits 3).toNat)) (IntKind.i64.wrap ↑(BitVec.ofInt IntKind.i64.bits cm &&& BitVec.ofInt IntKind.i64.bits 31).toNat) (i.fst.length) rfl (dp6 h6 hI.2.2 (andU3 n) (andR _ 1 (by omega)) (andR _ 3 (by omega))))
 ·skip
  replace h4:=decF h4
  refine xB (decide ((↑i.fst.length:Int)>(0:Int))) (fun h14 => ?_) (fun h14 => ?_)
  ·skip
   replace h14:=decT h14
   refine xB (!ty) (fun h15 => ?_) (fun h15 => ?_)
   ·skip
    replace h15:=ntT h15
    refine xO (i.fst.length≤i.fst.length∧(0:Int)≤(0:Int)∧(0:Int)<(↑i.fst.length:Int)) (by omega) ?_
    refine xO (Int.toNat 0<i.fst.length) (by omega) ?_
    refine xO (i.fst.length≤i.fst.length∧(0:Int)≤(0:Int)∧(0:Int)<(↑i.fst.length:Int)) (by omega) ?_
    refine xO (Int.toNat 0<i.fst.length) (by omega) ?_
    refine xE (IntKind.u64.wrap ↑(BitVec.ofInt IntKind.u64.bits (i.fst.getD (Int.toNat 0) 0) &&& BitVec.ofInt IntKind.u64.bits 255).toNat:Int) fun _ => ?_
    refine xT ((ki.tmod 10+10).tmod 10==6) (beq_iff_eq.2 h6) ?_
    refine xO ((0:Int)≤(2:Int)) (by omega) ?_
    refine xN fun b16 => ?_
    refine xO ((25:Int)≠(0:Int)) (by omega) ?_
    refine xO (InK IntKind.i64 (co.tmod (25:Int)+(25:Int))) (tmR _ _ (by omega)) ?_
    refine xO ((25:Int)≠(0:Int)) (by omega) ?_
    refine xN fun b17 => ?_
    refine xB (fa) (fun h18 => ?_) (fun h18 => ?_)
    ·skip
     refine xW0 _ (view_lit 7 (b:=b16) .i64 [IntKind.i64.wrap ↑(BitVec.ofInt IntKind.i64.bits ke &&& BitVec.ofInt IntKind.i64.bits 1).toNat,IntKind.i64.wrap ↑(BitVec.ofInt IntKind.i64.bits (bShr IntKind.i64 n 2) &&& BitVec.ofInt IntKind.i64.bits 3).toNat] 3 (by simp [maxLen])) ?_ sc_st
     refine xGo [1,2,4,5,7,8] [0,1,2,3,4,5,6,8,7] _ _ _ (doneB2 ki ke co n cl cm bf af ws ks a0 a1 c0 c1 la ty fa fi hw hk g F hr0 hr1 c sv L H ps hL hl (b1) (b2) (b3) (b17) (i.fst.set (Int.toNat 0) (IntKind.u64.wrap ↑(BitVec.ofInt IntKind.u64.bits (i.fst.getD (Int.toNat 0) 0) &&& BitVec.ofInt IntKind.u64.bits 255).toNat)) (i.snd.snd.fst) (i.snd.snd.snd) ((ki.tmod 10+10).tmod 10) ((ke.tmod 6+6).tmod 6) (IntKind.i64.wrap ↑(BitVec.ofInt IntKind.i64.bits n &&& BitVec.ofInt IntKind.i64.bits 3).toNat) ([IntKind.i64.wrap ↑(BitVec.ofInt IntKind.i64.bits ke &&& BitVec.ofInt IntKind.i64.bits 1).toNat,IntKind.i64.wrap ↑(BitVec.ofInt IntKind.i64.bits (bShr IntKind.i64 n 2) &&& BitVec.ofInt IntKind.i64.bits 3).toNat]) (some {block:=b16,off:=0}) (2) ((co.tmod (25:Int)+(25:Int)).tmod (25:Int)) (IntKind.u64.wrap (IntKind.i64.wrap ↑(BitVec.ofInt IntKind.i64.bits n &&& BitVec.ofInt IntKind.i64.bits 3).toNat)) (cm) (i.fst.length) (List.length_set ..) (dp6 h6 hI.2.2.setU (andU3 n) (andR _ 1 (by omega)) (andR _ 3 (by omega))))
    ·skip
     refine xW0 _ (view_lit 7 (b:=b16) .i64 [IntKind.i64.wrap ↑(BitVec.ofInt IntKind.i64.bits ke &&& BitVec.ofInt IntKind.i64.bits 1).toNat,IntKind.i64.wrap ↑(BitVec.ofInt IntKind.i64.bits (bShr IntKind.i64 n 2) &&& BitVec.ofInt IntKind.i64.bits 3).toNat] 3 (by simp [maxLen])) ?_ sc_st
     refine xGo [1,2,4,5,7,8] [0,1,2,3,4,5,6,8,7] _ _ _ (doneB2 ki ke co n cl cm bf af ws ks a0 a1 c0 c1 la ty fa fi hw hk g F hr0 hr1 c sv L H ps hL hl (b1) (b2) (b3) (b17) (i.fst.set (Int.toNat 0) (IntKind.u64.wrap ↑(BitVec.ofInt IntKind.u64.bits (i.fst.getD (Int.toNat 0) 0) &&& BitVec.ofInt IntKind.u64.bits 255).toNat)) (i.snd.snd.fst) (i.snd.snd.snd) ((ki.tmod 10+10).tmod 10) ((ke.tmod 6+6).tmod 6) (IntKind.i64.wrap ↑(BitVec.ofInt IntKind.i64.bits n &&& BitVec.ofInt IntKind.i64.bits 3).toNat) ([IntKind.i64.wrap ↑(BitVec.ofInt IntKind.i64.bits ke &&& BitVec.ofInt IntKind.i64.bits 1).toNat,IntKind.i64.wrap ↑(BitVec.ofInt IntKind.i64.bits (bShr IntKind.i64 n 2) &&& BitVec.ofInt IntKind.i64.bits 3).toNat]) (some {block:=b16,off:=0}) (2) ((co.tmod (25:Int)+(25:Int)).tmod (25:Int)) (IntKind.u64.wrap (IntKind.i64.wrap ↑(BitVec.ofInt IntKind.i64.bits n &&& BitVec.ofInt IntKind.i64.bits 3).toNat)) (IntKind.i64.wrap ↑(BitVec.ofInt IntKind.i64.bits cm &&& BitVec.ofInt IntKind.i64.bits 31).toNat) (i.fst.length) (List.length_set ..) (dp6 h6 hI.2.2.setU (andU3 n) (andR _ 1 (by omega)) (andR _ 3 (by omega))))
   ·skip
    replace h15:=ntF h15
    refine xT ((ki.tmod 10+10).tmod 10==6) (beq_iff_eq.2 h6) ?_
    refine xO ((0:Int)≤(2:Int)) (by omega) ?_
    refine xN fun b19 => ?_
    refine xO ((25:Int)≠(0:Int)) (by omega) ?_
    refine xO (InK IntKind.i64 (co.tmod (25:Int)+(25:Int))) (tmR _ _ (by omega)) ?_
    refine xO ((25:Int)≠(0:Int)) (by omega) ?_
    refine xN fun b20 => ?_
    refine xB (fa) (fun h21 => ?_) (fun h21 => ?_)
    ·skip
     refine xW0 _ (view_lit 7 (b:=b19) .i64 [IntKind.i64.wrap ↑(BitVec.ofInt IntKind.i64.bits ke &&& BitVec.ofInt IntKind.i64.bits 1).toNat,IntKind.i64.wrap ↑(BitVec.ofInt IntKind.i64.bits (bShr IntKind.i64 n 2) &&& BitVec.ofInt IntKind.i64.bits 3).toNat] 3 (by simp [maxLen])) ?_ sc_st
     refine xGo [1,2,4,5,7,8] [0,1,2,3,4,5,6,8,7] _ _ _ (doneB2 ki ke co n cl cm bf af ws ks a0 a1 c0 c1 la ty fa fi hw hk g F hr0 hr1 c sv L H ps hL hl (b1) (b2) (b3) (b20) (i.fst) (i.snd.snd.fst) (i.snd.snd.snd) ((ki.tmod 10+10).tmod 10) ((ke.tmod 6+6).tmod 6) (IntKind.i64.wrap ↑(BitVec.ofInt IntKind.i64.bits n &&& BitVec.ofInt IntKind.i64.bits 3).toNat) ([IntKind.i64.wrap ↑(BitVec.ofInt IntKind.i64.bits ke &&& BitVec.ofInt IntKind.i64.bits 1).toNat,IntKind.i64.wrap ↑(BitVec.ofInt IntKind.i64.bits (bShr IntKind.i64 n 2) &&& BitVec.ofInt IntKind.i64.bits 3).toNat]) (some {block:=b19,off:=0}) (2) ((co.tmod (25:Int)+(25:Int)).tmod (25:Int)) (IntKind.u64.wrap (IntKind.i64.wrap ↑(BitVec.ofInt IntKind.i64.bits n &&& BitVec.ofInt IntKind.i64.bits 3).toNat)) (cm) (i.fst.length) rfl (dp6 h6 hI.2.2 (andU3 n) (andR _ 1 (by omega)) (andR _ 3 (by omega))))
    ·skip
     refine xW0 _ (view_lit 7 (b:=b19) .i64 [IntKind.i64.wrap ↑(BitVec.ofInt IntKind.i64.bits ke &&& BitVec.ofInt IntKind.i64.bits 1).toNat,IntKind.i64.wrap ↑(BitVec.ofInt IntKind.i64.bits (bShr IntKind.i64 n 2) &&& BitVec.ofInt IntKind.i64.bits 3).toNat] 3 (by simp [maxLen])) ?_ sc_st
     refine xGo [1,2,4,5,7,8] [0,1,2,3,4,5,6,8,7] _ _ _ (doneB2 ki ke co n cl cm bf af ws ks a0 a1 c0 c1 la ty fa fi hw hk g F hr0 hr1 c sv L H ps hL hl (b1) (b2) (b3) (b20) (i.fst) (i.snd.snd.fst) (i.snd.snd.snd) ((ki.tmod 10+10).tmod 10) ((ke.tmod 6+6).tmod 6) (IntKind.i64.wrap ↑(BitVec.ofInt IntKind.i64.bits n &&& BitVec.ofInt IntKind.i64.bits 3).toNat) ([IntKind.i64.wrap ↑(BitVec.ofInt IntKind.i64.bits ke &&& BitVec.ofInt IntKind.i64.bits 1).toNat,IntKind.i64.wrap ↑(BitVec.ofInt IntKind.i64.bits (bShr IntKind.i64 n 2) &&& BitVec.ofInt IntKind.i64.bits 3).toNat]) (some {block:=b19,off:=0}) (2) ((co.tmod (25:Int)+(25:Int)).tmod (25:Int)) (IntKind.u64.wrap (IntKind.i64.wrap ↑(BitVec.ofInt IntKind.i64.bits n &&& BitVec.ofInt IntKind.i64.bits 3).toNat)) (IntKind.i64.wrap ↑(BitVec.ofInt IntKind.i64.bits cm &&& BitVec.ofInt IntKind.i64.bits 31).toNat) (i.fst.length) rfl (dp6 h6 hI.2.2 (andU3 n) (andR _ 1 (by omega)) (andR _ 3 (by omega))))
  ·skip
   replace h14:=decF h14
   refine xT ((ki.tmod 10+10).tmod 10==6) (beq_iff_eq.2 h6) ?_
   refine xO ((0:Int)≤(2:Int)) (by omega) ?_
   refine xN fun b22 => ?_
   refine xO ((25:Int)≠(0:Int)) (by omega) ?_
   refine xO (InK IntKind.i64 (co.tmod (25:Int)+(25:Int))) (tmR _ _ (by omega)) ?_
   refine xO ((25:Int)≠(0:Int)) (by omega) ?_
   refine xN fun b23 => ?_
   refine xB (fa) (fun h24 => ?_) (fun h24 => ?_)
   ·skip
    refine xW0 _ (view_lit 7 (b:=b22) .i64 [IntKind.i64.wrap ↑(BitVec.ofInt IntKind.i64.bits ke &&& BitVec.ofInt IntKind.i64.bits 1).toNat,IntKind.i64.wrap ↑(BitVec.ofInt IntKind.i64.bits (bShr IntKind.i64 n 2) &&& BitVec.ofInt IntKind.i64.bits 3).toNat] 3 (by simp [maxLen])) ?_ sc_st
    refine xGo [1,2,4,5,7,8] [0,1,2,3,4,5,6,8,7] _ _ _ (doneB2 ki ke co n cl cm bf af ws ks a0 a1 c0 c1 la ty fa fi hw hk g F hr0 hr1 c sv L H ps hL hl (b1) (b2) (b3) (b23) (i.fst) (i.snd.snd.fst) (i.snd.snd.snd) ((ki.tmod 10+10).tmod 10) ((ke.tmod 6+6).tmod 6) (IntKind.i64.wrap ↑(BitVec.ofInt IntKind.i64.bits n &&& BitVec.ofInt IntKind.i64.bits 3).toNat) ([IntKind.i64.wrap ↑(BitVec.ofInt IntKind.i64.bits ke &&& BitVec.ofInt IntKind.i64.bits 1).toNat,IntKind.i64.wrap ↑(BitVec.ofInt IntKind.i64.bits (bShr IntKind.i64 n 2) &&& BitVec.ofInt IntKind.i64.bits 3).toNat]) (some {block:=b22,off:=0}) (2) ((co.tmod (25:Int)+(25:Int)).tmod (25:Int)) (IntKind.u64.wrap (IntKind.i64.wrap ↑(BitVec.ofInt IntKind.i64.bits n &&& BitVec.ofInt IntKind.i64.bits 3).toNat)) (cm) (i.fst.length) rfl (dp6 h6 hI.2.2 (andU3 n) (andR _ 1 (by omega)) (andR _ 3 (by omega))))
   ·skip
    refine xW0 _ (view_lit 7 (b:=b22) .i64 [IntKind.i64.wrap ↑(BitVec.ofInt IntKind.i64.bits ke &&& BitVec.ofInt IntKind.i64.bits 1).toNat,IntKind.i64.wrap ↑(BitVec.ofInt IntKind.i64.bits (bShr IntKind.i64 n 2) &&& BitVec.ofInt IntKind.i64.bits 3).toNat] 3 (by simp [maxLen])) ?_ sc_st
    refine xGo [1,2,4,5,7,8] [0,1,2,3,4,5,6,8,7] _ _ _ (doneB2 ki ke co n cl cm bf af ws ks a0 a1 c0 c1 la ty fa fi hw hk g F hr0 hr1 c sv L H ps hL hl (b1) (b2) (b3) (b23) (i.fst) (i.snd.snd.fst) (i.snd.snd.snd) ((ki.tmod 10+10).tmod 10) ((ke.tmod 6+6).tmod 6) (IntKind.i64.wrap ↑(BitVec.ofInt IntKind.i64.bits n &&& BitVec.ofInt IntKind.i64.bits 3).toNat) ([IntKind.i64.wrap ↑(BitVec.ofInt IntKind.i64.bits ke &&& BitVec.ofInt IntKind.i64.bits 1).toNat,IntKind.i64.wrap ↑(BitVec.ofInt IntKind.i64.bits (bShr IntKind.i64 n 2) &&& BitVec.ofInt IntKind.i64.bits 3).toNat]) (some {block:=b22,off:=0}) (2) ((co.tmod (25:Int)+(25:Int)).tmod (25:Int)) (IntKind.u64.wrap (IntKind.i64.wrap ↑(BitVec.ofInt IntKind.i64.bits n &&& BitVec.ofInt IntKind.i64.bits 3).toNat)) (IntKind.i64.wrap ↑(BitVec.ofInt IntKind.i64.bits cm &&& BitVec.ofInt IntKind.i64.bits 31).toNat) (i.fst.length) rfl (dp6 h6 hI.2.2 (andU3 n) (andR _ 1 (by omega)) (andR _ 3 (by omega))))
end Go.Proofs.YthijdhenekmojaaGreatDoor
/- A map of numbers, as the library's contracts see it. -/
set_option linter.unusedSimpArgs false
namespace Go.Sx
open Go.RowKit Go.Maps Go.Sort Go.MapKept Go
open Go.WideElems (Fit rd rg)
theorem wf_in{x:Int}(h:InK .i64 x): (Lit.int .i64 x).wf=true:=by
 simp only [InK] at h
 simp [Lit.wf,IntKind.min,IntKind.max,IntKind.signed,IntKind.bits]
 omega
theorem own_of{H:Type}{P:Program}{kt:TypeId}(hk:P.underlying kt=some (.int .i64)){β : Type}{ev : β→Value}{w:World}{mt clock:Nat}{l':List (Int×β×Nat)}(hb:w.heap[mt]? = some (.map (l'.map (entK (Value.int .i64) ev)).toArray clock))(hst:StampK l' clock)
  (hin:∀x∈l',InK .i64 x.1) (hn:l'.length≤1000000) :
  ∃D:DataW H,w.ownsMap P kt (fun _=>some (.nil,[])) mt 1000000 D∧(intKeys D).Perm (l'.map (·.1))∧Maps.size D≤1000000:=by
 have hko:∀a:Int,InK .i64 a→keyOf P kt (.int .i64 a)=some (.int .i64 a):=fun a ha=>by
  simp [keyOf,hk,mapKey,wf_in ha]
 have hrd:∀x∈l',WideElems.rd (H:=H) P kt (fun _=>some (.nil,[])) (entK (Value.int .i64) ev x)=some (.int .i64 x.1,.nil):=fun x hx=>by
  simp [WideElems.rd,entK,hko x.1 (hin x hx)]
 have hrg:(l'.map (entK (Value.int .i64) ev)).toArray.toList.map (rg (H:=H) P kt (fun _=>some (.nil,[])))=l'.map fun x=>(Lit.int .i64 x.1,DataW.nil):=by
  rw [List.map_map]
  refine List.map_congr_left fun x hx => ?_
  simp [rg,hrd x hx]
 refine⟨.map (((l'.map (entK (Value.int .i64) ev)).toArray.toList.map (rg P kt (fun _=>some (.nil,[])))).foldr DataW.insert []),⟨_,clock,hb,⟨?_, ?_, ?_⟩, ?_,rfl⟩, ?_, ?_⟩
 ·simp; exact Nat.le_trans hn (by decide)
 ·obtain⟨h1,h2,h3⟩:=hst
  refine⟨?_, ?_, ?_⟩
  ·intro x hx
   obtain⟨y,hy,rfl⟩:=List.mem_map.1 (show x∈l'.map (entK (Value.int .i64) ev) from hx)
   exact h1 y hy
  ·rw [List.map_map]; exact h2
  ·have e:(l'.map (entK (Value.int .i64) ev)).toArray.toList.map (·.key)=(l'.map (·.1)).map (Value.int .i64):=by simp [entK]
   rw [e]
   exact List.pairwise_map.2 (h3.imp fun hne he=>hne (by injection he))
 ·intro x hx
  obtain⟨y,hy,rfl⟩:=List.mem_map.1 (show x∈l'.map (entK (Value.int .i64) ev) from hx)
  exact⟨_,hrd y hy⟩
 ·simpa using hn
 ·rw [hrg]
  show((((l'.map fun x=>(Lit.int .i64 x.1,DataW.nil (H:=H))).foldr DataW.insert []).map fun p=>intOf p.1)).Perm _
  refine((Go.WideShapes.sorted_perm _).map _).trans ?_
  rw [List.map_map]
  exact .of_eq (List.map_congr_left fun x hx=>rfl)
 ·rw [hrg]
  show(((l'.map fun x=>(Lit.int .i64 x.1,DataW.nil (H:=H))).foldr DataW.insert []).length)≤1000000
  rw [length_sorted]
  simpa using hn
end Go.Sx
/- Contracts of the library's functions at this program's numbers (keys of a map, sorted), as the kit's tool lays them, in plain words. -/
namespace Go.Proofs
open Go.Shelf
def Tryz.keysK_ren: Go.Shelf.Ren:=⟨fun | 7=>45 | 10=>71 | n=>n,fun | 23=>78 | 26=>3 | 3=>90 | 28=>105 | 0=>0 | 27=>104 | 33=>96 | 4=>4 | n=>n,fun | n=>n⟩
theorem Tryz.keysK: Go.Proofs.SlLaysZI.n7 Tryz.prog Tryz.keysK_ren:={
 mixed:=by kernel_rfl
 f7:=⟨Tryz.f45.name,by decide,Tryz.func45.trans (congrArg some (by kernel_rfl))⟩
 f10:=⟨Tryz.f71.name,by decide,Tryz.func71.trans (congrArg some (by kernel_rfl))⟩
 t0:=Tryz.underlying0
 a0:=Tryz.isAgg0
 z0:=Tryz.sizeOf0
 v0:=Tryz.zeroValue0
 t4:=Tryz.underlying4
 a4:=Tryz.isAgg4
 z4:=Tryz.sizeOf4
 v4:=Tryz.zeroValue4
 t23:=Tryz.underlying78
 a23:=Tryz.isAgg78
 z23:=Tryz.sizeOf78
 v23:=Tryz.zeroValue78
 t26:=Tryz.underlying3
 a26:=Tryz.isAgg3
 z26:=Tryz.sizeOf3
 v26:=Tryz.zeroValue3
 t27:=Tryz.underlying104
 a27:=Tryz.isAgg104
 z27:=Tryz.sizeOf104
 v27:=Tryz.zeroValue104
 t28:=Tryz.underlying105
 a28:=Tryz.isAgg105
 z28:=Tryz.sizeOf105
 v28:=Tryz.zeroValue105
 t33:=Tryz.underlying96
 a33:=Tryz.isAgg96
 z33:=Tryz.sizeOf96
 v33:=Tryz.zeroValue96}
def Tryz.sortedK_ren: Go.Shelf.Ren:=⟨fun | 6=>44 | 8=>69 | 9=>70 | 11=>85 | 13=>87 | 12=>86 | 23=>110 | 24=>111 | 14=>101 | 15=>102 | 16=>103 | 17=>104 | 18=>105 | 19=>106 | 20=>107 | 21=>108 | 22=>109 | 25=>118 | 26=>119 | 27=>120 | 28=>121 | 29=>122 | 30=>73 | 31=>124 | n=>n,fun | 26=>3 | 28=>105 | 24=>38 | 0=>0 | 3=>3 | 37=>70 | 48=>179 | 50=>42 | 4=>4 | 40=>173 | 39=>172 | 45=>119 | 5=>5 | 9=>9 | 51=>197 | 55=>201 | 57=>203 | 58=>156 | 33=>96 | n=>n,fun | n=>n⟩
theorem Tryz.sortedK: Go.Proofs.SlLaysZI.n6 Tryz.prog Tryz.sortedK_ren:={
 mixed:=by kernel_rfl
 f6:=⟨Tryz.f44.name,by decide,Tryz.func44.trans (congrArg some (by kernel_rfl))⟩
 f8:=⟨Tryz.f69.name,by decide,Tryz.func69.trans (congrArg some (by kernel_rfl))⟩
 f11:=⟨Tryz.f85.name,by decide,Tryz.func85.trans (congrArg some (by kernel_rfl))⟩
 t0:=Tryz.underlying0
 a0:=Tryz.isAgg0
 z0:=Tryz.sizeOf0
 v0:=Tryz.zeroValue0
 t24:=Tryz.underlying38
 a24:=Tryz.isAgg38
 z24:=Tryz.sizeOf38
 v24:=Tryz.zeroValue38
 t26:=Tryz.underlying3
 a26:=Tryz.isAgg3
 z26:=Tryz.sizeOf3
 v26:=Tryz.zeroValue3
 t28:=Tryz.underlying105
 a28:=Tryz.isAgg105
 z28:=Tryz.sizeOf105
 v28:=Tryz.zeroValue105
 i26:=by kernel_rfl}
def Tryz.sortK_ren: Go.Shelf.Ren:=⟨fun | 5=>70 | 8=>87 | 7=>86 | 19=>110 | 20=>111 | 10=>101 | 11=>102 | 12=>103 | 13=>104 | 14=>105 | 15=>106 | 16=>107 | 17=>108 | 18=>109 | 30=>118 | 31=>119 | 32=>120 | 33=>121 | 34=>122 | 35=>73 | 40=>124 | n=>n,fun | 23=>38 | 25=>3 | 3=>3 | 32=>70 | 22=>38 | 0=>0 | 44=>179 | 46=>42 | 4=>4 | 36=>173 | 35=>172 | 41=>119 | 5=>5 | 9=>9 | 53=>197 | 57=>201 | 63=>203 | 64=>156 | n=>n,fun | n=>n⟩
theorem Tryz.sortK: Go.Proofs.SlLaysM.n5 Tryz.prog Tryz.sortK_ren:={
 mixed:=by kernel_rfl
 f5:=⟨Tryz.f70.name,by decide,Tryz.func70.trans (congrArg some (by kernel_rfl))⟩
 f7:=⟨Tryz.f86.name,by decide,Tryz.func86.trans (congrArg some (by kernel_rfl))⟩
 f8:=Tryz.func87.trans (congrArg some (by kernel_rfl))
 f10:=⟨Tryz.f101.name,by decide,Tryz.func101.trans (congrArg some (by kernel_rfl))⟩
 f11:=⟨Tryz.f102.name,by decide,Tryz.func102.trans (congrArg some (by kernel_rfl))⟩
 f12:=⟨Tryz.f103.name,by decide,Tryz.func103.trans (congrArg some (by kernel_rfl))⟩
 f13:=⟨Tryz.f104.name,by decide,Tryz.func104.trans (congrArg some (by kernel_rfl))⟩
 f14:=⟨Tryz.f105.name,by decide,Tryz.func105.trans (congrArg some (by kernel_rfl))⟩
 f15:=⟨Tryz.f106.name,by decide,Tryz.func106.trans (congrArg some (by kernel_rfl))⟩
 f16:=⟨Tryz.f107.name,by decide,Tryz.func107.trans (congrArg some (by kernel_rfl))⟩
 f17:=⟨Tryz.f108.name,by decide,Tryz.func108.trans (congrArg some (by kernel_rfl))⟩
 f18:=⟨Tryz.f109.name,by decide,Tryz.func109.trans (congrArg some (by kernel_rfl))⟩
 f19:=Tryz.func110.trans (congrArg some (by kernel_rfl))
 f20:=Tryz.func111.trans (congrArg some (by kernel_rfl))
 f30:=⟨Tryz.f118.name,by decide,Tryz.func118.trans (congrArg some (by kernel_rfl))⟩
 f31:=Tryz.func119.trans (congrArg some (by kernel_rfl))
 f32:=Tryz.func120.trans (congrArg some (by kernel_rfl))
 f33:=⟨Tryz.f121.name,by decide,Tryz.func121.trans (congrArg some (by kernel_rfl))⟩
 f34:=⟨Tryz.f122.name,by decide,Tryz.func122.trans (congrArg some (by kernel_rfl))⟩
 f35:=⟨Tryz.f73.name,by decide,Tryz.func73.trans (congrArg some (by kernel_rfl))⟩
 f40:=⟨Tryz.f124.name,by decide,Tryz.func124.trans (congrArg some (by kernel_rfl))⟩
 t0:=Tryz.underlying0
 a0:=Tryz.isAgg0
 z0:=Tryz.sizeOf0
 v0:=Tryz.zeroValue0
 t3:=Tryz.underlying3
 a3:=Tryz.isAgg3
 z3:=Tryz.sizeOf3
 v3:=Tryz.zeroValue3
 t4:=Tryz.underlying4
 a4:=Tryz.isAgg4
 z4:=Tryz.sizeOf4
 v4:=Tryz.zeroValue4
 t5:=Tryz.underlying5
 a5:=Tryz.isAgg5
 z5:=Tryz.sizeOf5
 v5:=Tryz.zeroValue5
 t9:=Tryz.underlying9
 a9:=Tryz.isAgg9
 z9:=Tryz.sizeOf9
 v9:=Tryz.zeroValue9
 t22:=Tryz.underlying38
 a22:=Tryz.isAgg38
 z22:=Tryz.sizeOf38
 v22:=Tryz.zeroValue38
 t23:=Tryz.underlying38
 a23:=Tryz.isAgg38
 z23:=Tryz.sizeOf38
 v23:=Tryz.zeroValue38
 t25:=Tryz.underlying3
 a25:=Tryz.isAgg3
 z25:=Tryz.sizeOf3
 v25:=Tryz.zeroValue3
 t32:=Tryz.underlying70
 a32:=Tryz.isAgg70
 z32:=Tryz.sizeOf70
 v32:=Tryz.zeroValue70
 t35:=Tryz.underlying172
 a35:=Tryz.isAgg172
 z35:=Tryz.sizeOf172
 v35:=Tryz.zeroValue172
 t36:=Tryz.underlying173
 a36:=Tryz.isAgg173
 z36:=Tryz.sizeOf173
 v36:=Tryz.zeroValue173
 t41:=Tryz.underlying119
 a41:=Tryz.isAgg119
 z41:=Tryz.sizeOf119
 v41:=Tryz.zeroValue119
 t44:=Tryz.underlying179
 a44:=Tryz.isAgg179
 z44:=Tryz.sizeOf179
 v44:=Tryz.zeroValue179
 t46:=Tryz.underlying42
 a46:=Tryz.isAgg42
 z46:=Tryz.sizeOf42
 v46:=Tryz.zeroValue42
 t53:=Tryz.underlying197
 a53:=Tryz.isAgg197
 z53:=Tryz.sizeOf197
 v53:=Tryz.zeroValue197
 t57:=Tryz.underlying201
 a57:=Tryz.isAgg201
 z57:=Tryz.sizeOf201
 v57:=Tryz.zeroValue201
 t63:=Tryz.underlying203
 a63:=Tryz.isAgg203
 z63:=Tryz.sizeOf203
 v63:=Tryz.zeroValue203
 t64:=Tryz.underlying156
 a64:=Tryz.isAgg156
 z64:=Tryz.sizeOf156
 v64:=Tryz.zeroValue156}
end Go.Proofs
/- The keys of a map of numbers, sorted. -/
set_option linter.unusedSimpArgs false
set_option maxRecDepth 100000
set_option maxHeartbeats 0
namespace Go.Proofs.YthijdhenekmojaaGreatDoor
open Go.Sx Go.RowKit Go.Maps Go.Sort Go.Shelf Go.Proofs
theorem sortsK(m:Nat): AnyZI.SortsIn Tryz.prog Tryz.sortedK_ren Fence.wide m:=
 ⟨fun blk off cap ss W hH hblk hsz=>callsIn_wide.2 (AnyM.slices_Sort_int Tryz.sortK blk off cap ss W hH hblk hsz),
 fun p cap W=>callsIn_wide.2 (AnyM.slices_Sort_int_none Tryz.sortK p cap W)⟩
def keysOf(T:TopM): List Int:=(T.map (·.1)).mergeSort leI
theorem t_sorted(T:TopM)(mt:Nat)(hin:∀x∈T,InK .i64 x.1)(hn:T.length≤1000000):
  Ct Tryz.prog 44 (⟨[.s (.fn 71 [] [1])],[.pts 1 [.mb 2 mt] 78,.rs 2 fun _=>KMap mt ekI evT T],3,fun x=>x=keysOf T,fun x=>[.s (.s 3 x.length)],fun x=>[.pts 1 [.mb 2 mt] 78,.rs 2 fun _=>KMap mt ekI evT T,.sl 3 (Go.Sx.encI .i64) 0 1 x 3]⟩:Sp (List Int)):=by
 intro g F w hi
 have hi':In [.pts (g 1).b [.map (some mt)] 78,.res (KMap mt ekI evT T)] F w:=hi
 obtain⟨f,hf,hfit,hq⟩:=hi
 obtain⟨f1,f2,rfl,h1,f3,f4,rfl,h3,h4⟩:=hf
 have h1:f1=[((g 1).b,.cells #[.map (some mt)] 78 (0,0))]:=h1
 subst h1
 obtain⟨l',clock,hl,rfl,hst⟩:=h3
 have hc:w.heap[(g 1).b]? = some (.cells #[.map (some mt)] 78 (0,0)):=hfit.2 ((g 1).b,.cells #[.map (some mt)] 78 (0,0)) (by simp)
 have hb:w.heap[mt]? = some (.map (l'.map (entK ekI evT)).toArray clock):=hfit.2 (mt,.map (l'.map (entK ekI evT)).toArray clock) (by simp)
 have hkeys:l'.map (·.1)=T.map (·.1):=by rw [←hl,List.map_map]; rfl
 obtain⟨D,hown,hperm,hsz⟩:=own_of (H:=Unit) (P:=Tryz.prog) (kt:=3) Tryz.underlying3 (ev:=evT) hb hst (fun x hx=>by
  have:(x.1,x.2.1)∈T:=by rw [←hl]; exact List.mem_map.2 ⟨x,hx,rfl⟩
  exact hin _ this) (by rw [←List.length_map (f:=fun x:Int×(Bool×PRow)×Nat=>(x.1,x.2.1)),hl]; exact hn)
 have hlt:(g 1).b<w.heap.size:=(Array.getElem?_eq_some_iff.1 hc).1
 have hseq:SeqGives Fence.wide 2 Tryz.prog 71 #[.pointer (some ⟨(g 1).b,0,none⟩)] encZ (fun ss=>ss.Perm (intKeys D)) (Maps.size D) w:=
  AnyZI.keys_gives (ρ := Tryz.keysK_ren) {Tryz.keysK with} Fence.wide _ trivial rfl (by omega) (g 1).b mt _ D _ hlt (by simp [World.cell?,hc]) hown
 have cS:=AnyZI.sorted_in Tryz.sortedK Fence.wide 5 trivial trivial trivial trivial rfl (by omega) (sortsK _) (enters_of Tryz.func70 (by kernel_rfl) rfl) 71 #[.pointer (some ⟨(g 1).b,0,none⟩)] trivial (enters_of Tryz.func71 (by kernel_rfl) rfl) _ _ (Nat.le_trans hsz (by decide)) (by omega) w hseq
 change CallsIn _ _ Tryz.prog 44 _ _ _ at cS
 refine(callsIn_wide.1 cS).mono ?_
 rintro e w' ⟨v,ss,rfl,hS,hrow,hnil,hbl⟩
 have he:ss.mergeSort (fun x y=>decide (x≤y))=keysOf T:=by
  have:=mergeSort_of_perm_i (hS.trans hperm)
  rw [hkeys] at this
  exact this
 rw [he] at hrow
 obtain⟨a,c,rfl,hin2⟩:=In.newRow hi' hbl (k:=.i64) (e:=3) hrow
 refine⟨_,_,rfl,⟨keysOf T,fun _=>⟨0,a,c⟩,rfl,rfl, ?_⟩,hin2⟩
 rfl
end Go.Proofs.YthijdhenekmojaaGreatDoor
/- The model: its keys. -/
set_option linter.unusedSimpArgs false
set_option maxRecDepth 100000
set_option maxHeartbeats 0
namespace Go.Proofs.YthijdhenekmojaaGreatDoor
open Go.Sx
theorem t_keys(c:Cfg)(T:TopM)(mt mh:Nat)(sv:Value)(hin:∀x∈T,InK .i64 x.1)(hn:T.length≤1000000):
  Ct Tryz.prog 16 (⟨[.s (.p 0 0)],[mdl2 c (.o sv) mt mh,topR mt T],3,fun x=>x=keysOf T,fun x=>[.s (.s 3 x.length)],fun x=>[mdl2 c (.o sv) mt mh,topR mt T,.sl 3 (Go.Sx.encI .i64) 0 1 x 3]⟩:Sp (List Int)):=by
 refine cX 11 xaI Tryz.func16 fun g F => ?_
 refine xN fun b1 => ?_
 refine xC Tryz.call44 (t_sorted (T) (mt) (by omega) (by omega)) fun xn2 n2 hxn2 => ?_
 subst hxn2
 exact xR (keysOf T) rfl
end Go.Proofs.YthijdhenekmojaaGreatDoor
/- Are two rows of numbers equal? -/
set_option maxRecDepth 100000
set_option maxHeartbeats 0
namespace Go.Proofs.YthijdhenekmojaaGreatDoor
open Go.Sx
theorem t_equalI(xs ys:List Int)(n m:Nat)(hn:n≤xs.length)(hm:ys.length=m)(hl:xs.length≤1000000): Ct Tryz.prog 37 (sB [.s (.s 0 n),.s (.s 1 m)] [.sl 0 (Sx.encI .i64) 0 1 xs 3,.sl 1 (Sx.encI .i64) 0 1 ys 3] 2 (decide (xs.take n=ys)) [.sl 0 (Sx.encI .i64) 0 1 xs 3,.sl 1 (Sx.encI .i64) 0 1 ys 3]):=by
 subst hm
 refine cX 26 xaI Tryz.func37 fun g F => ?_
 refine xB ((↑n:Int) != (↑ys.length:Int)) (fun h1 => ?_) (fun h1 => ?_)
 ·skip
  replace h1:=ntT h1
  replace h1:=decF h1
  exact xR (false) ((decide_eq_false (fun h=>by have:=congrArg List.length h; simp at this; omega)).symm)
 ·skip
  replace h1:=ntF h1
  replace h1:=decT h1
  refine xLoop xaI Tryz.func37 [0,1,0,1,1] [.b 0,.c [1,1,1]] [0,1,12,13] [0,1] (fun i:Nat=>[(0,.slice (g 0).a n (g 0).c),(1,.slice (g 1).a ys.length (g 1).c),(12,.int .i64 n),(13,.int .i64 i)]) (fun _=>[(0,.i 0),(1,.i 1)]) (fun _=>[.sl (g 0).a (g 0).c (Sx.encI .i64) 0 1 xs 3,.sl (g 1).a (g 1).c (Sx.encI .i64) 0 1 ys 3]) (fun _=>⟨[(0,[]),(1,[])],2⟩) (fun i=>i≤n∧xs.take i=ys.take i) (fun i=>n-i) 0 ⟨by omega,rfl⟩ (fun i J hI hJ => ?_)
  refine xB (decide ((↑i:Int)<(↑n:Int))) (fun h2 => ?_) (fun h2 => ?_)
  ·skip
   replace h2:=decT h2
   refine xO (n≤xs.length∧(0:Int)≤(↑i:Int)∧(↑i:Int)<(↑n:Int)) (by omega) ?_
   refine xO ((↑i:Int).toNat<xs.length) (by omega) ?_
   refine xO (ys.length≤ys.length∧(0:Int)≤(↑i:Int)∧(↑i:Int)<(↑ys.length:Int)) (by omega) ?_
   refine xO ((↑i:Int).toNat<ys.length) (by omega) ?_
   refine xB (xs.getD i 0 != ys.getD i 0) (fun h3 => ?_) (fun h3 => ?_)
   ·skip
    replace h3:=ntT h3
    replace h3:=decF h3
    exact xR (false) ((decide_eq_false (take_ne (i:=i) (by omega) (by omega) (by assumption))).symm)
   ·skip
    replace h3:=ntF h3
    replace h3:=decT h3
    refine xO (InK IntKind.i64 (↑i+1)) (by simp only [InK] at *; omega) ?_
    exact xJ hJ (i+1) (by omega) ⟨by omega,take_step hI.2 (by omega) (by omega) (by assumption)⟩
  ·skip
   replace h2:=decF h2
   exact xR (true) ((decide_eq_true (by have hi:i=n:=(by omega); subst hi; rw [hI.2,List.take_of_length_le (by omega)])).symm)
end Go.Proofs.YthijdhenekmojaaGreatDoor
/- The model: the rest of what is done. -/
set_option linter.unusedSimpArgs false
set_option maxRecDepth 100000
set_option maxHeartbeats 0
namespace Go.Proofs.YthijdhenekmojaaGreatDoor
open Go.Sx
def xzo: Cx:=⟨[],[],[],[]⟩
theorem xzO: Inl Tryz.prog xzo:=inl_ok trivial trivial
abbrev smpO(ki:Int)(b:Bool)(c:Cfg)(T:TopM)(mt mh:Nat)(sv:Value)(cl ke:Int)(la:Bool)(wo pa rw rk:Value)(ha co n cm fr to_:Int): Sp Bool:=
 sB [.s (.p 0 0),.g (dS cl ki ke la (.o wo) ha (.o pa) co (.o rw) (.o rk) n cm fr to_)] [mdl2 c (.o sv) mt mh,topR mt T] 3 b [mdl2 c (.o sv) mt mh,topR mt T]
theorem t_unpinO(c:Cfg)(T:TopM)(mt mh:Nat)(sv:Value)(cl ke:Int)(la:Bool)(wo pa rw rk:Value)(ha co n cm fr to_:Int): Ct Tryz.prog 13 (smpO 7 (decide (co=0∨co=1)) c T mt mh sv cl ke la wo pa rw rk ha co n cm fr to_):=by
 refine cX 148 xzO Tryz.func13 fun g F => ?_
 refine xN fun b1 => ?_
 refine xA ?_ ?_
 ·skip
  refine xMg 1 (mt) (T) (evT) kI (ke) (false,PRow.nil) true ?_
  refine xN fun b2 => ?_
  refine xB (co==0) (fun h3 => ?_) (fun h3 => ?_)
  ·skip
   replace h3:=decT h3
   exact xR (true) (by show _ = decide _; simp [*]; done)
  ·skip
   replace h3:=decF h3
   exact xR (co==1) (by show _ = decide _; by_cases h:co=1 <;> simp [*])
 ·skip
  refine xN fun b4 => ?_
  refine xMg 1 (mt) (T) (evT) kI (ke) (false,PRow.nil) true ?_
  refine xB (co==0) (fun h5 => ?_) (fun h5 => ?_)
  ·skip
   replace h5:=decT h5
   exact xR (true) (by show _ = decide _; simp [*]; done)
  ·skip
   replace h5:=decF h5
   exact xR (co==1) (by show _ = decide _; by_cases h:co=1 <;> simp [*])
theorem t_scanO(c:Cfg)(T:TopM)(mt mh:Nat)(sv:Value)(cl ke:Int)(la:Bool)(wo pa rw rk:Value)(ha co n cm fr to_:Int): Ct Tryz.prog 13 (smpO 9 (decide (co=0)) c T mt mh sv cl ke la wo pa rw rk ha co n cm fr to_):=by
 refine cX 148 xzO Tryz.func13 fun g F => ?_
 refine xN fun b1 => ?_
 refine xA ?_ ?_
 ·skip
  refine xMg 1 (mt) (T) (evT) kI (ke) (false,PRow.nil) true ?_
  refine xN fun b2 => ?_
  exact xR (co==0) rfl
 ·skip
  refine xN fun b3 => ?_
  refine xMg 1 (mt) (T) (evT) kI (ke) (false,PRow.nil) true ?_
  exact xR (co==0) rfl
theorem t_zeroO(c:Cfg)(T:TopM)(mt mh:Nat)(sv:Value)(cl ke:Int)(la:Bool)(wo pa rw rk:Value)(ha co n cm fr to_:Int): Ct Tryz.prog 13 (smpO 0 false c T mt mh sv cl ke la wo pa rw rk ha co n cm fr to_):=by
 refine cX 148 xzO Tryz.func13 fun g F => ?_
 refine xN fun b1 => ?_
 refine xA ?_ ?_
 ·skip
  refine xMg 1 (mt) (T) (evT) kI (ke) (false,PRow.nil) true ?_
  refine xN fun b2 => ?_
  exact xR (false) rfl
 ·skip
  refine xN fun b3 => ?_
  refine xMg 1 (mt) (T) (evT) kI (ke) (false,PRow.nil) true ?_
  exact xR (false) rfl
theorem t_listO(c:Cfg)(T:TopM)(hin:∀x∈T,InK .i64 x.1)(hT:T.length≤1000000)(mt mh:Nat)(sv:Value)(cl ke:Int)(la:Bool)(wo pa rw:Value)(rk:List Int)(q:Nat)(hq:rk.length=q)(hq2:q≤1000)(ha co n cm fr to_:Int): Ct Tryz.prog 13 (sB [.s (.p 0 0),.g (dS cl 8 ke la (.o wo) ha (.o pa) co (.o rw) (.s 3 q) n cm fr to_)] [mdl2 c (.o sv) mt mh,topR mt T,.sl 3 (Go.Sx.encI .i64) 0 1 rk 3] 4 (decide ((co=0∧rk=keysOf T)∨co=17)) [mdl2 c (.o sv) mt mh,topR mt T,.sl 3 (Go.Sx.encI .i64) 0 1 rk 3]):=by
 subst hq
 refine cX 148 xzO Tryz.func13 fun g F => ?_
 refine xN fun b1 => ?_
 refine xA ?_ ?_
 ·skip
  refine xMg 1 (mt) (T) (evT) kI (ke) (false,PRow.nil) true ?_
  refine xN fun b2 => ?_
  refine xB (co==0) (fun h3 => ?_) (fun h3 => ?_)
  ·skip
   replace h3:=decT h3
   refine xCy [⟨(g 0).b,none,0⟩,⟨0,none,0⟩,⟨0,none,0⟩] [0,1] (Tg.i 8) ⟨[(3,[]),(4,[.n,.c,.n,.n,.n,.n,.n,.n,.n,.i 3,.n,.n,.n,.n]),(6,[.n,.n]),(0,[.n,.n,.n,.n,.n,.n,.n,.n,.n,.n,.i 1,.i 2]),(1,[]),(8,[])],48⟩ Tryz.call16 (fun F' _=>(t_keys (c) (T) (mt) (mh) (sv) (by omega) (by omega)).fr) fun xn4 n4 hxn4 => ?_
   subst hxn4
   refine xCy [⟨0,(g 3).a,(g 3).c⟩,⟨0,(n4 3).a,(n4 3).c⟩] [0,5] (Tg.n) ⟨[(4,[.n,.c,.n,.n,.n,.n,.n,.n,.n,.i 3,.n,.n,.n,.n]),(6,[.n,.n]),(0,[.n,.n,.n,.n,.n,.n,.n,.n,.n,.n,.i 1,.i 2]),(1,[]),(3,[]),(8,[])],88⟩ Tryz.call37 (fun F' _=>(t_equalI (rk) (keysOf T) (rk.length) ((keysOf T).length) (by omega) (by omega) (by omega)).fr) fun xn6 n6 hxn6 => ?_
   subst hxn6
   refine xB (decide (List.take rk.length rk=keysOf T)) (fun h7 => ?_) (fun h7 => ?_)
   ·skip
    replace h7:=decT h7
    exact xR (true) (by show true=decide ((co=0∧rk=keysOf T)∨co=17); exact(decide_eq_true (.inl ⟨by omega,by have q:=h7; rw [List.take_of_length_le (Nat.le_refl _)] at q; exact q⟩)).symm)
   ·skip
    replace h7:=decF h7
    exact xR (co==17) (by show(co==17)=decide ((co=0∧rk=keysOf T)∨co=17); rw [Bool.eq_iff_iff,beq_iff_eq,decide_eq_true_eq]; exact⟨.inr,fun h=>h.elim (fun h=>absurd (by rw [List.take_of_length_le (Nat.le_refl _)]; exact h.2) h7) id⟩)
  ·skip
   replace h3:=decF h3
   exact xR (co==17) (by show(co==17)=decide ((co=0∧rk=keysOf T)∨co=17); rw [Bool.eq_iff_iff,beq_iff_eq,decide_eq_true_eq]; exact⟨.inr,fun h=>h.elim (fun h=>absurd h.1 h3) id⟩)
 ·skip
  refine xN fun b8 => ?_
  refine xMg 1 (mt) (T) (evT) kI (ke) (false,PRow.nil) true ?_
  refine xB (co==0) (fun h9 => ?_) (fun h9 => ?_)
  ·skip
   replace h9:=decT h9
   refine xCy [⟨(g 0).b,none,0⟩,⟨0,none,0⟩,⟨0,none,0⟩] [0,1] (Tg.i 8) ⟨[(3,[]),(4,[.n,.c,.n,.n,.n,.n,.n,.n,.n,.i 3,.n,.n,.n,.n]),(5,[.n,.n]),(0,[.n,.n,.n,.n,.n,.n,.n,.n,.n,.n,.i 1,.i 2]),(1,[]),(8,[])],48⟩ Tryz.call16 (fun F' _=>(t_keys (c) (T) (mt) (mh) (sv) (by omega) (by omega)).fr) fun xn10 n10 hxn10 => ?_
   subst hxn10
   refine xCy [⟨0,(g 3).a,(g 3).c⟩,⟨0,(n10 3).a,(n10 3).c⟩] [0,5] (Tg.n) ⟨[(4,[.n,.c,.n,.n,.n,.n,.n,.n,.n,.i 3,.n,.n,.n,.n]),(5,[.n,.n]),(0,[.n,.n,.n,.n,.n,.n,.n,.n,.n,.n,.i 1,.i 2]),(1,[]),(3,[]),(8,[])],88⟩ Tryz.call37 (fun F' _=>(t_equalI (rk) (keysOf T) (rk.length) ((keysOf T).length) (by omega) (by omega) (by omega)).fr) fun xn12 n12 hxn12 => ?_
   subst hxn12
   refine xB (decide (List.take rk.length rk=keysOf T)) (fun h13 => ?_) (fun h13 => ?_)
   ·skip
    replace h13:=decT h13
    exact xR (true) (by show true=decide ((co=0∧rk=keysOf T)∨co=17); exact(decide_eq_true (.inl ⟨by omega,by have q:=h13; rw [List.take_of_length_le (Nat.le_refl _)] at q; exact q⟩)).symm)
   ·skip
    replace h13:=decF h13
    exact xR (co==17) (by show(co==17)=decide ((co=0∧rk=keysOf T)∨co=17); rw [Bool.eq_iff_iff,beq_iff_eq,decide_eq_true_eq]; exact⟨.inr,fun h=>h.elim (fun h=>absurd (by rw [List.take_of_length_le (Nat.le_refl _)]; exact h.2) h13) id⟩)
  ·skip
   replace h9:=decF h9
   exact xR (co==17) (by show(co==17)=decide ((co=0∧rk=keysOf T)∨co=17); rw [Bool.eq_iff_iff,beq_iff_eq,decide_eq_true_eq]; exact⟨.inr,fun h=>h.elim (fun h=>absurd h.1 h9) id⟩)
end Go.Proofs.YthijdhenekmojaaGreatDoor
/- The model: what is removed. -/
set_option maxRecDepth 100000
set_option maxHeartbeats 0
namespace Go.Proofs.YthijdhenekmojaaGreatDoor
open Go.Sx
def removeM(T:TopM)(ke:Int)(co:Int): RT:=
 if mayB ke=false then⟨co==1,T⟩ else
 if (kget T ke).isSome=true∧co=0 then⟨true,kdel T ke⟩ else
 if (kget T ke).isSome=false∧co=12 then⟨true,T⟩ else⟨co==17,T⟩
theorem t_remove(c:Cfg)(hc:c.Ok)(T:TopM)(mt:Nat)(sv hv:Value)(cl ke:Int)(la:Bool)(wo pa rw rk:Value)(ha co n cm fr to_:Int):
  Ct Tryz.prog 13 (⟨[.s (.p 0 0),.g (dS cl 2 ke la (.o wo) ha (.o pa) co (.o rw) (.o rk) n cm fr to_)],[mdl c (.o sv) (.o hv) mt,topR mt T],2,
   fun x=>x=removeM T ke co,fun x=>[.s (.bo x.b)],fun x=>[mdl c (.o sv) (.o hv) mt,topR mt x.T]⟩:Sp RT):=by
 refine cX 148 xaI Tryz.func13 fun g F => ?_
 refine xN fun b1 => ?_
 refine xC Tryz.call31 (t_start (c) (by omega) (ke)) fun xn2 n2 hxn2 => ?_
 refine xB (decide (xn2<0)) (fun h3 => ?_) (fun h3 => ?_)
 ·skip
  replace h3:=decT h3
  exact xR ({b:=co==1,T:=T}) (by have hm:=hxn2.1 (by assumption); simp [removeM,hm])
 ·skip
  replace h3:=decF h3
  refine xA ?_ ?_
  ·skip
   refine xMg 1 (mt) (T) (evT) kI (ke) (false,PRow.nil) true ?_
   refine xN fun b4 => ?_
   refine xB ((kget T ke).isSome) (fun h5 => ?_) (fun h5 => ?_)
   ·skip
    refine xB (co==0) (fun h6 => ?_) (fun h6 => ?_)
    ·skip
     replace h6:=decT h6
     refine xMd 1 (mt) (T) (evT) kI (ke) ?_
     exact xR ({b:=true,T:=kdel T ke}) (by have hm:=may_of hxn2 (by assumption); simp [removeM,hm, *])
    ·skip
     replace h6:=decF h6
     refine xF (!(kget T ke).isSome) (by have hm:=may_of hxn2 (by assumption); simp [removeM,hm, *]) ?_
     exact xR ({b:=co==17,T:=T}) (by have hm:=may_of hxn2 (by assumption); simp [removeM,hm, *])
   ·skip
    refine xT (!(kget T ke).isSome) (by have hm:=may_of hxn2 (by assumption); simp [removeM,hm, *]) ?_
    refine xB (co==12) (fun h7 => ?_) (fun h7 => ?_)
    ·skip
     replace h7:=decT h7
     exact xR ({b:=true,T:=T}) (by have hm:=may_of hxn2 (by assumption); simp [removeM,hm, *])
    ·skip
     replace h7:=decF h7
     exact xR ({b:=co==17,T:=T}) (by have hm:=may_of hxn2 (by assumption); simp [removeM,hm, *])
  ·skip
   refine xN fun b8 => ?_
   refine xMg 1 (mt) (T) (evT) kI (ke) (false,PRow.nil) true ?_
   refine xB ((kget T ke).isSome) (fun h9 => ?_) (fun h9 => ?_)
   ·skip
    refine xB (co==0) (fun h10 => ?_) (fun h10 => ?_)
    ·skip
     replace h10:=decT h10
     refine xMd 1 (mt) (T) (evT) kI (ke) ?_
     exact xR ({b:=true,T:=kdel T ke}) (by have hm:=may_of hxn2 (by assumption); simp [removeM,hm, *])
    ·skip
     replace h10:=decF h10
     refine xF (!(kget T ke).isSome) (by have hm:=may_of hxn2 (by assumption); simp [removeM,hm, *]) ?_
     exact xR ({b:=co==17,T:=T}) (by have hm:=may_of hxn2 (by assumption); simp [removeM,hm, *])
   ·skip
    refine xT (!(kget T ke).isSome) (by have hm:=may_of hxn2 (by assumption); simp [removeM,hm, *]) ?_
    refine xB (co==12) (fun h11 => ?_) (fun h11 => ?_)
    ·skip
     replace h11:=decT h11
     exact xR ({b:=true,T:=T}) (by have hm:=may_of hxn2 (by assumption); simp [removeM,hm, *])
    ·skip
     replace h11:=decF h11
     exact xR ({b:=co==17,T:=T}) (by have hm:=may_of hxn2 (by assumption); simp [removeM,hm, *])
end Go.Proofs.YthijdhenekmojaaGreatDoor
/- The model: what is created, beside what handles name. -/
set_option maxRecDepth 100000
set_option maxHeartbeats 0
namespace Go.Proofs.YthijdhenekmojaaGreatDoor
open Go.Sx
theorem t_create2(c:Cfg)(hc:c.Ok)(T:TopM)(mt mh:Nat)(sv:Value)(cl ke:Int)(la:Bool)(wo pa rw rk:Value)(ha co n cm fr to_:Int):
  Ct Tryz.prog 13 (⟨[.s (.p 0 0),.g (dS cl 1 ke la (.o wo) ha (.o pa) co (.o rw) (.o rk) n cm fr to_)],[mdl2 c (.o sv) mt mh,topR mt T],3,
   fun x=>x=createM c T ke la co,fun x=>[.s (.bo x.b)],fun x=>[mdl2 c (.o sv) mt mh,topR mt x.T]⟩:Sp RT):=by
 refine cX 148 xaI Tryz.func13 fun g F => ?_
 refine xN fun b1 => ?_
 refine xC Tryz.call31 (t_start (c) (by omega) (ke)) fun xn2 n2 hxn2 => ?_
 refine xB (decide (xn2<0)) (fun h3 => ?_) (fun h3 => ?_)
 ·skip
  replace h3:=decT h3
  exact xR ({b:=co==1,T:=T}) (by have hm:=hxn2.1 (by assumption); simp [createM,hm])
 ·skip
  replace h3:=decF h3
  refine xA ?_ ?_
  ·skip
   refine xMg 1 (mt) (T) (evT) kI (ke) (false,PRow.nil) true ?_
   refine xN fun b4 => ?_
   refine xN fun b5 => ?_
   refine xMl 1 (mt) (T) ekI evT ?_
   refine xB (co==0) (fun h6 => ?_) (fun h6 => ?_)
   ·skip
    replace h6:=decT h6
    refine xB ((kget T ke).isSome) (fun h7 => ?_) (fun h7 => ?_)
    ·skip
     exact xR ({b:=false,T:=T}) (by have hm:=may_of hxn2 (by assumption); simp [createM,hm, *])
    ·skip
     refine xB (↑(List.length T)==c.topics) (fun h8 => ?_) (fun h8 => ?_)
     ·skip
      replace h8:=decT h8
      exact xR ({b:=false,T:=T}) (by have hm:=may_of hxn2 (by assumption); simp [createM,hm, *])
     ·skip
      replace h8:=decF h8
      refine xMs 1 (mt) (T) (evT) kI (ke) (la,PRow.nil) ?_
      exact xR ({b:=true,T:=kset T ke (la,PRow.nil)}) (by have hm:=may_of hxn2 (by assumption); simp [createM,hm, *])
   ·skip
    replace h6:=decF h6
    refine xB (co==14) (fun h9 => ?_) (fun h9 => ?_)
    ·skip
     replace h9:=decT h9
     exact xR ({b:=(kget T ke).isSome,T:=T}) (by have hm:=may_of hxn2 (by assumption); simp [createM,hm, *])
    ·skip
     replace h9:=decF h9
     refine xB (co==15) (fun h10 => ?_) (fun h10 => ?_)
     ·skip
      replace h10:=decT h10
      refine xB (!(kget T ke).isSome) (fun h11 => ?_) (fun h11 => ?_)
      ·skip
       replace h11:=ntT h11
       exact xR ({b := ↑(List.length T)==c.topics,T:=T}) (by have hm:=may_of hxn2 (by assumption); simp [createM,hm, *])
      ·skip
       replace h11:=ntF h11
       exact xR ({b:=false,T:=T}) (by have hm:=may_of hxn2 (by assumption); simp [createM,hm, *])
     ·skip
      replace h10:=decF h10
      exact xR ({b:=co==17,T:=T}) (by have hm:=may_of hxn2 (by assumption); simp [createM,hm, *])
  ·skip
   refine xN fun b12 => ?_
   refine xMg 1 (mt) (T) (evT) kI (ke) (false,PRow.nil) true ?_
   refine xN fun b13 => ?_
   refine xMl 1 (mt) (T) ekI evT ?_
   refine xB (co==0) (fun h14 => ?_) (fun h14 => ?_)
   ·skip
    replace h14:=decT h14
    refine xB ((kget T ke).isSome) (fun h15 => ?_) (fun h15 => ?_)
    ·skip
     exact xR ({b:=false,T:=T}) (by have hm:=may_of hxn2 (by assumption); simp [createM,hm, *])
    ·skip
     refine xB (↑(List.length T)==c.topics) (fun h16 => ?_) (fun h16 => ?_)
     ·skip
      replace h16:=decT h16
      exact xR ({b:=false,T:=T}) (by have hm:=may_of hxn2 (by assumption); simp [createM,hm, *])
     ·skip
      replace h16:=decF h16
      refine xMs 1 (mt) (T) (evT) kI (ke) (la,PRow.nil) ?_
      exact xR ({b:=true,T:=kset T ke (la,PRow.nil)}) (by have hm:=may_of hxn2 (by assumption); simp [createM,hm, *])
   ·skip
    replace h14:=decF h14
    refine xB (co==14) (fun h17 => ?_) (fun h17 => ?_)
    ·skip
     replace h17:=decT h17
     exact xR ({b:=(kget T ke).isSome,T:=T}) (by have hm:=may_of hxn2 (by assumption); simp [createM,hm, *])
    ·skip
     replace h17:=decF h17
     refine xB (co==15) (fun h18 => ?_) (fun h18 => ?_)
     ·skip
      replace h18:=decT h18
      refine xB (!(kget T ke).isSome) (fun h19 => ?_) (fun h19 => ?_)
      ·skip
       replace h19:=ntT h19
       exact xR ({b := ↑(List.length T)==c.topics,T:=T}) (by have hm:=may_of hxn2 (by assumption); simp [createM,hm, *])
      ·skip
       replace h19:=ntF h19
       exact xR ({b:=false,T:=T}) (by have hm:=may_of hxn2 (by assumption); simp [createM,hm, *])
     ·skip
      replace h18:=decF h18
      exact xR ({b:=co==17,T:=T}) (by have hm:=may_of hxn2 (by assumption); simp [createM,hm, *])
end Go.Proofs.YthijdhenekmojaaGreatDoor
/- The model: what is published. -/
set_option linter.unusedSimpArgs false
set_option maxRecDepth 100000
set_option maxHeartbeats 0
namespace Go.Proofs.YthijdhenekmojaaGreatDoor
open Go.Sx
def fitT(c:Cfg)(lg:Bool)(n:Int): Bool:=if lg=true then decide (fitsC c n≥0) else decide (n≤c.small)
theorem t_mfits(c:Cfg)(hc:c.Ok)(sv tv hv wv:Value)(lg:Bool)(n:Int): Ct Tryz.prog 58 (sB [.s (.p 0 0),.g [.bo lg,.o wv],.s (.i .i64 n)] [.pts 0 (cfgS c++[.o sv,.o tv,.o hv]) 81] 1 (fitT c lg n) [.pts 0 (cfgS c++[.o sv,.o tv,.o hv]) 81]):=by
 refine cX 23 xaI Tryz.func58 fun g F => ?_
 refine xN fun b1 => ?_
 refine xB (lg) (fun h2 => ?_) (fun h2 => ?_)
 ·skip
  refine xC Tryz.call59 (t_fits (c) (by omega) (n)) fun xn3 n3 hxn3 => ?_
  subst hxn3
  exact xR (decide (fitsC c n≥0)) (by simp [fitT, *])
 ·skip
  exact xR (decide (n≤c.small)) (by simp [fitT, *])
structure RQ where
 b:Bool
 T:TopM
 ps:List PRow
def pubK'(c:Cfg)(lg is:Bool)(n co:Int): Bool:=decide (co=0)&&(is&&fitT c lg n)
def pubB'(c:Cfg)(lg is:Bool)(n co:Int): Bool:=
 if co=0 then is&&fitT c lg n else if co=12 then !is else if co=21 then is && !(is&&fitT c lg n) else decide (co=18∨co=16∨co=17)
def pubR'(c:Cfg)(T:TopM)(ps:List PRow)(lg is:Bool)(ke:Int)(ws:List Int)(co:Int)(x:RQ): Prop:=
 x.b=pubB' c lg is ws.length co∧(if pubK' c lg is ws.length co=true then ∃q:PRow,q.xs=ws∧x.T=kset T ke (lg,q)∧x.ps=ps++[q] else x.T=T∧x.ps=ps)
theorem t_pub(c:Cfg)(hc:c.Ok)(T:TopM)(H:HanM)(ps:List PRow)(mt mh:Nat)(sv wv:Value)(cl ki ke:Int)(la lg is:Bool)(ws:List Int)(m:Nat)(hm:ws.length=m)(hl:ws.length≤1000000)(pa rw rk:Value)(ha co n cm fr to_:Int):
  Ct Tryz.prog 33 (⟨[.s (.p 0 0),.g (dS cl ki ke la (.s 3 m) ha (.o pa) co (.o rw) (.o rk) n cm fr to_),.g [.bo lg,.o wv],.s (.bo is)],[mdl2 c (.o sv) mt mh,topR mt T,hpR mh H ps,.sl 3 (Sx.encI .u64) 0 1 ws 42],4,
   pubR' c T ps lg is ke ws co,fun x=>[.s (.bo x.b)],fun x=>[mdl2 c (.o sv) mt mh,topR mt x.T,hpR mh H x.ps,.sl 3 (Sx.encI .u64) 0 1 ws 42]⟩:Sp RQ):=by
 subst hm
 refine cX 58 xaI Tryz.func33 fun g F => ?_
 refine xN fun b1 => ?_
 refine xN fun b2 => ?_
 refine xB (is) (fun h3 => ?_) (fun h3 => ?_)
 ·skip
  refine xC Tryz.call58 (t_mfits (c) (by omega) (SV.v g (SV.o sv)) (SV.v g (SV.mb 1 mt)) (SV.v g (SV.mb 2 mh)) (SV.v g (SV.o wv)) (lg) (↑ws.length)) fun xn5 n5 hxn5 => ?_
  subst hxn5
  refine xB (co==0) (fun h6 => ?_) (fun h6 => ?_)
  ·skip
   replace h6:=decT h6
   refine xB (fitT c lg ↑ws.length) (fun h7 => ?_) (fun h7 => ?_)
   ·skip
    refine xC Tryz.call46 (t_cloneS (ws) (ws.length) (by omega) (by omega)) fun xn8 n8 hxn8 => ?_
    refine xMs 0 (mt) (T) (evT) kI (ke) (lg,⟨(n8 1).a,(n8 1).c,ws,xn8⟩) ?_
    refine xEnd [1,6] [.res (HP 42 mh (H) (ps)),PRow.ent 42 ⟨(n8 1).a,(n8 1).c,ws,xn8⟩] 2 (HP 42 mh (H) (ps++[⟨(n8 1).a,(n8 1).c,ws,xn8⟩])) (hp_add [⟨(n8 1).a,(n8 1).c,ws,xn8⟩]) ?_
    exact xR ({b:=true,T:=kset T ke (lg,{a:=(n8 1).a,c:=(n8 1).c,xs:=ws,r:=xn8}),ps:=ps++[{a:=(n8 1).a,c:=(n8 1).c,xs:=ws,r:=xn8}]}) (by simp [pubR',pubB',pubK', *])
   ·skip
    exact xR ({b:=false,T:=T,ps:=ps}) (by simp [pubR',pubB',pubK', *])
  ·skip
   replace h6:=decF h6
   refine xB (co==12) (fun h9 => ?_) (fun h9 => ?_)
   ·skip
    replace h9:=decT h9
    exact xR ({b := !is,T:=T,ps:=ps}) (by simp [pubR',pubB',pubK', *])
   ·skip
    replace h9:=decF h9
    refine xB (co==21) (fun h10 => ?_) (fun h10 => ?_)
    ·skip
     replace h10:=decT h10
     refine xT (is) (by assumption) ?_
     exact xR ({b := !fitT c lg ↑ws.length,T:=T,ps:=ps}) (by simp [pubR',pubB',pubK', *])
    ·skip
     replace h10:=decF h10
     refine xB (co==18) (fun h11 => ?_) (fun h11 => ?_)
     ·skip
      replace h11:=decT h11
      exact xR ({b:=true,T:=T,ps:=ps}) (by simp [pubR',pubB',pubK', *])
     ·skip
      replace h11:=decF h11
      refine xB (co==16) (fun h12 => ?_) (fun h12 => ?_)
      ·skip
       replace h12:=decT h12
       exact xR ({b:=true,T:=T,ps:=ps}) (by simp [pubR',pubB',pubK', *])
      ·skip
       replace h12:=decF h12
       refine xB (co==17) (fun h13 => ?_) (fun h13 => ?_)
       ·skip
        replace h13:=decT h13
        exact xR ({b:=true,T:=T,ps:=ps}) (by simp [pubR',pubB',pubK', *])
       ·skip
        replace h13:=decF h13
        exact xR ({b:=false,T:=T,ps:=ps}) (by simp [pubR',pubB',pubK', *])
 ·skip
  refine xB (co==0) (fun h14 => ?_) (fun h14 => ?_)
  ·skip
   replace h14:=decT h14
   exact xR ({b:=false,T:=T,ps:=ps}) (by simp [pubR',pubB',pubK', *])
  ·skip
   replace h14:=decF h14
   refine xB (co==12) (fun h15 => ?_) (fun h15 => ?_)
   ·skip
    replace h15:=decT h15
    exact xR ({b := !is,T:=T,ps:=ps}) (by simp [pubR',pubB',pubK', *])
   ·skip
    replace h15:=decF h15
    refine xB (co==21) (fun h16 => ?_) (fun h16 => ?_)
    ·skip
     replace h16:=decT h16
     refine xF (is) (by assumption) ?_
     exact xR ({b:=false,T:=T,ps:=ps}) (by simp [pubR',pubB',pubK', *])
    ·skip
     replace h16:=decF h16
     refine xB (co==18) (fun h17 => ?_) (fun h17 => ?_)
     ·skip
      replace h17:=decT h17
      exact xR ({b:=true,T:=T,ps:=ps}) (by simp [pubR',pubB',pubK', *])
     ·skip
      replace h17:=decF h17
      refine xB (co==16) (fun h18 => ?_) (fun h18 => ?_)
      ·skip
       replace h18:=decT h18
       exact xR ({b:=true,T:=T,ps:=ps}) (by simp [pubR',pubB',pubK', *])
      ·skip
       replace h18:=decF h18
       refine xB (co==17) (fun h19 => ?_) (fun h19 => ?_)
       ·skip
        replace h19:=decT h19
        exact xR ({b:=true,T:=T,ps:=ps}) (by simp [pubR',pubB',pubK', *])
       ·skip
        replace h19:=decF h19
        exact xR ({b:=false,T:=T,ps:=ps}) (by simp [pubR',pubB',pubK', *])
end Go.Proofs.YthijdhenekmojaaGreatDoor

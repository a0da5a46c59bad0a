/- Walks: what functions of the program and of the document compute, part 1 of those on which ModelNil rests. -/
import Derived.Test.YthijdhenekmojaaGreatDoorMdA
import Derived.Test.YthijdhenekmojaaGreatDoorChecked

set_option linter.unusedVariables false
set_option linter.unusedSimpArgs false
/- Which functions are entered. -/
namespace Go.Proofs.YthijdhenekmojaaGreatDoor
open Go.Sx
def xx: Cx:=⟨[3,4,5,6,7,8,9,10,11,12,13,14,15,16,17,18,19,20,21,22,23,24,25,26,27,28,29,30,31,32,33,34,35,36,37,38,39,40,41,42,43,44,45,46,47,48,49,50,51,52,53,54,55,56,57,58,59,60,61,62,63,64,65,66,67,68,69,70,71,72,73,74,75,76,77,78,79,80,81,82,83,84,85,86,87,88,89,90,91,92,93,94,95,96,100,101,102,103,104,105,106,107,108,109,110,111,112,113,114,118,119,120,121,122,123,124,161],[],[],[3,4,5,6,7,8,9,10,11,12,13,14,15,16,17,18,19,20,21,22,23,24,25,26,27,28,29,30,31,32,33,34,35,36,37,38,39,40,41,42,43,44,45,46,47,48,49,50,51,52,53,54,55,56,57,58,59,60,61,62,63,64,65,66,67,68,69,70,71,72,73,74,75,76,77,78,79,80,81,82,83,84,85,86,87,88,89,90,91,92,93,94,95,96,100,101,102,103,104,105,106,107,108,109,110,111,112,113,114,118,119,120,121,122,123,124,161]⟩
theorem xxI: Inl Tryz.prog xx:=inl_ok ⟨Tryz.call3,Tryz.call4,Tryz.call5,Tryz.call6,Tryz.call7,Tryz.call8,Tryz.call9,Tryz.call10,Tryz.call11,Tryz.call12,Tryz.call13,Tryz.call14,Tryz.call15,Tryz.call16,Tryz.call17,Tryz.call18,Tryz.call19,Tryz.call20,Tryz.call21,Tryz.call22,Tryz.call23,Tryz.call24,Tryz.call25,Tryz.call26,Tryz.call27,Tryz.call28,Tryz.call29,Tryz.call30,Tryz.call31,Tryz.call32,Tryz.call33,Tryz.call34,Tryz.call35,Tryz.call36,Tryz.call37,Tryz.call38,Tryz.call39,Tryz.call40,Tryz.call41,Tryz.call42,Tryz.call43,Tryz.call44,Tryz.call45,Tryz.call46,Tryz.call47,Tryz.call48,Tryz.call49,Tryz.call50,Tryz.call51,Tryz.call52,Tryz.call53,Tryz.call54,Tryz.call55,Tryz.call56,Tryz.call57,Tryz.call58,Tryz.call59,Tryz.call60,Tryz.call61,Tryz.call62,Tryz.call63,Tryz.call64,Tryz.call65,Tryz.call66,Tryz.call67,Tryz.call68,Tryz.call69,Tryz.call70,Tryz.call71,Tryz.call72,Tryz.call73,Tryz.call74,Tryz.call75,Tryz.call76,Tryz.call77,Tryz.call78,Tryz.call79,Tryz.call80,Tryz.call81,Tryz.call82,Tryz.call83,Tryz.call84,Tryz.call85,Tryz.call86,Tryz.call87,Tryz.call88,Tryz.call89,Tryz.call90,Tryz.call91,Tryz.call92,Tryz.call93,Tryz.call94,Tryz.call95,Tryz.call96,Tryz.call100,Tryz.call101,Tryz.call102,Tryz.call103,Tryz.call104,Tryz.call105,Tryz.call106,Tryz.call107,Tryz.call108,Tryz.call109,Tryz.call110,Tryz.call111,Tryz.call112,Tryz.call113,Tryz.call114,Tryz.call118,Tryz.call119,Tryz.call120,Tryz.call121,Tryz.call122,Tryz.call123,Tryz.call124,Tryz.call161,trivial⟩ trivial
def xa: Cx:=⟨[3,4,5,6,10,11,12,14,15,17,22,23,24,25,27,28,29,30,32,38,39,40,41,42,43,45,47,48,49,50,51,52,53,54,55,56,61,62,63,64,66,67,68,69,70,71,72,73,74,75,76,77,78,79,80,81,82,83,84,85,86,87,88,89,90,91,92,93,94,95,96,100,101,102,103,104,105,106,107,108,109,110,111,112,113,114,118,119,120,121,122,123,124,161],[],[],[3,4,5,6,10,11,12,14,15,17,22,23,24,25,27,28,29,30,32,38,39,40,41,42,43,45,47,48,49,50,51,52,53,54,55,56,61,62,63,64,66,67,68,69,70,71,72,73,74,75,76,77,78,79,80,81,82,83,84,85,86,87,88,89,90,91,92,93,94,95,96,100,101,102,103,104,105,106,107,108,109,110,111,112,113,114,118,119,120,121,122,123,124,161]⟩
theorem xaI: Inl Tryz.prog xa:=inl_ok ⟨Tryz.call3,Tryz.call4,Tryz.call5,Tryz.call6,Tryz.call10,Tryz.call11,Tryz.call12,Tryz.call14,Tryz.call15,Tryz.call17,Tryz.call22,Tryz.call23,Tryz.call24,Tryz.call25,Tryz.call27,Tryz.call28,Tryz.call29,Tryz.call30,Tryz.call32,Tryz.call38,Tryz.call39,Tryz.call40,Tryz.call41,Tryz.call42,Tryz.call43,Tryz.call45,Tryz.call47,Tryz.call48,Tryz.call49,Tryz.call50,Tryz.call51,Tryz.call52,Tryz.call53,Tryz.call54,Tryz.call55,Tryz.call56,Tryz.call61,Tryz.call62,Tryz.call63,Tryz.call64,Tryz.call66,Tryz.call67,Tryz.call68,Tryz.call69,Tryz.call70,Tryz.call71,Tryz.call72,Tryz.call73,Tryz.call74,Tryz.call75,Tryz.call76,Tryz.call77,Tryz.call78,Tryz.call79,Tryz.call80,Tryz.call81,Tryz.call82,Tryz.call83,Tryz.call84,Tryz.call85,Tryz.call86,Tryz.call87,Tryz.call88,Tryz.call89,Tryz.call90,Tryz.call91,Tryz.call92,Tryz.call93,Tryz.call94,Tryz.call95,Tryz.call96,Tryz.call100,Tryz.call101,Tryz.call102,Tryz.call103,Tryz.call104,Tryz.call105,Tryz.call106,Tryz.call107,Tryz.call108,Tryz.call109,Tryz.call110,Tryz.call111,Tryz.call112,Tryz.call113,Tryz.call114,Tryz.call118,Tryz.call119,Tryz.call120,Tryz.call121,Tryz.call122,Tryz.call123,Tryz.call124,Tryz.call161,trivial⟩ trivial
def xb: Cx:=⟨[3,4,5,6,7,8,9,10,11,12,14,15,17,18,19,20,21,22,23,24,25,27,28,29,30,32,33,34,35,38,39,40,41,42,43,45,47,48,49,50,51,52,53,54,55,56,58,61,62,63,64,66,67,68,69,70,71,72,73,74,75,76,77,78,79,80,81,82,83,84,85,86,87,88,89,90,91,92,93,94,95,96,100,101,102,103,104,105,106,107,108,109,110,111,112,113,114,118,119,120,121,122,123,124,161],[],[],[3,4,5,6,7,8,9,10,11,12,14,15,17,18,19,20,21,22,23,24,25,27,28,29,30,32,33,34,35,38,39,40,41,42,43,45,47,48,49,50,51,52,53,54,55,56,58,61,62,63,64,66,67,68,69,70,71,72,73,74,75,76,77,78,79,80,81,82,83,84,85,86,87,88,89,90,91,92,93,94,95,96,100,101,102,103,104,105,106,107,108,109,110,111,112,113,114,118,119,120,121,122,123,124,161]⟩
theorem xbI: Inl Tryz.prog xb:=inl_ok ⟨Tryz.call3,Tryz.call4,Tryz.call5,Tryz.call6,Tryz.call7,Tryz.call8,Tryz.call9,Tryz.call10,Tryz.call11,Tryz.call12,Tryz.call14,Tryz.call15,Tryz.call17,Tryz.call18,Tryz.call19,Tryz.call20,Tryz.call21,Tryz.call22,Tryz.call23,Tryz.call24,Tryz.call25,Tryz.call27,Tryz.call28,Tryz.call29,Tryz.call30,Tryz.call32,Tryz.call33,Tryz.call34,Tryz.call35,Tryz.call38,Tryz.call39,Tryz.call40,Tryz.call41,Tryz.call42,Tryz.call43,Tryz.call45,Tryz.call47,Tryz.call48,Tryz.call49,Tryz.call50,Tryz.call51,Tryz.call52,Tryz.call53,Tryz.call54,Tryz.call55,Tryz.call56,Tryz.call58,Tryz.call61,Tryz.call62,Tryz.call63,Tryz.call64,Tryz.call66,Tryz.call67,Tryz.call68,Tryz.call69,Tryz.call70,Tryz.call71,Tryz.call72,Tryz.call73,Tryz.call74,Tryz.call75,Tryz.call76,Tryz.call77,Tryz.call78,Tryz.call79,Tryz.call80,Tryz.call81,Tryz.call82,Tryz.call83,Tryz.call84,Tryz.call85,Tryz.call86,Tryz.call87,Tryz.call88,Tryz.call89,Tryz.call90,Tryz.call91,Tryz.call92,Tryz.call93,Tryz.call94,Tryz.call95,Tryz.call96,Tryz.call100,Tryz.call101,Tryz.call102,Tryz.call103,Tryz.call104,Tryz.call105,Tryz.call106,Tryz.call107,Tryz.call108,Tryz.call109,Tryz.call110,Tryz.call111,Tryz.call112,Tryz.call113,Tryz.call114,Tryz.call118,Tryz.call119,Tryz.call120,Tryz.call121,Tryz.call122,Tryz.call123,Tryz.call124,Tryz.call161,trivial⟩ trivial
end Go.Proofs.YthijdhenekmojaaGreatDoor
/- Contracts of the config's and the rows' functions. -/
set_option maxRecDepth 100000
set_option maxHeartbeats 0
namespace Go.Proofs.YthijdhenekmojaaGreatDoor
open Go.Sx
abbrev sU(args:List SA)(pre:List SE)(n:Nat)(ret:List SA)(post:List SE): Sp Unit:=⟨args,pre,n,fun _=>True,fun _=>ret,fun _=>post⟩
abbrev sB(args:List SA)(pre:List SE)(n:Nat)(b:Bool)(post:List SE): Sp Bool:=⟨args,pre,n,fun x=>x=b,fun x=>[.s (.bo x)],fun _=>post⟩
abbrev cfgS(c:Cfg): List SV:=[.i .i64 c.topics,.i .i64 c.small,.i .i64 c.slots,.i .i64 c.clients,.i .i64 c.s0,.i .i64 c.n0,.i .i64 c.s1,.i .i64 c.n1,.i .i64 c.retry]
theorem t_plan(c:Cfg)(hc:c.Ok): Ct Tryz.prog 26 (sU [.g (cfgS c)] [] 0 [.s .ni] []):=by
 simp only [Cfg.Ok] at hc
 refine cX 7 xxI Tryz.func26 fun g F => ?_
 refine xN fun b1 => ?_
 refine xN fun b2 => ?_
 refine xN fun b3 => ?_
 refine xN fun b4 => ?_
 refine xN fun b5 => ?_
 refine xN fun b6 => ?_
 refine xF (decide (c.topics<1)) (by first | (simp; done) | (simp; omega)) ?_
 refine xF (decide (c.topics>8)) (by first | (simp; done) | (simp; omega)) ?_
 refine xF (decide (c.small<4)) (by first | (simp; done) | (simp; omega)) ?_
 refine xF (decide (c.small>32)) (by first | (simp; done) | (simp; omega)) ?_
 refine xF (decide (c.slots<1)) (by first | (simp; done) | (simp; omega)) ?_
 refine xF (decide (c.slots>8)) (by first | (simp; done) | (simp; omega)) ?_
 refine xF (decide (c.clients<1)) (by first | (simp; done) | (simp; omega)) ?_
 refine xF (decide (c.clients>8)) (by first | (simp; done) | (simp; omega)) ?_
 refine xF (decide (c.retry<1)) (by first | (simp; done) | (simp; omega)) ?_
 refine xF (decide (c.retry>8)) (by first | (simp; done) | (simp; omega)) ?_
 refine xF (decide (c.s0<4)) (by first | (simp; done) | (simp; omega)) ?_
 refine xF (decide (c.s0>96)) (by first | (simp; done) | (simp; omega)) ?_
 refine xF (decide (c.n0<0)) (by first | (simp; done) | (simp; omega)) ?_
 refine xF (decide (c.n0>12)) (by first | (simp; done) | (simp; omega)) ?_
 refine xF (decide (c.s1<4)) (by first | (simp; done) | (simp; omega)) ?_
 refine xF (decide (c.s1>96)) (by first | (simp; done) | (simp; omega)) ?_
 refine xF (decide (c.n1<0)) (by first | (simp; done) | (simp; omega)) ?_
 refine xF (decide (c.n1>12)) (by first | (simp; done) | (simp; omega)) ?_
 refine xF (!decide (c.s1>c.s0)) (by first | (simp; done) | (simp; omega)) ?_
 exact xR () trivial
def mayB(k:Int): Bool:=decide (1≤k∧k≤2147483647)
theorem t_may(k:Int): Ct Tryz.prog 56 (sB [.s (.i .i64 k)] [] 0 (mayB k) []):=by
 refine cX 9 xxI Tryz.func56 fun g F => ?_
 refine xB (decide (k≥1)) (fun h1 => ?_) (fun h1 => ?_)
 ·skip
  replace h1:=decT h1
  exact xR (decide (k≤2147483647)) (by simp only [mayB]; simp; omega)
 ·skip
  replace h1:=decF h1
  exact xR (false) (by simp only [mayB]; simp; omega)
end Go.Proofs.YthijdhenekmojaaGreatDoor
/- Where a key's search starts; which class words fit. -/
set_option maxRecDepth 100000
set_option maxHeartbeats 0
namespace Go.Proofs.YthijdhenekmojaaGreatDoor
open Go.Sx
abbrev sI(args:List SA)(pre:List SE)(n:Nat)(fact:Int→Prop)(post:List SE): Sp Int:=⟨args,pre,n,fact,fun x=>[.s (.i .i64 x)],fun _=>post⟩
abbrev sW(args:List SA)(pre:List SE)(n:Nat)(fact:Int→Prop)(post:List SE): Sp Int:=⟨args,pre,n,fact,fun x=>[.s (.i .u64 x)],fun _=>post⟩
theorem wr64(r:Int): 0≤IntKind.u64.wrap r∧IntKind.u64.wrap r≤18446744073709551615:=by rw [wrapU64]; omega
theorem wr_id{x:Int}(h:0≤x∧x≤18446744073709551615): IntKind.u64.wrap x=x:=by rw [wrapU64]; omega
theorem t_mix(x:Int)(hx:InK .u64 x): Ct Tryz.prog 57 (sW [.s (.i .u64 x)] [] 0 (fun y=>0≤y∧y≤18446744073709551615) []):=by
 refine cX 17 xaI Tryz.func57 fun g F => ?_
 refine xO ((0:Int)≤(30:Int)) (by omega) ?_
 refine xO ((0:Int)≤(27:Int)) (by omega) ?_
 refine xO ((0:Int)≤(31:Int)) (by omega) ?_
 exact xR (IntKind.u64.wrap ↑(BitVec.ofInt IntKind.u64.bits (IntKind.u64.wrap (IntKind.u64.wrap ↑(BitVec.ofInt IntKind.u64.bits (IntKind.u64.wrap (IntKind.u64.wrap ↑(BitVec.ofInt IntKind.u64.bits x ^^^ BitVec.ofInt IntKind.u64.bits (bShr IntKind.u64 x 30)).toNat*13787848793156543929)) ^^^ BitVec.ofInt IntKind.u64.bits (bShr IntKind.u64 (IntKind.u64.wrap (IntKind.u64.wrap ↑(BitVec.ofInt IntKind.u64.bits x ^^^ BitVec.ofInt IntKind.u64.bits (bShr IntKind.u64 x 30)).toNat*13787848793156543929)) 27)).toNat*10723151780598845931)) ^^^ BitVec.ofInt IntKind.u64.bits (bShr IntKind.u64 (IntKind.u64.wrap (IntKind.u64.wrap ↑(BitVec.ofInt IntKind.u64.bits (IntKind.u64.wrap (IntKind.u64.wrap ↑(BitVec.ofInt IntKind.u64.bits x ^^^ BitVec.ofInt IntKind.u64.bits (bShr IntKind.u64 x 30)).toNat*13787848793156543929)) ^^^ BitVec.ofInt IntKind.u64.bits (bShr IntKind.u64 (IntKind.u64.wrap (IntKind.u64.wrap ↑(BitVec.ofInt IntKind.u64.bits x ^^^ BitVec.ofInt IntKind.u64.bits (bShr IntKind.u64 x 30)).toNat*13787848793156543929)) 27)).toNat*10723151780598845931)) 31)).toNat) (wr64 _)
theorem tm_rng{x t:Int}(hx:0≤x∧x≤18446744073709551615)(ht:1≤t∧t≤8): 0≤x.tmod (IntKind.u64.wrap t)∧x.tmod (IntKind.u64.wrap t)<8:=by
 rw [wr_id (by omega)]
 have h1:=Int.tmod_nonneg t hx.1
 have h2:=Int.tmod_lt_of_pos x (show 0<t by omega)
 omega
theorem tm_in{x t:Int}(hx:0≤x∧x≤18446744073709551615)(ht:1≤t∧t≤8): InK .i64 (x.tmod (IntKind.u64.wrap t)):=by
 have:=tm_rng hx ht
 simp only [InK]; omega
theorem t_start(c:Cfg)(hc:c.Ok)(k:Int): Ct Tryz.prog 31 (sI [.g (cfgS c),.s (.i .i64 k)] [] 0 (fun e=>e<0↔mayB k=false) []):=by
 have hc':=hc
 simp only [Cfg.Ok] at hc
 refine cX 21 xaI Tryz.func31 fun g F => ?_
 refine xN fun b1 => ?_
 refine xC Tryz.call26 (t_plan (c) (by assumption)) fun _ n2 _ => ?_
 refine xB (decide (k≥1)) (fun h3 => ?_) (fun h3 => ?_)
 ·skip
  replace h3:=decT h3
  refine xB (!decide (k≤2147483647)) (fun h4 => ?_) (fun h4 => ?_)
  ·skip
   replace h4:=ntT h4
   replace h4:=decF h4
   exact xR (-1) (by simp [mayB]; omega)
  ·skip
   replace h4:=ntF h4
   replace h4:=decT h4
   refine xC Tryz.call57 (t_mix (IntKind.u64.wrap k) (wr64 _)) fun xn6 n6 hxn6 => ?_
   refine xO (IntKind.u64.wrap c.topics≠0) (by rw [wr_id (by omega)]; omega) ?_
   refine xO (InK IntKind.i64 (xn6.tmod (IntKind.u64.wrap c.topics))) (tm_in hxn6 (by omega)) ?_
   exact xR (xn6.tmod (IntKind.u64.wrap c.topics)) (by have:=(tm_rng hxn6 (show 1≤c.topics∧c.topics≤8 by omega)).1; simp [mayB]; omega)
 ·skip
  replace h3:=decF h3
  exact xR (-1) (by simp [mayB]; omega)
def fitsC(c:Cfg)(n:Int): Int:=if n<1 then -1 else if c.s0≥n then 0 else if c.s1≥n then 1 else -1
theorem t_fits(c:Cfg)(hc:c.Ok)(n:Int): Ct Tryz.prog 59 (sI [.g (cfgS c),.s (.i .i64 n)] [] 0 (fun e=>e=fitsC c n) []):=by
 refine cX 16 xaI Tryz.func59 fun g F => ?_
 refine xN fun b1 => ?_
 refine xN fun b2 => ?_
 refine xC Tryz.call26 (t_plan (c) (by assumption)) fun _ n3 _ => ?_
 refine xB (decide (n<1)) (fun h4 => ?_) (fun h4 => ?_)
 ·skip
  replace h4:=decT h4
  exact xR (-1) (by unfold fitsC; omega)
 ·skip
  replace h4:=decF h4
  refine xT (decide ((0:Int) < ↑((2:Nat)-(0:Nat)))) rfl ?_
  refine xN fun b5 => ?_
  refine xB (decide (c.s0≥n)) (fun h6 => ?_) (fun h6 => ?_)
  ·skip
   replace h6:=decT h6
   exact xR (0) (by unfold fitsC; omega)
  ·skip
   replace h6:=decF h6
   refine xT (decide (IntKind.i64.wrap ((0:Int)+(1:Int)) < ↑((2:Nat)-(0:Nat)))) rfl ?_
   refine xN fun b7 => ?_
   refine xB (decide (c.s1≥n)) (fun h8 => ?_) (fun h8 => ?_)
   ·skip
    replace h8:=decT h8
    exact xR (IntKind.i64.wrap (0+1)) (by show(1:Int) = _; unfold fitsC; omega)
   ·skip
    replace h8:=decF h8
    refine xF (decide (IntKind.i64.wrap (IntKind.i64.wrap ((0:Int)+(1:Int))+(1:Int)) < ↑((2:Nat)-(0:Nat)))) rfl ?_
    exact xR (-1) (by unfold fitsC; omega)
end Go.Proofs.YthijdhenekmojaaGreatDoor
/- Rows compared: one against the first part of another. -/
set_option maxRecDepth 100000
set_option maxHeartbeats 0
namespace Go.Proofs.YthijdhenekmojaaGreatDoor
open Go.Sx
theorem take_step{xs ys:List Int}{i:Nat}(h:xs.take i=ys.take i)(hx:i<xs.length)(hy:i<ys.length)(he:xs.getD i 0=ys.getD i 0): xs.take (i+1)=ys.take (i+1):=by
 rw [List.take_add_one,List.take_add_one,h]
 simp only [List.getD_eq_getElem?_getD,List.getElem?_eq_getElem hx,List.getElem?_eq_getElem hy,Option.getD_some] at he
 rw [List.getElem?_eq_getElem hx,List.getElem?_eq_getElem hy,he]
theorem take_ne{xs ys:List Int}{i n:Nat}(hn:n=ys.length)(hx:i<n)(he:xs.getD i 0≠ys.getD i 0): xs.take n≠ys:=by
 intro h
 apply he
 rw [←h,List.getD_eq_getElem?_getD,List.getD_eq_getElem?_getD,List.getElem?_take_of_lt hx]
theorem t_equal(xs ys:List Int)(z1:Sx.Rest)(n m:Nat)(hn:n≤xs.length)(hm:ys.length=m)(hl:xs.length≤1000000): Ct Tryz.prog 60 (sB [.s (.s 0 n),.s (.s 1 m)] [.sl 0 (encI .u64) 0 1 xs 42,.rd 1 (encI .u64) 0 1 ys 42 z1] 2 (decide (xs.take n=ys)) [.sl 0 (encI .u64) 0 1 xs 42,.rd 1 (encI .u64) 0 1 ys 42 z1]):=by
 subst hm
 refine cX 26 xaI Tryz.func60 fun g F => ?_
 refine xB ((↑n:Int) != (↑ys.length:Int)) (fun h1 => ?_) (fun h1 => ?_)
 ·skip
  replace h1:=ntT h1
  replace h1:=decF h1
  exact xR (false) ((decide_eq_false (fun h=>by have:=congrArg List.length h; simp at this; omega)).symm)
 ·skip
  replace h1:=ntF h1
  replace h1:=decT h1
  refine xLoop xaI Tryz.func60 [0,1,0,1,1] [.b 0,.c [1,1,1]] [0,1,12,13] [0,1] (fun i:Nat=>[(0,.slice (g 0).a n (g 0).c),(1,.slice (g 1).a ys.length (g 1).c),(12,.int .i64 n),(13,.int .i64 i)]) (fun _=>[(0,.i 0),(1,.i 1)]) (fun _=>[.sl (g 0).a (g 0).c (encI .u64) 0 1 xs 42,.rd (g 1).a (g 1).c (encI .u64) 0 1 ys 42 z1]) (fun _=>⟨[(0,[]),(1,[])],2⟩) (fun i=>i≤n∧xs.take i=ys.take i) (fun i=>n-i) 0 ⟨by omega,rfl⟩ (fun i J hI hJ => ?_)
  refine xB (decide ((↑i:Int)<(↑n:Int))) (fun h2 => ?_) (fun h2 => ?_)
  ·skip
   replace h2:=decT h2
   refine xO (n≤xs.length∧(0:Int)≤(↑i:Int)∧(↑i:Int)<(↑n:Int)) ⟨by omega,by omega,by omega⟩ ?_
   refine xO ((↑i:Int).toNat<xs.length) (by omega) ?_
   refine xO (ys.length≤ys.length∧(0:Int)≤(↑i:Int)∧(↑i:Int)<(↑ys.length:Int)) ⟨by omega,by omega,by omega⟩ ?_
   refine xO ((↑i:Int).toNat<ys.length) (by omega) ?_
   refine xB (xs.getD (↑i:Int).toNat (0:Int) != ys.getD (↑i:Int).toNat (0:Int)) (fun h3 => ?_) (fun h3 => ?_)
   ·skip
    replace h3:=ntT h3
    replace h3:=decF h3
    exact xR (false) ((decide_eq_false (take_ne (i:=i) (by omega) (by omega) (by assumption))).symm)
   ·skip
    replace h3:=ntF h3
    replace h3:=decT h3
    refine xO (InK IntKind.i64 (↑i+1)) (by simp only [InK] at *; omega) ?_
    exact xJ hJ (i+1) (by omega) ⟨by omega,take_step hI.2 (by omega) (by omega) (by assumption)⟩
  ·skip
   replace h2:=decF h2
   exact xR (true) ((decide_eq_true (by have hi:i=n:=(by omega); subst hi; rw [hI.2,List.take_of_length_le (by omega)])).symm)
end Go.Proofs.YthijdhenekmojaaGreatDoor
/- Rows that the law makes, and compares. -/
set_option linter.unusedSimpArgs false
set_option maxRecDepth 100000
set_option maxHeartbeats 0
namespace Go.Proofs.YthijdhenekmojaaGreatDoor
open Go.Sx
def xl: Cx:={xa with unroll:=[]}
theorem xlI: Inl Tryz.prog xl:=⟨xaI.1,xaI.2⟩
abbrev sL(args:List SA)(pre:List SE)(n:Nat)(ys:List Int)(post:List Int→List SE): Sp (List Int):=⟨args,pre,n,fun x=>x=ys,fun x=>[.s (.s 1 x.length)],post⟩
theorem t_sameS(xs ys:List Int)(n m:Nat)(hn:xs.length=n)(hm:m≤ys.length)(hl:xs.length≤1000000): Ct Tryz.prog 19 (sB [.s (.s 0 n),.s (.s 1 m)] [.sl 0 (encI .u64) 0 1 xs 42,.sl 1 (encI .u64) 0 1 ys 42] 2 (decide (ys.take m=xs)) [.sl 0 (encI .u64) 0 1 xs 42,.sl 1 (encI .u64) 0 1 ys 42]):=by
 subst hn
 refine cX 26 xlI Tryz.func19 fun g F => ?_
 refine xB ((↑xs.length:Int) != (↑m:Int)) (fun h1 => ?_) (fun h1 => ?_)
 ·skip
  replace h1:=ntT h1
  replace h1:=decF h1
  exact xR (false) ((decide_eq_false (fun h=>by have:=congrArg List.length h; simp at this; omega)).symm)
 ·skip
  replace h1:=ntF h1
  replace h1:=decT h1
  refine xLoop xlI Tryz.func19 [0,1,0,1,1] [.b 0,.c [1,1,1]] [0,1,5] [0,1] (fun i:Nat=>[(0,.slice (g 0).a xs.length (g 0).c),(1,.slice (g 1).a m (g 1).c),(5,.int .i64 i)]) (fun _=>[(0,.i 0),(1,.i 1)]) (fun _=>[.sl (g 0).a (g 0).c (encI .u64) 0 1 xs 42,.sl (g 1).a (g 1).c (encI .u64) 0 1 ys 42]) (fun _=>⟨[(0,[]),(1,[])],2⟩) (fun i=>i≤xs.length∧ys.take i=xs.take i) (fun i=>xs.length-i) 0 ⟨by omega,rfl⟩ (fun i J hI hJ => ?_)
  refine xB (decide ((↑i:Int)<(↑xs.length:Int))) (fun h2 => ?_) (fun h2 => ?_)
  ·skip
   replace h2:=decT h2
   refine xO (xs.length≤xs.length∧(0:Int)≤(↑i:Int)∧(↑i:Int)<(↑xs.length:Int)) (by omega) ?_
   refine xO ((↑i:Int).toNat<xs.length) (by omega) ?_
   refine xO (m≤ys.length∧(0:Int)≤(↑i:Int)∧(↑i:Int)<(↑m:Int)) (by omega) ?_
   refine xO ((↑i:Int).toNat<ys.length) (by omega) ?_
   refine xB (xs.getD (↑i:Int).toNat (0:Int) != ys.getD (↑i:Int).toNat (0:Int)) (fun h3 => ?_) (fun h3 => ?_)
   ·skip
    replace h3:=ntT h3
    replace h3:=decF h3
    exact xR (false) ((decide_eq_false (take_ne (i:=i) (by omega) (by omega) (Ne.symm (by assumption)))).symm)
   ·skip
    replace h3:=ntF h3
    replace h3:=decT h3
    refine xO (InK IntKind.i64 (↑i+1)) (by simp only [InK] at *; omega) ?_
    exact xJ hJ (i+1) (by omega) ⟨by omega,take_step hI.2 (by omega) (by omega) (Eq.symm (by assumption))⟩
  ·skip
   replace h2:=decF h2
   exact xR (true) ((decide_eq_true (by have hi:i=m:=(by omega); subst hi; rw [hI.2,List.take_of_length_le (by omega)])).symm)
theorem t_sameR(xs ys:List Int)(z:Sx.Rest)(n m:Nat)(hn:xs.length=n)(hm:m≤ys.length)(hl:xs.length≤1000000): Ct Tryz.prog 19 (sB [.s (.s 0 n),.s (.s 1 m)] [.rd 0 (encI .u64) 0 1 xs 42 z,.sl 1 (encI .u64) 0 1 ys 42] 2 (decide (ys.take m=xs)) [.rd 0 (encI .u64) 0 1 xs 42 z,.sl 1 (encI .u64) 0 1 ys 42]):=by
 subst hn
 refine cX 26 xlI Tryz.func19 fun g F => ?_
 refine xB ((↑xs.length:Int) != (↑m:Int)) (fun h1 => ?_) (fun h1 => ?_)
 ·skip
  replace h1:=ntT h1
  replace h1:=decF h1
  exact xR (false) ((decide_eq_false (fun h=>by have:=congrArg List.length h; simp at this; omega)).symm)
 ·skip
  replace h1:=ntF h1
  replace h1:=decT h1
  refine xLoop xlI Tryz.func19 [0,1,0,1,1] [.b 0,.c [1,1,1]] [0,1,5] [0,1] (fun i:Nat=>[(0,.slice (g 0).a xs.length (g 0).c),(1,.slice (g 1).a m (g 1).c),(5,.int .i64 i)]) (fun _=>[(0,.i 0),(1,.i 1)]) (fun _=>[.rd (g 0).a (g 0).c (encI .u64) 0 1 xs 42 z,.sl (g 1).a (g 1).c (encI .u64) 0 1 ys 42]) (fun _=>⟨[(0,[]),(1,[])],2⟩) (fun i=>i≤xs.length∧ys.take i=xs.take i) (fun i=>xs.length-i) 0 ⟨by omega,rfl⟩ (fun i J hI hJ => ?_)
  refine xB (decide ((↑i:Int)<(↑xs.length:Int))) (fun h2 => ?_) (fun h2 => ?_)
  ·skip
   replace h2:=decT h2
   refine xO (xs.length≤xs.length∧(0:Int)≤(↑i:Int)∧(↑i:Int)<(↑xs.length:Int)) (by omega) ?_
   refine xO ((↑i:Int).toNat<xs.length) (by omega) ?_
   refine xO (m≤ys.length∧(0:Int)≤(↑i:Int)∧(↑i:Int)<(↑m:Int)) (by omega) ?_
   refine xO ((↑i:Int).toNat<ys.length) (by omega) ?_
   refine xB (xs.getD (↑i:Int).toNat (0:Int) != ys.getD (↑i:Int).toNat (0:Int)) (fun h3 => ?_) (fun h3 => ?_)
   ·skip
    replace h3:=ntT h3
    replace h3:=decF h3
    exact xR (false) ((decide_eq_false (take_ne (i:=i) (by omega) (by omega) (Ne.symm (by assumption)))).symm)
   ·skip
    replace h3:=ntF h3
    replace h3:=decT h3
    refine xO (InK IntKind.i64 (↑i+1)) (by simp only [InK] at *; omega) ?_
    exact xJ hJ (i+1) (by omega) ⟨by omega,take_step hI.2 (by omega) (by omega) (Eq.symm (by assumption))⟩
  ·skip
   replace h2:=decF h2
   exact xR (true) ((decide_eq_true (by have hi:i=m:=(by omega); subst hi; rw [hI.2,List.take_of_length_le (by omega)])).symm)
theorem rep_step{xs:List Int}{more:Int}{ys:List Int}(h:∃k,ys=xs++List.replicate k more∧(k=0∨ys.length≤5))(h5:(ys.length:Int)<5): ∃k,ys++[more]=xs++List.replicate k more∧(k=0∨(ys++[more]).length≤5):=by
 obtain⟨k,rfl,_⟩:=h
 refine⟨k+1,by rw [List.append_assoc,←List.replicate_succ'],.inr ?_⟩
 simp only [List.length_append,List.length_replicate,List.length_cons,List.length_nil] at h5 ⊢
 omega
theorem rep_end{xs:List Int}{more:Int}{ys:List Int}(h:∃k,ys=xs++List.replicate k more∧(k=0∨ys.length≤5))(h5:¬(ys.length:Int)<5): ys=xs++List.replicate (5-xs.length) more:=by
 obtain⟨k,rfl,h⟩:=h
 simp only [List.length_append,List.length_replicate] at h5 h
 have:k=5-xs.length:=by omega
 rw [this]
theorem t_full(xs:List Int)(n:Nat)(hn:xs.length=n)(hl:xs.length≤1000)(more:Int): Ct Tryz.prog 21 (sL [.s (.s 0 n),.s (.i .u64 more)] [.sl 0 (encI .u64) 0 1 xs 42] 1 (xs++List.replicate (5-xs.length) more) fun ys=>[.sl 0 (encI .u64) 0 1 xs 42,.sl 1 (encI .u64) 0 1 ys 42]):=by
 subst hn
 refine cX 17 xlI Tryz.func21 fun g F => ?_
 refine xN fun b1 => ?_
 refine xW0 _ (view_none 1 (b:=b1) .u64 42) ?_ sc_st
 refine xAp 1 (some {block:=b1,off:=0}) (0) (encI .u64) 0 1 ([]) 42 (xs) (.i 1) (oneI _) 8 (.slice (g 0).a (xs).length (g 0).c) (by simp; omega) (fun F=>(src_sl (i:=0) (d:=0) (sz:=1) (t:=42) (by kernel_rfl))) (fun a1_ c1_ => ?_)
 refine xLoop xlI Tryz.func21 [0,0,1,1] [.b 0,.c [1,1,1]] [1,5] [0,1] (fun i:List Int×Option Addr×Nat=>[(1,.int .u64 more),(5,.slice i.2.1 i.1.length i.2.2)]) (fun _=>[(5,.i 1)]) (fun i=>[.sl (g 0).a (g 0).c (encI .u64) 0 1 xs 42,.sl i.2.1 i.2.2 (encI .u64) 0 1 i.1 42]) (fun _=>⟨[(0,[]),(1,[])],2⟩) (fun i=>(∃k,i.1=xs++List.replicate k more∧(k=0∨i.1.length≤5))∧i.1.length≤1000) (fun i=>5-i.1.length) ([]++xs,a1_,c1_) ⟨⟨0,by simp,.inl rfl⟩,by simp; omega⟩ (fun i J hI hJ => ?_)
 refine xB (decide ((↑i.fst.length:Int)<(5:Int))) (fun h2 => ?_) (fun h2 => ?_)
 ·skip
  replace h2:=decT h2
  refine xN fun b3 => ?_
  refine xAp 1 (i.snd.fst) (i.snd.snd) (encI .u64) 0 1 (i.fst) 42 [more] (.i 1) (oneI _) 8 (.slice (some ⟨b3,0,none⟩) 1 1) (by simp; omega) (fun F=>(src_pts (i:=2) (n:=1) (c:=1) (cs:=cellsOf (encI .u64) [more]) (t:=42) (by kernel_rfl))) (fun a1_ c1_ => ?_)
  exact xJ hJ (i.1++[more],a1_,c1_) (by simp; omega) ⟨rep_step hI.1 (by assumption),by simp; omega⟩
 ·skip
  replace h2:=decF h2
  exact xR (i.fst) (rep_end hI.1 (by assumption))
theorem few_step{xs ys:List Int}{i:Nat}{x:Int}(h:ys=IntKind.u64.wrap xs.length :: (xs.take i).map IntKind.u64.wrap)(hi:i<xs.length)(hx:x=IntKind.u64.wrap (xs.getD i 0)): ys++[x]=IntKind.u64.wrap xs.length :: (xs.take (i+1)).map IntKind.u64.wrap:=by
 subst h hx
 rw [List.take_add_one,List.getElem?_eq_getElem hi,List.getD_eq_getElem?_getD,List.getElem?_eq_getElem hi]
 simp only [List.map_append,List.map_cons,List.map_nil,List.cons_append,Option.toList_some,Option.getD_some]
theorem few_end{xs ys:List Int}{i:Nat}(h:ys=IntKind.u64.wrap xs.length :: (xs.take i).map IntKind.u64.wrap)(hi:i=3∨(xs.length≤i∧i≤3)): ys=IntKind.u64.wrap xs.length :: (xs.take 3).map IntKind.u64.wrap:=by
 rcases hi with rfl | ⟨h1,h2⟩
 ·exact h
 ·rw [h,List.take_of_length_le h1,List.take_of_length_le (by omega)]
theorem t_few(xs:List Int)(n:Nat)(hn:xs.length=n)(hl:xs.length≤1000000): Ct Tryz.prog 20 (sL [.s (.s 0 n)] [.sl 0 (encI .i64) 0 1 xs 3] 1 (IntKind.u64.wrap xs.length :: (xs.take 3).map IntKind.u64.wrap) fun ys=>[.sl 0 (encI .i64) 0 1 xs 3,.sl 1 (encI .u64) 0 1 ys 42]):=by
 subst hn
 refine cX 28 xlI Tryz.func20 fun g F => ?_
 refine xN fun b1 => ?_
 refine xW0 _ (view_lit 1 (b:=b1) .u64 [IntKind.u64.wrap (xs.length:Int)] 42 (by simp [maxLen])) (xLoop xlI Tryz.func20 [0,1,0,1,1] [.b 0,.c [1,1,1]] [0,3,4] [0,1] (fun i:List Int×Nat×Option Addr×Nat=>[(0,.slice (g 0).a xs.length (g 0).c),(3,.slice i.2.2.1 i.1.length i.2.2.2),(4,.int .i64 i.2.1)]) (fun _=>[(0,.i 0),(3,.i 1)]) (fun i=>[.sl (g 0).a (g 0).c (encI .i64) 0 1 xs 3,.sl i.2.2.1 i.2.2.2 (encI .u64) 0 1 i.1 42]) (fun _=>⟨[(0,[]),(1,[])],2⟩) (fun i=>i.1=IntKind.u64.wrap xs.length :: (xs.take i.2.1).map IntKind.u64.wrap∧i.2.1≤3∧i.2.1≤xs.length∧i.1.length≤1+i.2.1) (fun i=>3-i.2.1) ([IntKind.u64.wrap (xs.length:Int)],0,some ⟨b1,0,none⟩,1) ⟨by simp,by simp,by simp,by simp⟩ (fun i J hI hJ => ?_)) sc_st
 refine xB (decide ((↑i.snd.fst:Int)<(↑xs.length:Int))) (fun h2 => ?_) (fun h2 => ?_)
 ·skip
  replace h2:=decT h2
  refine xB (decide ((↑i.snd.fst:Int)<(3:Int))) (fun h3 => ?_) (fun h3 => ?_)
  ·skip
   replace h3:=decT h3
   refine xO (xs.length≤xs.length∧(0:Int)≤(↑i.snd.fst:Int)∧(↑i.snd.fst:Int)<(↑xs.length:Int)) (by omega) ?_
   refine xO ((↑i.snd.fst:Int).toNat<xs.length) (by omega) ?_
   refine xN fun b4 => ?_
   refine xAp 1 (i.snd.snd.fst) (i.snd.snd.snd) (encI .u64) 0 1 (i.fst) 42 [IntKind.u64.wrap (xs.getD (↑i.snd.fst:Int).toNat (0:Int))] (.i 1) (oneI _) 8 (.slice (some ⟨b4,0,none⟩) 1 1) (by simp; omega) (fun F=>(src_pts (i:=2) (n:=1) (c:=1) (cs:=cellsOf (encI .u64) [IntKind.u64.wrap (xs.getD (↑i.snd.fst:Int).toNat (0:Int))]) (t:=42) (by kernel_rfl))) (fun a1_ c1_ => ?_)
   refine xO (InK IntKind.i64 (↑i.snd.fst+1)) (by simp only [InK] at *; omega) ?_
   exact xJ hJ (i.1++[IntKind.u64.wrap (xs.getD i.2.1 0)],i.2.1+1,a1_,c1_) (by show 3-(i.2.1+1)<3-i.2.1; omega) ⟨few_step hI.1 (by omega) rfl,by show i.2.1+1≤3; omega,by show i.2.1+1≤xs.length; omega,by simp; omega⟩
  ·skip
   replace h3:=decF h3
   exact xR (i.fst) (few_end hI.1 (by omega))
 ·skip
  replace h2:=decF h2
  exact xR (i.fst) (few_end hI.1 (by omega))
end Go.Proofs.YthijdhenekmojaaGreatDoor
/- The law's config. -/
set_option linter.unusedSimpArgs false
set_option maxRecDepth 100000
set_option maxHeartbeats 0
namespace Go.Proofs.YthijdhenekmojaaGreatDoor
open Go.Sx
def cf(t:Int): Cfg:={topics:=t,small:=4,slots:=2,clients:=3,s0:=5,n0:=2,s1:=8,n1:=2,retry:=2}
theorem cf_ok{t:Int}(h:1≤t∧t≤4): (cf t).Ok:=by simp only [Cfg.Ok,cf]; omega
theorem and3(n:Int): 0≤IntKind.i64.wrap (↑(BitVec.ofInt IntKind.i64.bits n &&& BitVec.ofInt IntKind.i64.bits 3).toNat)∧IntKind.i64.wrap (↑(BitVec.ofInt IntKind.i64.bits n &&& BitVec.ofInt IntKind.i64.bits 3).toNat)≤3:=by
 have h:(BitVec.ofInt IntKind.i64.bits n &&& BitVec.ofInt IntKind.i64.bits 3).toNat≤3:=by
  rw [BitVec.toNat_and]
  exact Nat.le_trans Nat.and_le_right (by decide)
 have h2:IntKind.i64.wrap (((BitVec.ofInt IntKind.i64.bits n &&& BitVec.ofInt IntKind.i64.bits 3).toNat:Nat):Int)=(((BitVec.ofInt IntKind.i64.bits n &&& BitVec.ofInt IntKind.i64.bits 3).toNat:Nat):Int):=by
  apply wrap_in
  simp only [InK]
  omega
 rw [h2]
 omega
theorem t_config(n:Int): Ct Tryz.prog 9 (⟨[.s (.i .i64 n)],[],0,fun t=>1≤t∧t≤4,fun t=>[.g (cfgS (cf t))],fun _=>[]⟩:Sp Int):=by
 refine cX 8 xaI Tryz.func9 fun g F => ?_
 refine xN fun b1 => ?_
 refine xO (InK IntKind.i64 (1+IntKind.i64.wrap ↑(BitVec.ofInt IntKind.i64.bits n &&& BitVec.ofInt IntKind.i64.bits 3).toNat)) (by have:=and3 n; simp only [InK]; omega) ?_
 refine xN fun b2 => ?_
 refine xN fun b3 => ?_
 refine xN fun b4 => ?_
 exact xR (1+IntKind.i64.wrap ↑(BitVec.ofInt IntKind.i64.bits n &&& BitVec.ofInt IntKind.i64.bits 3).toNat) (by have:=and3 n; show 1≤(1:Int) + _∧(1:Int) + _≤4; omega)
end Go.Proofs.YthijdhenekmojaaGreatDoor
/- What is meant by numbers, of no model. -/
set_option linter.unusedSimpArgs false
set_option maxRecDepth 100000
set_option maxHeartbeats 0
namespace Go.Proofs.YthijdhenekmojaaGreatDoor
open Go.Sx
theorem andR(n:Int)(m:Int)(hm:0≤m∧m≤4294967295): 0≤IntKind.i64.wrap (↑(BitVec.ofInt IntKind.i64.bits n &&& BitVec.ofInt IntKind.i64.bits m).toNat)∧IntKind.i64.wrap (↑(BitVec.ofInt IntKind.i64.bits n &&& BitVec.ofInt IntKind.i64.bits m).toNat)≤m:=by
 obtain⟨k,rfl⟩:=Int.eq_ofNat_of_zero_le hm.1
 have h:(BitVec.ofInt IntKind.i64.bits n &&& BitVec.ofInt IntKind.i64.bits (k:Int)).toNat≤k:=by
  rw [BitVec.toNat_and]
  refine Nat.le_trans Nat.and_le_right ?_
  rw [BitVec.ofInt_natCast,BitVec.toNat_ofNat]
  exact Nat.mod_le _ _
 have h2:IntKind.i64.wrap (((BitVec.ofInt IntKind.i64.bits n &&& BitVec.ofInt IntKind.i64.bits (k:Int)).toNat:Nat):Int)=(((BitVec.ofInt IntKind.i64.bits n &&& BitVec.ofInt IntKind.i64.bits (k:Int)).toNat:Nat):Int):=by
  apply wrap_in
  simp only [InK]
  omega
 rw [h2]
 omega
def wd(x:Int): Int:=IntKind.u64.wrap (IntKind.i64.wrap (↑(BitVec.ofInt IntKind.i64.bits x &&& BitVec.ofInt IntKind.i64.bits 4294967295).toNat))
def kd(x:Int): Int:=(x.tmod 6+6).tmod 6
theorem tmR(x:Int)(k:Int)(hk:1≤k∧k≤100): InK .i64 (x.tmod k+k):=by
 have h1:=Int.tmod_lt_of_pos x (show 0<k by omega)
 have h2 : -k<x.tmod k:=by
  rcases Int.le_total 0 x with h | h
  ·have:=Int.tmod_nonneg k h; omega
  ·have h3:=Int.tmod_lt_of_pos (-x) (show 0<k by omega)
   rw [Int.neg_tmod] at h3
   omega
 simp only [InK]
 omega
abbrev opS(ki ke co n cl cm bf af:Int)(n0 n1:Nat)(la ty fa fi:Bool): List SV:=[.i .i64 ki,.i .i64 ke,.i .i64 co,.i .i64 n,.i .i64 cl,.i .i64 cm,.i .i64 bf,.i .i64 af,.s 0 n0,.s 1 n1,.bo la,.bo ty,.bo fa,.bo fi]
abbrev opF(ki ke co n cl cm bf af:Int)(ws ks:List Int)(a0 a1:Option Addr)(c0 c1:Nat)(la ty fa fi:Bool): List SV:=[.i .i64 ki,.i .i64 ke,.i .i64 co,.i .i64 n,.i .i64 cl,.i .i64 cm,.i .i64 bf,.i .i64 af,.o (.slice a0 ws.length c0),.o (.slice a1 ks.length c1),.bo la,.bo ty,.bo fa,.bo fi]
abbrev sO(args:List SA)(pre:List SE)(n k:Nat): Sp (List Value):=⟨args,pre,n,fun cs=>cs.length=k,fun cs=>[.g (cs.map .o)],fun _=>pre⟩
abbrev dSp(ki ke co n cl cm bf af:Int)(ws ks:List Int)(a0 a1:Option Addr)(c0 c1:Nat)(la ty fa fi:Bool): Sp (List Value):=sO [.g (opF ki ke co n cl cm bf af ws ks a0 a1 c0 c1 la ty fa fi),.s .np] [] 0 14
abbrev zD: List Value:=[.int .i64 0,.int .i64 0,.int .i64 0,.bool false,.slice none 0 0,.int .i64 0,.slice none 0 0,.int .i64 0,.slice none 0 0,.slice none 0 0,.int .u64 0,.int .i64 0,.int .i64 0,.int .i64 0]
theorem done2(ki ke co n cl cm bf af:Int)(ws ks:List Int)(a0 a1:Option Addr)(c0 c1:Nat)(la ty fa fi:Bool)(hw:ws.length≤maxLen)(hk:ks.length≤maxLen)(g:Nat→Rf)(F:Fr)(hr0:RowF F a0 .i64 ws)(hr1:RowF F a1 .i64 ks)
  (b1 b2 b3 b7:Nat) (ys:List Int) (a:Option Addr) (c:Nat) (v0 v1 v4:Int) (pa:Option Addr) (pn pc:Nat) (w0 w3:Int) (com:Int) (hy:ys.length≤1000) :
  Go Tryz.prog Tryz.f12 (Tryz.f12.body.getD .skip) 222 F (RetR F (Some_ ((dSp ki ke co n cl cm bf af ws ks a0 a1 c0 c1 la ty fa fi).Q g))) [.c [0,1,0,1,1,1,1,1,1,1],.b 2,.c [1,1,1,1,1,1,1,1]]
   [(1,.pointer none),(2,.pointer (some ⟨b1,0,none⟩)),(4,.pointer (some ⟨b2,0,none⟩)),(5,.pointer (some ⟨b3,0,none⟩)),(7,.pointer (some ⟨b7,0,none⟩)),(8,.int .i64 0)]
   [.pts b1 ((opF ki ke co n cl cm bf af ws ks a0 a1 c0 c1 la ty fa fi).map (SV.v g)) 48,.pts b2 zD 46,.pts b3 [.int .i64 v0,.int .i64 v1,.bool la,.slice a ys.length c,.int .i64 v4,.slice pa pn pc] 40,.sl a c (encI .u64) 0 1 ys 42,.pts b7 [.int .i64 w0,.slice none 0 0,.slice none 0 0,.int .u64 w3,.int .i64 com] 44]:=by
 refine xG xlI [(1,.c),(2,.i 2),(4,.i 3),(5,.i 4),(7,.i 6)] ⟨[(2,(opF ki ke co n cl cm bf af ws ks a0 a1 c0 c1 la ty fa fi).map (SV.g id)),(3,List.replicate 14 .c),(4,[.n,.n,.n,.i 5,.n,.n]),(5,[]),(6,[.n,.c,.c,.n,.n])],20⟩ Tryz.func12 ?_
 refine xW0 _ (view_nil (encI .i64) 0 1 3 (sizedI _)) (xLoop xlI Tryz.func12 [0,1,0,1,1,1,1,1,1,1] [.b 2,.c [1,1,1,1,1,1,1,1]] [1,2,4,5,7,8] [0,1,2,3,4,5] (fun i:List Int×Nat×Option Addr×Nat=>[(1,.pointer none),(2,.pointer (some ⟨b1,0,none⟩)),(4,.pointer (some ⟨b2,0,none⟩)),(5,.pointer (some ⟨b3,0,none⟩)),(7,.pointer (some ⟨b7,0,none⟩)),(8,.int .i64 i.2.1)]) (fun _=>[(1,.c),(2,.i 2),(4,.i 3),(5,.i 4),(7,.i 6)]) (fun i=>[.pts b1 ((opF ki ke co n cl cm bf af ws ks a0 a1 c0 c1 la ty fa fi).map (SV.v g)) 48,.pts b2 zD 46,.pts b3 [.int .i64 v0,.int .i64 v1,.bool la,.slice a ys.length c,.int .i64 v4,.slice pa pn pc] 40,.sl a c (encI .u64) 0 1 ys 42,.pts b7 [.int .i64 w0,.slice none 0 0,.slice i.2.2.1 i.1.length i.2.2.2,.int .u64 w3,.int .i64 com] 44,.sl i.2.2.1 i.2.2.2 (encI .i64) 0 1 i.1 3]) (fun _=>⟨[(2,(opF ki ke co n cl cm bf af ws ks a0 a1 c0 c1 la ty fa fi).map (SV.g id)),(3,List.replicate 14 .c),(4,[.n,.n,.n,.i 5,.n,.n]),(5,[]),(6,[.n,.c,.i 7,.n,.n]),(7,[])],20⟩) (fun i=>i.1.length=i.2.1∧i.2.1≤5) (fun i=>5-i.2.1) ([],0,none,0) ⟨rfl,by simp⟩ (fun i J hI hJ => ?_)) sc_st
 refine xB (decide ((↑i.snd.fst:Int)<(↑ks.length:Int))) (fun h1 => ?_) (fun h1 => ?_)
 ·skip
  replace h1:=decT h1
  refine xB (decide ((↑i.snd.fst:Int)<(5:Int))) (fun h2 => ?_) (fun h2 => ?_)
  ·skip
   replace h2:=decT h2
   refine xIx hr1 (ks.length) (c1) .i64 (↑i.snd.fst) (show ks.length≤(ks).length∧(0:Int)≤↑i.snd.fst∧↑i.snd.fst<((ks.length:Nat):Int) by omega) ?_
   refine xLd hr1 ((↑i.snd.fst:Int).toNat) (show(↑i.snd.fst:Int).toNat<(ks).length by omega) ?_
   refine xO ((6:Int)≠(0:Int)) (by omega) ?_
   refine xO (InK IntKind.i64 ((ks.getD (↑i.snd.fst:Int).toNat (0:Int)).tmod (6:Int)+(6:Int))) (tmR _ _ (by omega)) ?_
   refine xO ((6:Int)≠(0:Int)) (by omega) ?_
   refine xN fun b3 => ?_
   refine xAp 5 (i.snd.snd.fst) (i.snd.snd.snd) (encI .i64) 0 1 (i.fst) 3 [((ks.getD (↑i.snd.fst:Int).toNat (0:Int)).tmod (6:Int)+(6:Int)).tmod (6:Int)] (.i 7) (oneI _) 8 (.slice (some ⟨b3,0,none⟩) 1 1) (by simp; omega) (fun F=>(src_pts (i:=6) (n:=1) (c:=1) (cs:=cellsOf (encI .i64) [((ks.getD (↑i.snd.fst:Int).toNat (0:Int)).tmod (6:Int)+(6:Int)).tmod (6:Int)]) (t:=3) (by kernel_rfl))) (fun a5_ c5_ => ?_)
   refine xO (InK IntKind.i64 (↑i.snd.fst+1)) (by have a:=andR com 16777215 (by omega); have b:=andR bf 3 (by omega); have d:=andR af 3 (by omega); simp only [InK]; omega) ?_
   exact xJ hJ (i.1++[kd (ks.getD i.2.1 0)],i.2.1+1,a5_,c5_) (by show 5-(i.2.1+1)<5-i.2.1; omega) ⟨by simp [hI.1],by show i.2.1+1≤5; omega⟩
  ·skip
   replace h2:=decF h2
   refine xN fun b4 => ?_
   refine xW0 _ (view_none 6 (b:=b4) .u64 42) ?_ sc_st
   refine xAp 6 (some {block:=b4,off:=0}) (0) (encI .u64) 0 1 ([]) 42 (ys) (.i 26) (oneI _) 8 (.slice a (ys).length c) (by simp; omega) (fun F=>(src_sl (i:=3) (d:=0) (sz:=1) (t:=42) (by kernel_rfl))) (fun a6_ c6_ => ?_)
   refine xB (fi) (fun h5 => ?_) (fun h5 => ?_)
   ·skip
    refine xO ((3:Int)≠(0:Int)) (by omega) ?_
    refine xO (InK IntKind.i64 (cl.tmod (3:Int)+(3:Int))) (tmR _ _ (by omega)) ?_
    refine xO ((3:Int)≠(0:Int)) (by omega) ?_
    refine xO (InK IntKind.i64 (IntKind.i64.wrap ↑(BitVec.ofInt IntKind.i64.bits com &&& BitVec.ofInt IntKind.i64.bits 16777215).toNat-1)) (by have a:=andR com 16777215 (by omega); have b:=andR bf 3 (by omega); have d:=andR af 3 (by omega); simp only [InK]; omega) ?_
    refine xO (InK IntKind.i64 (IntKind.i64.wrap ↑(BitVec.ofInt IntKind.i64.bits com &&& BitVec.ofInt IntKind.i64.bits 16777215).toNat-1-IntKind.i64.wrap ↑(BitVec.ofInt IntKind.i64.bits bf &&& BitVec.ofInt IntKind.i64.bits 3).toNat)) (by have a:=andR com 16777215 (by omega); have b:=andR bf 3 (by omega); have d:=andR af 3 (by omega); simp only [InK]; omega) ?_
    refine xO (InK IntKind.i64 (IntKind.i64.wrap ↑(BitVec.ofInt IntKind.i64.bits com &&& BitVec.ofInt IntKind.i64.bits 16777215).toNat+IntKind.i64.wrap ↑(BitVec.ofInt IntKind.i64.bits af &&& BitVec.ofInt IntKind.i64.bits 3).toNat)) (by have a:=andR com 16777215 (by omega); have b:=andR bf 3 (by omega); have d:=andR af 3 (by omega); simp only [InK]; omega) ?_
    refine xO (InK IntKind.i64 (IntKind.i64.wrap ↑(BitVec.ofInt IntKind.i64.bits com &&& BitVec.ofInt IntKind.i64.bits 16777215).toNat+IntKind.i64.wrap ↑(BitVec.ofInt IntKind.i64.bits af &&& BitVec.ofInt IntKind.i64.bits 3).toNat-1)) (by have a:=andR com 16777215 (by omega); have b:=andR bf 3 (by omega); have d:=andR af 3 (by omega); simp only [InK]; omega) ?_
    exact xRo 14 fun _ h=>h
   ·skip
    refine xO ((3:Int)≠(0:Int)) (by omega) ?_
    refine xO (InK IntKind.i64 (cl.tmod (3:Int)+(3:Int))) (tmR _ _ (by omega)) ?_
    refine xO ((3:Int)≠(0:Int)) (by omega) ?_
    refine xO (InK IntKind.i64 (IntKind.i64.wrap ↑(BitVec.ofInt IntKind.i64.bits com &&& BitVec.ofInt IntKind.i64.bits 16777215).toNat-1)) (by have a:=andR com 16777215 (by omega); have b:=andR bf 3 (by omega); have d:=andR af 3 (by omega); simp only [InK]; omega) ?_
    refine xO (InK IntKind.i64 (IntKind.i64.wrap ↑(BitVec.ofInt IntKind.i64.bits com &&& BitVec.ofInt IntKind.i64.bits 16777215).toNat-1-IntKind.i64.wrap ↑(BitVec.ofInt IntKind.i64.bits bf &&& BitVec.ofInt IntKind.i64.bits 3).toNat)) (by have a:=andR com 16777215 (by omega); have b:=andR bf 3 (by omega); have d:=andR af 3 (by omega); simp only [InK]; omega) ?_
    refine xO (InK IntKind.i64 (IntKind.i64.wrap ↑(BitVec.ofInt IntKind.i64.bits com &&& BitVec.ofInt IntKind.i64.bits 16777215).toNat+IntKind.i64.wrap ↑(BitVec.ofInt IntKind.i64.bits af &&& BitVec.ofInt IntKind.i64.bits 3).toNat)) (by have a:=andR com 16777215 (by omega); have b:=andR bf 3 (by omega); have d:=andR af 3 (by omega); simp only [InK]; omega) ?_
    refine xO (InK IntKind.i64 (IntKind.i64.wrap ↑(BitVec.ofInt IntKind.i64.bits com &&& BitVec.ofInt IntKind.i64.bits 16777215).toNat+IntKind.i64.wrap ↑(BitVec.ofInt IntKind.i64.bits af &&& BitVec.ofInt IntKind.i64.bits 3).toNat-1)) (by have a:=andR com 16777215 (by omega); have b:=andR bf 3 (by omega); have d:=andR af 3 (by omega); simp only [InK]; omega) ?_
    exact xRo 14 fun _ h=>h
 ·skip
  replace h1:=decF h1
  refine xN fun b6 => ?_
  refine xW0 _ (view_none 6 (b:=b6) .u64 42) ?_ sc_st
  refine xAp 6 (some {block:=b6,off:=0}) (0) (encI .u64) 0 1 ([]) 42 (ys) (.i 24) (oneI _) 8 (.slice a (ys).length c) (by simp; omega) (fun F=>(src_sl (i:=3) (d:=0) (sz:=1) (t:=42) (by kernel_rfl))) (fun a6_ c6_ => ?_)
  refine xB (fi) (fun h7 => ?_) (fun h7 => ?_)
  ·skip
   refine xO ((3:Int)≠(0:Int)) (by omega) ?_
   refine xO (InK IntKind.i64 (cl.tmod (3:Int)+(3:Int))) (tmR _ _ (by omega)) ?_
   refine xO ((3:Int)≠(0:Int)) (by omega) ?_
   refine xO (InK IntKind.i64 (IntKind.i64.wrap ↑(BitVec.ofInt IntKind.i64.bits com &&& BitVec.ofInt IntKind.i64.bits 16777215).toNat-1)) (by have a:=andR com 16777215 (by omega); have b:=andR bf 3 (by omega); have d:=andR af 3 (by omega); simp only [InK]; omega) ?_
   refine xO (InK IntKind.i64 (IntKind.i64.wrap ↑(BitVec.ofInt IntKind.i64.bits com &&& BitVec.ofInt IntKind.i64.bits 16777215).toNat-1-IntKind.i64.wrap ↑(BitVec.ofInt IntKind.i64.bits bf &&& BitVec.ofInt IntKind.i64.bits 3).toNat)) (by have a:=andR com 16777215 (by omega); have b:=andR bf 3 (by omega); have d:=andR af 3 (by omega); simp only [InK]; omega) ?_
   refine xO (InK IntKind.i64 (IntKind.i64.wrap ↑(BitVec.ofInt IntKind.i64.bits com &&& BitVec.ofInt IntKind.i64.bits 16777215).toNat+IntKind.i64.wrap ↑(BitVec.ofInt IntKind.i64.bits af &&& BitVec.ofInt IntKind.i64.bits 3).toNat)) (by have a:=andR com 16777215 (by omega); have b:=andR bf 3 (by omega); have d:=andR af 3 (by omega); simp only [InK]; omega) ?_
   refine xO (InK IntKind.i64 (IntKind.i64.wrap ↑(BitVec.ofInt IntKind.i64.bits com &&& BitVec.ofInt IntKind.i64.bits 16777215).toNat+IntKind.i64.wrap ↑(BitVec.ofInt IntKind.i64.bits af &&& BitVec.ofInt IntKind.i64.bits 3).toNat-1)) (by have a:=andR com 16777215 (by omega); have b:=andR bf 3 (by omega); have d:=andR af 3 (by omega); simp only [InK]; omega) ?_
   exact xRo 14 fun _ h=>h
  ·skip
   refine xO ((3:Int)≠(0:Int)) (by omega) ?_
   refine xO (InK IntKind.i64 (cl.tmod (3:Int)+(3:Int))) (tmR _ _ (by omega)) ?_
   refine xO ((3:Int)≠(0:Int)) (by omega) ?_
   refine xO (InK IntKind.i64 (IntKind.i64.wrap ↑(BitVec.ofInt IntKind.i64.bits com &&& BitVec.ofInt IntKind.i64.bits 16777215).toNat-1)) (by have a:=andR com 16777215 (by omega); have b:=andR bf 3 (by omega); have d:=andR af 3 (by omega); simp only [InK]; omega) ?_
   refine xO (InK IntKind.i64 (IntKind.i64.wrap ↑(BitVec.ofInt IntKind.i64.bits com &&& BitVec.ofInt IntKind.i64.bits 16777215).toNat-1-IntKind.i64.wrap ↑(BitVec.ofInt IntKind.i64.bits bf &&& BitVec.ofInt IntKind.i64.bits 3).toNat)) (by have a:=andR com 16777215 (by omega); have b:=andR bf 3 (by omega); have d:=andR af 3 (by omega); simp only [InK]; omega) ?_
   refine xO (InK IntKind.i64 (IntKind.i64.wrap ↑(BitVec.ofInt IntKind.i64.bits com &&& BitVec.ofInt IntKind.i64.bits 16777215).toNat+IntKind.i64.wrap ↑(BitVec.ofInt IntKind.i64.bits af &&& BitVec.ofInt IntKind.i64.bits 3).toNat)) (by have a:=andR com 16777215 (by omega); have b:=andR bf 3 (by omega); have d:=andR af 3 (by omega); simp only [InK]; omega) ?_
   refine xO (InK IntKind.i64 (IntKind.i64.wrap ↑(BitVec.ofInt IntKind.i64.bits com &&& BitVec.ofInt IntKind.i64.bits 16777215).toNat+IntKind.i64.wrap ↑(BitVec.ofInt IntKind.i64.bits af &&& BitVec.ofInt IntKind.i64.bits 3).toNat-1)) (by have a:=andR com 16777215 (by omega); have b:=andR bf 3 (by omega); have d:=andR af 3 (by omega); simp only [InK]; omega) ?_
   exact xRo 14 fun _ h=>h
end Go.Proofs.YthijdhenekmojaaGreatDoor
/- What is meant by numbers, of no model: the whole. -/
set_option linter.unusedSimpArgs false
set_option maxRecDepth 100000
set_option maxHeartbeats 0
namespace Go.Proofs.YthijdhenekmojaaGreatDoor
open Go.Sx
theorem done3(ki ke co n cl cm bf af:Int)(ws ks:List Int)(a0 a1:Option Addr)(c0 c1:Nat)(la ty fa fi:Bool)(hw:ws.length≤maxLen)(hk:ks.length≤maxLen)(g:Nat→Rf)(F:Fr)(hr0:RowF F a0 .i64 ws)(hr1:RowF F a1 .i64 ks)
  (b1 b2 b3 b7:Nat) (ys:List Int) (m:Nat) (hm:ys.length=m) (a:Option Addr) (c:Nat) (v0 v1 v4:Int) (pa:Option Addr) (pn pc:Nat) (w0 w3:Int) (com:Int) (hy:ys.length≤1000) :
  Go Tryz.prog Tryz.f12 (Tryz.f12.body.getD .skip) 222 F (RetR F (Some_ ((dSp ki ke co n cl cm bf af ws ks a0 a1 c0 c1 la ty fa fi).Q g))) [.c [0,1,0,1,1,1,1,1,1,1],.b 2,.c [1,1,1,1,1,1,1,1]]
   [(1,.pointer none),(2,.pointer (some ⟨b1,0,none⟩)),(4,.pointer (some ⟨b2,0,none⟩)),(5,.pointer (some ⟨b3,0,none⟩)),(7,.pointer (some ⟨b7,0,none⟩)),(8,.int .i64 0)]
   [.pts b1 ((opF ki ke co n cl cm bf af ws ks a0 a1 c0 c1 la ty fa fi).map (SV.v g)) 48,.pts b2 zD 46,.pts b3 [.int .i64 v0,.int .i64 v1,.bool la,.slice a m c,.int .i64 v4,.slice pa pn pc] 40,.sl a c (encI .u64) 0 1 ys 42,.pts b7 [.int .i64 w0,.slice none 0 0,.slice none 0 0,.int .u64 w3,.int .i64 com] 44]:=by
 subst hm
 exact done2 ki ke co n cl cm bf af ws ks a0 a1 c0 c1 la ty fa fi hw hk g F hr0 hr1 b1 b2 b3 b7 ys a c v0 v1 v4 pa pn pc w0 w3 com hy
theorem t_done(ki ke co n cl cm bf af:Int)(ws ks:List Int)(a0 a1:Option Addr)(c0 c1:Nat)(la ty fa fi:Bool)(hw:ws.length≤maxLen)(hk:ks.length≤maxLen)(F:Fr)(hr0:RowF F a0 .i64 ws)(hr1:RowF F a1 .i64 ks):
  CtF Tryz.prog F 12 (dSp ki ke co n cl cm bf af ws ks a0 a1 c0 c1 la ty fa fi):=by
 refine cF 222 xlI Tryz.func12 fun g => ?_
 refine xN fun b1 => ?_
 refine xN fun b2 => ?_
 refine xO ((10:Int)≠(0:Int)) (by omega) ?_
 refine xO (InK IntKind.i64 (ki.tmod (10:Int)+(10:Int))) (tmR _ _ (by omega)) ?_
 refine xO ((10:Int)≠(0:Int)) (by omega) ?_
 refine xO ((6:Int)≠(0:Int)) (by omega) ?_
 refine xO (InK IntKind.i64 (ke.tmod (6:Int)+(6:Int))) (tmR _ _ (by omega)) ?_
 refine xO ((6:Int)≠(0:Int)) (by omega) ?_
 refine xN fun b3 => ?_
 refine xW0 _ (view_nil (encI .u64) 0 1 42 (sizedI _)) (xLoop xlI Tryz.func12 [0,1,0,1,1] [.b 0,.c [1,1,1]] [1,2,4,5,6] [0,1,2,3] (fun i:List Int×Nat×Option Addr×Nat=>[(1,.pointer none),(2,.pointer (some ⟨b1,0,none⟩)),(4,.pointer (some ⟨b2,0,none⟩)),(5,.pointer (some ⟨b3,0,none⟩)),(6,.int .i64 i.2.1)]) (fun _=>[(1,.c),(2,.i 2),(4,.i 3),(5,.i 4)]) (fun i=>[.pts b1 ((opF ki ke co n cl cm bf af ws ks a0 a1 c0 c1 la ty fa fi).map (SV.v g)) 48,.pts b2 zD 46,.pts b3 [.int .i64 ((ki.tmod 10+10).tmod 10),.int .i64 ((ke.tmod 6+6).tmod 6),.bool la,.slice i.2.2.1 i.1.length i.2.2.2,.int .i64 (IntKind.i64.wrap (↑(BitVec.ofInt IntKind.i64.bits n &&& BitVec.ofInt IntKind.i64.bits 3).toNat)),.slice none 0 0] 40,.sl i.2.2.1 i.2.2.2 (encI .u64) 0 1 i.1 42]) (fun _=>⟨[(2,(opF ki ke co n cl cm bf af ws ks a0 a1 c0 c1 la ty fa fi).map (SV.g id)),(3,List.replicate 14 .c),(4,[.n,.n,.n,.i 5,.n,.c]),(5,[])],20⟩) (fun i=>i.1.length=i.2.1∧i.2.1≤9) (fun i=>9-i.2.1) ([],0,none,0) ⟨rfl,by simp⟩ (fun i J hI hJ => ?_)) sc_st
 refine xB (decide ((↑i.snd.fst:Int)<(↑ws.length:Int))) (fun h4 => ?_) (fun h4 => ?_)
 ·skip
  replace h4:=decT h4
  refine xB (decide ((↑i.snd.fst:Int)<(9:Int))) (fun h5 => ?_) (fun h5 => ?_)
  ·skip
   replace h5:=decT h5
   refine xIx hr0 (ws.length) (c0) .i64 (↑i.snd.fst) (show ws.length≤(ws).length∧(0:Int)≤↑i.snd.fst∧↑i.snd.fst<((ws.length:Nat):Int) by omega) ?_
   refine xLd hr0 ((↑i.snd.fst:Int).toNat) (show(↑i.snd.fst:Int).toNat<(ws).length by omega) ?_
   refine xN fun b6 => ?_
   refine xAp 3 (i.snd.snd.fst) (i.snd.snd.snd) (encI .u64) 0 1 (i.fst) 42 [IntKind.u64.wrap (IntKind.i64.wrap (↑(BitVec.ofInt IntKind.i64.bits (ws.getD (↑i.snd.fst:Int).toNat (0:Int)) &&& BitVec.ofInt IntKind.i64.bits (4294967295:Int)).toNat:Int))] (.i 5) (oneI _) 8 (.slice (some ⟨b6,0,none⟩) 1 1) (by simp; omega) (fun F=>(src_pts (i:=4) (n:=1) (c:=1) (cs:=cellsOf (encI .u64) [IntKind.u64.wrap (IntKind.i64.wrap (↑(BitVec.ofInt IntKind.i64.bits (ws.getD (↑i.snd.fst:Int).toNat (0:Int)) &&& BitVec.ofInt IntKind.i64.bits (4294967295:Int)).toNat:Int))]) (t:=42) (by kernel_rfl))) (fun a3_ c3_ => ?_)
   refine xO (InK IntKind.i64 (↑i.snd.fst+1)) (by simp only [InK] at *; omega) ?_
   exact xJ hJ (i.1++[wd (ws.getD i.2.1 0)],i.2.1+1,a3_,c3_) (by show 9-(i.2.1+1)<9-i.2.1; omega) ⟨by simp [hI.1],by show i.2.1+1≤9; omega⟩
  ·skip
   replace h5:=decF h5
   refine xT (decide ((↑i.fst.length:Int)>(0:Int))) (by first | (simp; done) | (simp; omega)) ?_
   refine xB (!ty) (fun h7 => ?_) (fun h7 => ?_)
   ·skip
    replace h7:=ntT h7
    refine xO (i.fst.length≤i.fst.length∧(0:Int)≤(0:Int)∧(0:Int)<(↑i.fst.length:Int)) (by omega) ?_
    refine xO (Int.toNat 0<i.fst.length) (by omega) ?_
    refine xO (i.fst.length≤i.fst.length∧(0:Int)≤(0:Int)∧(0:Int)<(↑i.fst.length:Int)) (by omega) ?_
    refine xO (Int.toNat 0<i.fst.length) (by omega) ?_
    refine xE (IntKind.u64.wrap ↑(BitVec.ofInt IntKind.u64.bits (i.fst.getD (Int.toNat 0) 0) &&& BitVec.ofInt IntKind.u64.bits 255).toNat:Int) fun _ => ?_
    refine xB ((ki.tmod 10+10).tmod 10==6) (fun h8 => ?_) (fun h8 => ?_)
    ·skip
     replace h8:=decT h8
     refine xO ((0:Int)≤(2:Int)) (by omega) ?_
     refine xN fun b9 => ?_
     refine xO ((25:Int)≠(0:Int)) (by omega) ?_
     refine xO (InK IntKind.i64 (co.tmod (25:Int)+(25:Int))) (tmR _ _ (by omega)) ?_
     refine xO ((25:Int)≠(0:Int)) (by omega) ?_
     refine xN fun b10 => ?_
     refine xB (fa) (fun h11 => ?_) (fun h11 => ?_)
     ·skip
      refine xGo [1,2,4,5,7,8] [0,1,2,3,5] _ _ _ (done3 ki ke co n cl cm bf af ws ks a0 a1 c0 c1 la ty fa fi hw hk g F hr0 hr1 b1 b2 b3 b10 (i.fst.set (Int.toNat 0) (IntKind.u64.wrap ↑(BitVec.ofInt IntKind.u64.bits (i.fst.getD (Int.toNat 0) 0) &&& BitVec.ofInt IntKind.u64.bits 255).toNat)) (i.fst.length) (by first | rfl | simp) (i.snd.snd.fst) (i.snd.snd.snd) ((ki.tmod 10+10).tmod 10) ((ke.tmod 6+6).tmod 6) (IntKind.i64.wrap ↑(BitVec.ofInt IntKind.i64.bits n &&& BitVec.ofInt IntKind.i64.bits 3).toNat) (some {block:=b9,off:=0}) (2) (2) ((co.tmod (25:Int)+(25:Int)).tmod (25:Int)) (IntKind.u64.wrap (IntKind.i64.wrap ↑(BitVec.ofInt IntKind.i64.bits n &&& BitVec.ofInt IntKind.i64.bits 3).toNat)) (cm) (by first | omega | (simp; omega)))
     ·skip
      refine xGo [1,2,4,5,7,8] [0,1,2,3,5] _ _ _ (done3 ki ke co n cl cm bf af ws ks a0 a1 c0 c1 la ty fa fi hw hk g F hr0 hr1 b1 b2 b3 b10 (i.fst.set (Int.toNat 0) (IntKind.u64.wrap ↑(BitVec.ofInt IntKind.u64.bits (i.fst.getD (Int.toNat 0) 0) &&& BitVec.ofInt IntKind.u64.bits 255).toNat)) (i.fst.length) (by first | rfl | simp) (i.snd.snd.fst) (i.snd.snd.snd) ((ki.tmod 10+10).tmod 10) ((ke.tmod 6+6).tmod 6) (IntKind.i64.wrap ↑(BitVec.ofInt IntKind.i64.bits n &&& BitVec.ofInt IntKind.i64.bits 3).toNat) (some {block:=b9,off:=0}) (2) (2) ((co.tmod (25:Int)+(25:Int)).tmod (25:Int)) (IntKind.u64.wrap (IntKind.i64.wrap ↑(BitVec.ofInt IntKind.i64.bits n &&& BitVec.ofInt IntKind.i64.bits 3).toNat)) (IntKind.i64.wrap ↑(BitVec.ofInt IntKind.i64.bits cm &&& BitVec.ofInt IntKind.i64.bits 31).toNat) (by first | omega | (simp; omega)))
    ·skip
     replace h8:=decF h8
     refine xO ((25:Int)≠(0:Int)) (by omega) ?_
     refine xO (InK IntKind.i64 (co.tmod (25:Int)+(25:Int))) (tmR _ _ (by omega)) ?_
     refine xO ((25:Int)≠(0:Int)) (by omega) ?_
     refine xN fun b12 => ?_
     refine xB (fa) (fun h13 => ?_) (fun h13 => ?_)
     ·skip
      refine xGo [1,2,4,5,7,8] [0,1,2,3,4] _ _ _ (done3 ki ke co n cl cm bf af ws ks a0 a1 c0 c1 la ty fa fi hw hk g F hr0 hr1 b1 b2 b3 b12 (i.fst.set (Int.toNat 0) (IntKind.u64.wrap ↑(BitVec.ofInt IntKind.u64.bits (i.fst.getD (Int.toNat 0) 0) &&& BitVec.ofInt IntKind.u64.bits 255).toNat)) (i.fst.length) (by first | rfl | simp) (i.snd.snd.fst) (i.snd.snd.snd) ((ki.tmod 10+10).tmod 10) ((ke.tmod 6+6).tmod 6) (IntKind.i64.wrap ↑(BitVec.ofInt IntKind.i64.bits n &&& BitVec.ofInt IntKind.i64.bits 3).toNat) (none) (0) (0) ((co.tmod (25:Int)+(25:Int)).tmod (25:Int)) (IntKind.u64.wrap (IntKind.i64.wrap ↑(BitVec.ofInt IntKind.i64.bits n &&& BitVec.ofInt IntKind.i64.bits 3).toNat)) (cm) (by first | omega | (simp; omega)))
     ·skip
      refine xGo [1,2,4,5,7,8] [0,1,2,3,4] _ _ _ (done3 ki ke co n cl cm bf af ws ks a0 a1 c0 c1 la ty fa fi hw hk g F hr0 hr1 b1 b2 b3 b12 (i.fst.set (Int.toNat 0) (IntKind.u64.wrap ↑(BitVec.ofInt IntKind.u64.bits (i.fst.getD (Int.toNat 0) 0) &&& BitVec.ofInt IntKind.u64.bits 255).toNat)) (i.fst.length) (by first | rfl | simp) (i.snd.snd.fst) (i.snd.snd.snd) ((ki.tmod 10+10).tmod 10) ((ke.tmod 6+6).tmod 6) (IntKind.i64.wrap ↑(BitVec.ofInt IntKind.i64.bits n &&& BitVec.ofInt IntKind.i64.bits 3).toNat) (none) (0) (0) ((co.tmod (25:Int)+(25:Int)).tmod (25:Int)) (IntKind.u64.wrap (IntKind.i64.wrap ↑(BitVec.ofInt IntKind.i64.bits n &&& BitVec.ofInt IntKind.i64.bits 3).toNat)) (IntKind.i64.wrap ↑(BitVec.ofInt IntKind.i64.bits cm &&& BitVec.ofInt IntKind.i64.bits 31).toNat) (by first | omega | (simp; omega)))
   ·skip
    replace h7:=ntF h7
    refine xB ((ki.tmod 10+10).tmod 10==6) (fun h14 => ?_) (fun h14 => ?_)
    ·skip
     replace h14:=decT h14
     refine xO ((0:Int)≤(2:Int)) (by omega) ?_
     refine xN fun b15 => ?_
     refine xO ((25:Int)≠(0:Int)) (by omega) ?_
     refine xO (InK IntKind.i64 (co.tmod (25:Int)+(25:Int))) (tmR _ _ (by omega)) ?_
     refine xO ((25:Int)≠(0:Int)) (by omega) ?_
     refine xN fun b16 => ?_
     refine xB (fa) (fun h17 => ?_) (fun h17 => ?_)
     ·skip
      refine xGo [1,2,4,5,7,8] [0,1,2,3,5] _ _ _ (done3 ki ke co n cl cm bf af ws ks a0 a1 c0 c1 la ty fa fi hw hk g F hr0 hr1 b1 b2 b3 b16 (i.fst) (i.fst.length) (by first | rfl | simp) (i.snd.snd.fst) (i.snd.snd.snd) ((ki.tmod 10+10).tmod 10) ((ke.tmod 6+6).tmod 6) (IntKind.i64.wrap ↑(BitVec.ofInt IntKind.i64.bits n &&& BitVec.ofInt IntKind.i64.bits 3).toNat) (some {block:=b15,off:=0}) (2) (2) ((co.tmod (25:Int)+(25:Int)).tmod (25:Int)) (IntKind.u64.wrap (IntKind.i64.wrap ↑(BitVec.ofInt IntKind.i64.bits n &&& BitVec.ofInt IntKind.i64.bits 3).toNat)) (cm) (by first | omega | (simp; omega)))
     ·skip
      refine xGo [1,2,4,5,7,8] [0,1,2,3,5] _ _ _ (done3 ki ke co n cl cm bf af ws ks a0 a1 c0 c1 la ty fa fi hw hk g F hr0 hr1 b1 b2 b3 b16 (i.fst) (i.fst.length) (by first | rfl | simp) (i.snd.snd.fst) (i.snd.snd.snd) ((ki.tmod 10+10).tmod 10) ((ke.tmod 6+6).tmod 6) (IntKind.i64.wrap ↑(BitVec.ofInt IntKind.i64.bits n &&& BitVec.ofInt IntKind.i64.bits 3).toNat) (some {block:=b15,off:=0}) (2) (2) ((co.tmod (25:Int)+(25:Int)).tmod (25:Int)) (IntKind.u64.wrap (IntKind.i64.wrap ↑(BitVec.ofInt IntKind.i64.bits n &&& BitVec.ofInt IntKind.i64.bits 3).toNat)) (IntKind.i64.wrap ↑(BitVec.ofInt IntKind.i64.bits cm &&& BitVec.ofInt IntKind.i64.bits 31).toNat) (by first | omega | (simp; omega)))
    ·skip
     replace h14:=decF h14
     refine xO ((25:Int)≠(0:Int)) (by omega) ?_
     refine xO (InK IntKind.i64 (co.tmod (25:Int)+(25:Int))) (tmR _ _ (by omega)) ?_
     refine xO ((25:Int)≠(0:Int)) (by omega) ?_
     refine xN fun b18 => ?_
     refine xB (fa) (fun h19 => ?_) (fun h19 => ?_)
     ·skip
      refine xGo [1,2,4,5,7,8] [0,1,2,3,4] _ _ _ (done3 ki ke co n cl cm bf af ws ks a0 a1 c0 c1 la ty fa fi hw hk g F hr0 hr1 b1 b2 b3 b18 (i.fst) (i.fst.length) (by first | rfl | simp) (i.snd.snd.fst) (i.snd.snd.snd) ((ki.tmod 10+10).tmod 10) ((ke.tmod 6+6).tmod 6) (IntKind.i64.wrap ↑(BitVec.ofInt IntKind.i64.bits n &&& BitVec.ofInt IntKind.i64.bits 3).toNat) (none) (0) (0) ((co.tmod (25:Int)+(25:Int)).tmod (25:Int)) (IntKind.u64.wrap (IntKind.i64.wrap ↑(BitVec.ofInt IntKind.i64.bits n &&& BitVec.ofInt IntKind.i64.bits 3).toNat)) (cm) (by first | omega | (simp; omega)))
     ·skip
      refine xGo [1,2,4,5,7,8] [0,1,2,3,4] _ _ _ (done3 ki ke co n cl cm bf af ws ks a0 a1 c0 c1 la ty fa fi hw hk g F hr0 hr1 b1 b2 b3 b18 (i.fst) (i.fst.length) (by first | rfl | simp) (i.snd.snd.fst) (i.snd.snd.snd) ((ki.tmod 10+10).tmod 10) ((ke.tmod 6+6).tmod 6) (IntKind.i64.wrap ↑(BitVec.ofInt IntKind.i64.bits n &&& BitVec.ofInt IntKind.i64.bits 3).toNat) (none) (0) (0) ((co.tmod (25:Int)+(25:Int)).tmod (25:Int)) (IntKind.u64.wrap (IntKind.i64.wrap ↑(BitVec.ofInt IntKind.i64.bits n &&& BitVec.ofInt IntKind.i64.bits 3).toNat)) (IntKind.i64.wrap ↑(BitVec.ofInt IntKind.i64.bits cm &&& BitVec.ofInt IntKind.i64.bits 31).toNat) (by first | omega | (simp; omega)))
 ·skip
  replace h4:=decF h4
  refine xB (decide ((↑i.fst.length:Int)>(0:Int))) (fun h20 => ?_) (fun h20 => ?_)
  ·skip
   replace h20:=decT h20
   refine xB (!ty) (fun h21 => ?_) (fun h21 => ?_)
   ·skip
    replace h21:=ntT h21
    refine xO (i.fst.length≤i.fst.length∧(0:Int)≤(0:Int)∧(0:Int)<(↑i.fst.length:Int)) (by omega) ?_
    refine xO (Int.toNat 0<i.fst.length) (by omega) ?_
    refine xO (i.fst.length≤i.fst.length∧(0:Int)≤(0:Int)∧(0:Int)<(↑i.fst.length:Int)) (by omega) ?_
    refine xO (Int.toNat 0<i.fst.length) (by omega) ?_
    refine xE (IntKind.u64.wrap ↑(BitVec.ofInt IntKind.u64.bits (i.fst.getD (Int.toNat 0) 0) &&& BitVec.ofInt IntKind.u64.bits 255).toNat:Int) fun _ => ?_
    refine xB ((ki.tmod 10+10).tmod 10==6) (fun h22 => ?_) (fun h22 => ?_)
    ·skip
     replace h22:=decT h22
     refine xO ((0:Int)≤(2:Int)) (by omega) ?_
     refine xN fun b23 => ?_
     refine xO ((25:Int)≠(0:Int)) (by omega) ?_
     refine xO (InK IntKind.i64 (co.tmod (25:Int)+(25:Int))) (tmR _ _ (by omega)) ?_
     refine xO ((25:Int)≠(0:Int)) (by omega) ?_
     refine xN fun b24 => ?_
     refine xB (fa) (fun h25 => ?_) (fun h25 => ?_)
     ·skip
      refine xGo [1,2,4,5,7,8] [0,1,2,3,5] _ _ _ (done3 ki ke co n cl cm bf af ws ks a0 a1 c0 c1 la ty fa fi hw hk g F hr0 hr1 b1 b2 b3 b24 (i.fst.set (Int.toNat 0) (IntKind.u64.wrap ↑(BitVec.ofInt IntKind.u64.bits (i.fst.getD (Int.toNat 0) 0) &&& BitVec.ofInt IntKind.u64.bits 255).toNat)) (i.fst.length) (by first | rfl | simp) (i.snd.snd.fst) (i.snd.snd.snd) ((ki.tmod 10+10).tmod 10) ((ke.tmod 6+6).tmod 6) (IntKind.i64.wrap ↑(BitVec.ofInt IntKind.i64.bits n &&& BitVec.ofInt IntKind.i64.bits 3).toNat) (some {block:=b23,off:=0}) (2) (2) ((co.tmod (25:Int)+(25:Int)).tmod (25:Int)) (IntKind.u64.wrap (IntKind.i64.wrap ↑(BitVec.ofInt IntKind.i64.bits n &&& BitVec.ofInt IntKind.i64.bits 3).toNat)) (cm) (by first | omega | (simp; omega)))
     ·skip
      refine xGo [1,2,4,5,7,8] [0,1,2,3,5] _ _ _ (done3 ki ke co n cl cm bf af ws ks a0 a1 c0 c1 la ty fa fi hw hk g F hr0 hr1 b1 b2 b3 b24 (i.fst.set (Int.toNat 0) (IntKind.u64.wrap ↑(BitVec.ofInt IntKind.u64.bits (i.fst.getD (Int.toNat 0) 0) &&& BitVec.ofInt IntKind.u64.bits 255).toNat)) (i.fst.length) (by first | rfl | simp) (i.snd.snd.fst) (i.snd.snd.snd) ((ki.tmod 10+10).tmod 10) ((ke.tmod 6+6).tmod 6) (IntKind.i64.wrap ↑(BitVec.ofInt IntKind.i64.bits n &&& BitVec.ofInt IntKind.i64.bits 3).toNat) (some {block:=b23,off:=0}) (2) (2) ((co.tmod (25:Int)+(25:Int)).tmod (25:Int)) (IntKind.u64.wrap (IntKind.i64.wrap ↑(BitVec.ofInt IntKind.i64.bits n &&& BitVec.ofInt IntKind.i64.bits 3).toNat)) (IntKind.i64.wrap ↑(BitVec.ofInt IntKind.i64.bits cm &&& BitVec.ofInt IntKind.i64.bits 31).toNat) (by first | omega | (simp; omega)))
    ·skip
     replace h22:=decF h22
     refine xO ((25:Int)≠(0:Int)) (by omega) ?_
     refine xO (InK IntKind.i64 (co.tmod (25:Int)+(25:Int))) (tmR _ _ (by omega)) ?_
     refine xO ((25:Int)≠(0:Int)) (by omega) ?_
     refine xN fun b26 => ?_
     refine xB (fa) (fun h27 => ?_) (fun h27 => ?_)
     ·skip
      refine xGo [1,2,4,5,7,8] [0,1,2,3,4] _ _ _ (done3 ki ke co n cl cm bf af ws ks a0 a1 c0 c1 la ty fa fi hw hk g F hr0 hr1 b1 b2 b3 b26 (i.fst.set (Int.toNat 0) (IntKind.u64.wrap ↑(BitVec.ofInt IntKind.u64.bits (i.fst.getD (Int.toNat 0) 0) &&& BitVec.ofInt IntKind.u64.bits 255).toNat)) (i.fst.length) (by first | rfl | simp) (i.snd.snd.fst) (i.snd.snd.snd) ((ki.tmod 10+10).tmod 10) ((ke.tmod 6+6).tmod 6) (IntKind.i64.wrap ↑(BitVec.ofInt IntKind.i64.bits n &&& BitVec.ofInt IntKind.i64.bits 3).toNat) (none) (0) (0) ((co.tmod (25:Int)+(25:Int)).tmod (25:Int)) (IntKind.u64.wrap (IntKind.i64.wrap ↑(BitVec.ofInt IntKind.i64.bits n &&& BitVec.ofInt IntKind.i64.bits 3).toNat)) (cm) (by first | omega | (simp; omega)))
     ·skip
      refine xGo [1,2,4,5,7,8] [0,1,2,3,4] _ _ _ (done3 ki ke co n cl cm bf af ws ks a0 a1 c0 c1 la ty fa fi hw hk g F hr0 hr1 b1 b2 b3 b26 (i.fst.set (Int.toNat 0) (IntKind.u64.wrap ↑(BitVec.ofInt IntKind.u64.bits (i.fst.getD (Int.toNat 0) 0) &&& BitVec.ofInt IntKind.u64.bits 255).toNat)) (i.fst.length) (by first | rfl | simp) (i.snd.snd.fst) (i.snd.snd.snd) ((ki.tmod 10+10).tmod 10) ((ke.tmod 6+6).tmod 6) (IntKind.i64.wrap ↑(BitVec.ofInt IntKind.i64.bits n &&& BitVec.ofInt IntKind.i64.bits 3).toNat) (none) (0) (0) ((co.tmod (25:Int)+(25:Int)).tmod (25:Int)) (IntKind.u64.wrap (IntKind.i64.wrap ↑(BitVec.ofInt IntKind.i64.bits n &&& BitVec.ofInt IntKind.i64.bits 3).toNat)) (IntKind.i64.wrap ↑(BitVec.ofInt IntKind.i64.bits cm &&& BitVec.ofInt IntKind.i64.bits 31).toNat) (by first | omega | (simp; omega)))
   ·skip
    replace h21:=ntF h21
    refine xB ((ki.tmod 10+10).tmod 10==6) (fun h28 => ?_) (fun h28 => ?_)
    ·skip
     replace h28:=decT h28
     refine xO ((0:Int)≤(2:Int)) (by omega) ?_
     refine xN fun b29 => ?_
     refine xO ((25:Int)≠(0:Int)) (by omega) ?_
     refine xO (InK IntKind.i64 (co.tmod (25:Int)+(25:Int))) (tmR _ _ (by omega)) ?_
     refine xO ((25:Int)≠(0:Int)) (by omega) ?_
     refine xN fun b30 => ?_
     refine xB (fa) (fun h31 => ?_) (fun h31 => ?_)
     ·skip
      refine xGo [1,2,4,5,7,8] [0,1,2,3,5] _ _ _ (done3 ki ke co n cl cm bf af ws ks a0 a1 c0 c1 la ty fa fi hw hk g F hr0 hr1 b1 b2 b3 b30 (i.fst) (i.fst.length) (by first | rfl | simp) (i.snd.snd.fst) (i.snd.snd.snd) ((ki.tmod 10+10).tmod 10) ((ke.tmod 6+6).tmod 6) (IntKind.i64.wrap ↑(BitVec.ofInt IntKind.i64.bits n &&& BitVec.ofInt IntKind.i64.bits 3).toNat) (some {block:=b29,off:=0}) (2) (2) ((co.tmod (25:Int)+(25:Int)).tmod (25:Int)) (IntKind.u64.wrap (IntKind.i64.wrap ↑(BitVec.ofInt IntKind.i64.bits n &&& BitVec.ofInt IntKind.i64.bits 3).toNat)) (cm) (by first | omega | (simp; omega)))
     ·skip
      refine xGo [1,2,4,5,7,8] [0,1,2,3,5] _ _ _ (done3 ki ke co n cl cm bf af ws ks a0 a1 c0 c1 la ty fa fi hw hk g F hr0 hr1 b1 b2 b3 b30 (i.fst) (i.fst.length) (by first | rfl | simp) (i.snd.snd.fst) (i.snd.snd.snd) ((ki.tmod 10+10).tmod 10) ((ke.tmod 6+6).tmod 6) (IntKind.i64.wrap ↑(BitVec.ofInt IntKind.i64.bits n &&& BitVec.ofInt IntKind.i64.bits 3).toNat) (some {block:=b29,off:=0}) (2) (2) ((co.tmod (25:Int)+(25:Int)).tmod (25:Int)) (IntKind.u64.wrap (IntKind.i64.wrap ↑(BitVec.ofInt IntKind.i64.bits n &&& BitVec.ofInt IntKind.i64.bits 3).toNat)) (IntKind.i64.wrap ↑(BitVec.ofInt IntKind.i64.bits cm &&& BitVec.ofInt IntKind.i64.bits 31).toNat) (by first | omega | (simp; omega)))
    ·skip
     replace h28:=decF h28
     refine xO ((25:Int)≠(0:Int)) (by omega) ?_
     refine xO (InK IntKind.i64 (co.tmod (25:Int)+(25:Int))) (tmR _ _ (by omega)) ?_
     refine xO ((25:Int)≠(0:Int)) (by omega) ?_
     refine xN fun b32 => ?_
     refine xB (fa) (fun h33 => ?_) (fun h33 => ?_)
     ·skip
      refine xGo [1,2,4,5,7,8] [0,1,2,3,4] _ _ _ (done3 ki ke co n cl cm bf af ws ks a0 a1 c0 c1 la ty fa fi hw hk g F hr0 hr1 b1 b2 b3 b32 (i.fst) (i.fst.length) (by first | rfl | simp) (i.snd.snd.fst) (i.snd.snd.snd) ((ki.tmod 10+10).tmod 10) ((ke.tmod 6+6).tmod 6) (IntKind.i64.wrap ↑(BitVec.ofInt IntKind.i64.bits n &&& BitVec.ofInt IntKind.i64.bits 3).toNat) (none) (0) (0) ((co.tmod (25:Int)+(25:Int)).tmod (25:Int)) (IntKind.u64.wrap (IntKind.i64.wrap ↑(BitVec.ofInt IntKind.i64.bits n &&& BitVec.ofInt IntKind.i64.bits 3).toNat)) (cm) (by first | omega | (simp; omega)))
     ·skip
      refine xGo [1,2,4,5,7,8] [0,1,2,3,4] _ _ _ (done3 ki ke co n cl cm bf af ws ks a0 a1 c0 c1 la ty fa fi hw hk g F hr0 hr1 b1 b2 b3 b32 (i.fst) (i.fst.length) (by first | rfl | simp) (i.snd.snd.fst) (i.snd.snd.snd) ((ki.tmod 10+10).tmod 10) ((ke.tmod 6+6).tmod 6) (IntKind.i64.wrap ↑(BitVec.ofInt IntKind.i64.bits n &&& BitVec.ofInt IntKind.i64.bits 3).toNat) (none) (0) (0) ((co.tmod (25:Int)+(25:Int)).tmod (25:Int)) (IntKind.u64.wrap (IntKind.i64.wrap ↑(BitVec.ofInt IntKind.i64.bits n &&& BitVec.ofInt IntKind.i64.bits 3).toNat)) (IntKind.i64.wrap ↑(BitVec.ofInt IntKind.i64.bits cm &&& BitVec.ofInt IntKind.i64.bits 31).toNat) (by first | omega | (simp; omega)))
  ·skip
   replace h20:=decF h20
   refine xB ((ki.tmod 10+10).tmod 10==6) (fun h34 => ?_) (fun h34 => ?_)
   ·skip
    replace h34:=decT h34
    refine xO ((0:Int)≤(2:Int)) (by omega) ?_
    refine xN fun b35 => ?_
    refine xO ((25:Int)≠(0:Int)) (by omega) ?_
    refine xO (InK IntKind.i64 (co.tmod (25:Int)+(25:Int))) (tmR _ _ (by omega)) ?_
    refine xO ((25:Int)≠(0:Int)) (by omega) ?_
    refine xN fun b36 => ?_
    refine xB (fa) (fun h37 => ?_) (fun h37 => ?_)
    ·skip
     refine xGo [1,2,4,5,7,8] [0,1,2,3,5] _ _ _ (done3 ki ke co n cl cm bf af ws ks a0 a1 c0 c1 la ty fa fi hw hk g F hr0 hr1 b1 b2 b3 b36 (i.fst) (i.fst.length) (by first | rfl | simp) (i.snd.snd.fst) (i.snd.snd.snd) ((ki.tmod 10+10).tmod 10) ((ke.tmod 6+6).tmod 6) (IntKind.i64.wrap ↑(BitVec.ofInt IntKind.i64.bits n &&& BitVec.ofInt IntKind.i64.bits 3).toNat) (some {block:=b35,off:=0}) (2) (2) ((co.tmod (25:Int)+(25:Int)).tmod (25:Int)) (IntKind.u64.wrap (IntKind.i64.wrap ↑(BitVec.ofInt IntKind.i64.bits n &&& BitVec.ofInt IntKind.i64.bits 3).toNat)) (cm) (by first | omega | (simp; omega)))
    ·skip
     refine xGo [1,2,4,5,7,8] [0,1,2,3,5] _ _ _ (done3 ki ke co n cl cm bf af ws ks a0 a1 c0 c1 la ty fa fi hw hk g F hr0 hr1 b1 b2 b3 b36 (i.fst) (i.fst.length) (by first | rfl | simp) (i.snd.snd.fst) (i.snd.snd.snd) ((ki.tmod 10+10).tmod 10) ((ke.tmod 6+6).tmod 6) (IntKind.i64.wrap ↑(BitVec.ofInt IntKind.i64.bits n &&& BitVec.ofInt IntKind.i64.bits 3).toNat) (some {block:=b35,off:=0}) (2) (2) ((co.tmod (25:Int)+(25:Int)).tmod (25:Int)) (IntKind.u64.wrap (IntKind.i64.wrap ↑(BitVec.ofInt IntKind.i64.bits n &&& BitVec.ofInt IntKind.i64.bits 3).toNat)) (IntKind.i64.wrap ↑(BitVec.ofInt IntKind.i64.bits cm &&& BitVec.ofInt IntKind.i64.bits 31).toNat) (by first | omega | (simp; omega)))
   ·skip
    replace h34:=decF h34
    refine xO ((25:Int)≠(0:Int)) (by omega) ?_
    refine xO (InK IntKind.i64 (co.tmod (25:Int)+(25:Int))) (tmR _ _ (by omega)) ?_
    refine xO ((25:Int)≠(0:Int)) (by omega) ?_
    refine xN fun b38 => ?_
    refine xB (fa) (fun h39 => ?_) (fun h39 => ?_)
    ·skip
     refine xGo [1,2,4,5,7,8] [0,1,2,3,4] _ _ _ (done3 ki ke co n cl cm bf af ws ks a0 a1 c0 c1 la ty fa fi hw hk g F hr0 hr1 b1 b2 b3 b38 (i.fst) (i.fst.length) (by first | rfl | simp) (i.snd.snd.fst) (i.snd.snd.snd) ((ki.tmod 10+10).tmod 10) ((ke.tmod 6+6).tmod 6) (IntKind.i64.wrap ↑(BitVec.ofInt IntKind.i64.bits n &&& BitVec.ofInt IntKind.i64.bits 3).toNat) (none) (0) (0) ((co.tmod (25:Int)+(25:Int)).tmod (25:Int)) (IntKind.u64.wrap (IntKind.i64.wrap ↑(BitVec.ofInt IntKind.i64.bits n &&& BitVec.ofInt IntKind.i64.bits 3).toNat)) (cm) (by first | omega | (simp; omega)))
    ·skip
     refine xGo [1,2,4,5,7,8] [0,1,2,3,4] _ _ _ (done3 ki ke co n cl cm bf af ws ks a0 a1 c0 c1 la ty fa fi hw hk g F hr0 hr1 b1 b2 b3 b38 (i.fst) (i.fst.length) (by first | rfl | simp) (i.snd.snd.fst) (i.snd.snd.snd) ((ki.tmod 10+10).tmod 10) ((ke.tmod 6+6).tmod 6) (IntKind.i64.wrap ↑(BitVec.ofInt IntKind.i64.bits n &&& BitVec.ofInt IntKind.i64.bits 3).toNat) (none) (0) (0) ((co.tmod (25:Int)+(25:Int)).tmod (25:Int)) (IntKind.u64.wrap (IntKind.i64.wrap ↑(BitVec.ofInt IntKind.i64.bits n &&& BitVec.ofInt IntKind.i64.bits 3).toNat)) (IntKind.i64.wrap ↑(BitVec.ofInt IntKind.i64.bits cm &&& BitVec.ofInt IntKind.i64.bits 31).toNat) (by first | omega | (simp; omega)))
end Go.Proofs.YthijdhenekmojaaGreatDoor
/- The model: what is created. -/
set_option maxRecDepth 100000
set_option maxHeartbeats 0
namespace Go.Proofs.YthijdhenekmojaaGreatDoor
open Go.Sx
def ekI(k:Int): Value:=.int .i64 k
def evT(x:Bool×PRow): Value:=.agg #[.bool x.1,.slice x.2.a x.2.xs.length x.2.c]
theorem kI: KeyOk Tryz.prog 3 ekI:=keyOk_int (kk:=.i64) (by kernel_rfl)
theorem kH: KeyOk Tryz.prog 116 ekP:=keyOk_two (by kernel_rfl)
abbrev TopM:= List (Int×Bool×PRow)
abbrev HanM:= List ((Int×Int)×PRow)
abbrev dS(cl ki ke:Int)(la:Bool)(wo:SV)(ha:Int)(pa:SV)(co:Int)(rw rk:SV)(n cm fr to_:Int): List SV:=[.i .i64 cl,.l .i64 ki,.i .i64 ke,.bo la,wo,.i .i64 ha,pa,.i .i64 co,rw,rk,.i .u64 n,.i .i64 cm,.i .i64 fr,.i .i64 to_]
structure RT where
 b:Bool
 T:TopM
def createM(c:Cfg)(T:TopM)(ke:Int)(la:Bool)(co:Int): RT:=
 if mayB ke=false then⟨co==1,T⟩ else
 if co=0 then(if (kget T ke).isSome=true∨(T.length:Int)=c.topics then⟨false,T⟩ else⟨true,kset T ke (la,.nil)⟩) else
 if co=14 then⟨(kget T ke).isSome,T⟩ else
 if co=15 then⟨!(kget T ke).isSome&&((T.length:Int)==c.topics),T⟩ else⟨co==17,T⟩
abbrev mdl(c:Cfg)(sv hv:SV)(mt:Nat): SE:=.pts 0 (cfgS c++[sv,.mb 1 mt,hv]) 81
abbrev topR(mt:Nat)(T:TopM): SE:=.rs 1 fun _=>KMap mt ekI evT T
theorem may_of{e k:Int}(h:e<0↔mayB k=false)(h2:¬e<0): mayB k=true:=by
 cases hm:mayB k with
 | true=>rfl
 | false=>exact absurd (h.2 hm) h2
theorem t_create(c:Cfg)(hc:c.Ok)(T:TopM)(mt:Nat)(sv hv:Value)(cl ke:Int)(la:Bool)(wo pa rw rk:Value)(ha co n cm fr to_:Int):
  Ct Tryz.prog 13 (⟨[.s (.p 0 0),.g (dS cl 1 ke la (.o wo) ha (.o pa) co (.o rw) (.o rk) n cm fr to_)],[mdl c (.o sv) (.o hv) mt,topR mt T],2,
   fun x=>x=createM c T ke la co,fun x=>[.s (.bo x.b)],fun x=>[mdl c (.o sv) (.o hv) mt,topR mt x.T]⟩:Sp RT):=by
 refine cX 148 xaI Tryz.func13 fun g F => ?_
 refine xN fun b1 => ?_
 refine xC Tryz.call31 (t_start (c) (by omega) (ke)) fun xn2 n2 hxn2 => ?_
 refine xB (decide (xn2<0)) (fun h3 => ?_) (fun h3 => ?_)
 ·skip
  replace h3:=decT h3
  exact xR ({b:=co==1,T:=T}) (by have hm:=hxn2.1 (by assumption); simp [createM,hm])
 ·skip
  replace h3:=decF h3
  refine xA ?_ ?_
  ·skip
   refine xMg 1 (mt) (T) (evT) kI (ke) (false,PRow.nil) true ?_
   refine xN fun b4 => ?_
   refine xN fun b5 => ?_
   refine xMl 1 (mt) (T) ekI evT ?_
   refine xB (co==0) (fun h6 => ?_) (fun h6 => ?_)
   ·skip
    replace h6:=decT h6
    refine xB ((kget T ke).isSome) (fun h7 => ?_) (fun h7 => ?_)
    ·skip
     exact xR ({b:=false,T:=T}) (by have hm:=may_of hxn2 (by assumption); simp [createM,hm, *])
    ·skip
     refine xB (↑(List.length T)==c.topics) (fun h8 => ?_) (fun h8 => ?_)
     ·skip
      replace h8:=decT h8
      exact xR ({b:=false,T:=T}) (by have hm:=may_of hxn2 (by assumption); simp [createM,hm, *])
     ·skip
      replace h8:=decF h8
      refine xMs 1 (mt) (T) (evT) kI (ke) (la,PRow.nil) ?_
      exact xR ({b:=true,T:=kset T ke (la,PRow.nil)}) (by have hm:=may_of hxn2 (by assumption); simp [createM,hm, *])
   ·skip
    replace h6:=decF h6
    refine xB (co==14) (fun h9 => ?_) (fun h9 => ?_)
    ·skip
     replace h9:=decT h9
     exact xR ({b:=(kget T ke).isSome,T:=T}) (by have hm:=may_of hxn2 (by assumption); simp [createM,hm, *])
    ·skip
     replace h9:=decF h9
     refine xB (co==15) (fun h10 => ?_) (fun h10 => ?_)
     ·skip
      replace h10:=decT h10
      refine xB (!(kget T ke).isSome) (fun h11 => ?_) (fun h11 => ?_)
      ·skip
       replace h11:=ntT h11
       exact xR ({b := ↑(List.length T)==c.topics,T:=T}) (by have hm:=may_of hxn2 (by assumption); simp [createM,hm, *])
      ·skip
       replace h11:=ntF h11
       exact xR ({b:=false,T:=T}) (by have hm:=may_of hxn2 (by assumption); simp [createM,hm, *])
     ·skip
      replace h10:=decF h10
      exact xR ({b:=co==17,T:=T}) (by have hm:=may_of hxn2 (by assumption); simp [createM,hm, *])
  ·skip
   refine xN fun b12 => ?_
   refine xMg 1 (mt) (T) (evT) kI (ke) (false,PRow.nil) true ?_
   refine xN fun b13 => ?_
   refine xMl 1 (mt) (T) ekI evT ?_
   refine xB (co==0) (fun h14 => ?_) (fun h14 => ?_)
   ·skip
    replace h14:=decT h14
    refine xB ((kget T ke).isSome) (fun h15 => ?_) (fun h15 => ?_)
    ·skip
     exact xR ({b:=false,T:=T}) (by have hm:=may_of hxn2 (by assumption); simp [createM,hm, *])
    ·skip
     refine xB (↑(List.length T)==c.topics) (fun h16 => ?_) (fun h16 => ?_)
     ·skip
      replace h16:=decT h16
      exact xR ({b:=false,T:=T}) (by have hm:=may_of hxn2 (by assumption); simp [createM,hm, *])
     ·skip
      replace h16:=decF h16
      refine xMs 1 (mt) (T) (evT) kI (ke) (la,PRow.nil) ?_
      exact xR ({b:=true,T:=kset T ke (la,PRow.nil)}) (by have hm:=may_of hxn2 (by assumption); simp [createM,hm, *])
   ·skip
    replace h14:=decF h14
    refine xB (co==14) (fun h17 => ?_) (fun h17 => ?_)
    ·skip
     replace h17:=decT h17
     exact xR ({b:=(kget T ke).isSome,T:=T}) (by have hm:=may_of hxn2 (by assumption); simp [createM,hm, *])
    ·skip
     replace h17:=decF h17
     refine xB (co==15) (fun h18 => ?_) (fun h18 => ?_)
     ·skip
      replace h18:=decT h18
      refine xB (!(kget T ke).isSome) (fun h19 => ?_) (fun h19 => ?_)
      ·skip
       replace h19:=ntT h19
       exact xR ({b := ↑(List.length T)==c.topics,T:=T}) (by have hm:=may_of hxn2 (by assumption); simp [createM,hm, *])
      ·skip
       replace h19:=ntF h19
       exact xR ({b:=false,T:=T}) (by have hm:=may_of hxn2 (by assumption); simp [createM,hm, *])
     ·skip
      replace h18:=decF h18
      exact xR ({b:=co==17,T:=T}) (by have hm:=may_of hxn2 (by assumption); simp [createM,hm, *])
end Go.Proofs.YthijdhenekmojaaGreatDoor
/- Rows that are copied. -/
set_option maxRecDepth 100000
set_option maxHeartbeats 0
namespace Go.Proofs.YthijdhenekmojaaGreatDoor
open Go.Sx
abbrev sR(args:List SA)(pre:List SE)(n:Nat)(ret:List SA)(post:Sx.Rest→List SE): Sp Sx.Rest:=⟨args,pre,n,fun _=>True,fun _=>ret,post⟩
theorem t_cloneS(xs:List Int)(n:Nat)(hn:xs.length=n)(hl:xs.length≤1000000): Ct Tryz.prog 46 (sR [.s (.s 0 n)] [.sl 0 (encI .u64) 0 1 xs 42] 1 [.s (.s 1 n)] fun z=>[.sl 0 (encI .u64) 0 1 xs 42,.rd 1 (encI .u64) 0 1 xs 42 z]):=by
 subst hn
 intro g
 obtain⟨b,a,c,h,rfl⟩:=rf_eta g
 cases a with
 | none=>
  refine ctr_sl_nil (i:=0) rfl ?_
  rintro rfl rfl
  refine cXg 8 xaI Tryz.func46 fun F => ?_
  refine xWr (.i 7) _ ⟨[(0,[]),(7,[])],9⟩ (view_nilrd (encI .u64) 0 1 42 ⟨[],[],(0,0)⟩ (sizedI _)) ?_
  exact xR ⟨[],[],(0,0)⟩ trivial
 | some ad=>
  refine cXg 8 xaI Tryz.func46 fun F => ?_
  refine xN fun b1 => ?_
  refine xAf 42 (some ⟨b1,0,none⟩) 0 xs (sizedI .u64) (oneI _) 8 (.slice (some ad) xs.length c) (by omega) (fun F=>src_sl (i:=0) (d:=0) (sz:=1) (t:=42) (by kernel_rfl)) (fun a' c' r => ?_)
  exact xR r trivial
theorem t_cloneR(xs:List Int)(z0:Sx.Rest)(n:Nat)(hn:xs.length=n)(hl:xs.length≤1000000): Ct Tryz.prog 46 (sR [.s (.s 0 n)] [.rd 0 (encI .u64) 0 1 xs 42 z0] 1 [.s (.s 1 n)] fun z=>[.rd 0 (encI .u64) 0 1 xs 42 z0,.rd 1 (encI .u64) 0 1 xs 42 z]):=by
 subst hn
 intro g
 obtain⟨b,a,c,h,rfl⟩:=rf_eta g
 cases a with
 | none=>
  refine ctr_rd_nil ?_
  rintro rfl rfl
  refine cXg 8 xaI Tryz.func46 fun F => ?_
  refine xWr (.i 7) _ ⟨[(0,[]),(7,[])],9⟩ (view_nilrd (encI .u64) 0 1 42 ⟨[],[],(0,0)⟩ (sizedI _)) ?_
  exact xR ⟨[],[],(0,0)⟩ trivial
 | some ad=>
  refine cXg 8 xaI Tryz.func46 fun F => ?_
  refine xN fun b1 => ?_
  refine xAf 42 (some ⟨b1,0,none⟩) 0 xs (sizedI .u64) (oneI _) 8 (.slice (some ad) xs.length c) (by omega) (fun F=>src_rd (i:=0) (d:=0) (sz:=1) (t:=42) (r:=z0) (by kernel_rfl)) (fun a' c' r => ?_)
  exact xR r trivial
end Go.Proofs.YthijdhenekmojaaGreatDoor
/- The model: what stays, and what is looked up. -/
set_option linter.unusedSimpArgs false
set_option maxRecDepth 100000
set_option maxHeartbeats 0
namespace Go.Proofs.YthijdhenekmojaaGreatDoor
open Go.Sx
abbrev mdl2(c:Cfg)(sv:SV)(mt mh:Nat): SE:=.pts 0 (cfgS c++[sv,.mb 1 mt,.mb 2 mh]) 81
abbrev hpR(mh:Nat)(H:HanM)(ps:List PRow): SE:=.rs 2 fun _=>HP 42 mh H ps
structure RP where
 b:Bool
 T:TopM
 ps:List PRow
def fitsB(c:Cfg)(T:TopM)(ke:Int)(n:Int): Bool:=(kget T ke).isSome&&(if ((kget T ke).getD (false,.nil)).1=true then decide (fitsC c n≥0) else decide (n≤c.small))
/-- is something kept? -/
def pubK(c:Cfg)(T:TopM)(ke n co:Int): Bool:=mayB ke&&decide (n≠0)&&decide (co=0)&&fitsB c T ke n
def pubB(c:Cfg)(T:TopM)(ke n co:Int): Bool:=
 if mayB ke=false∨n=0 then co==1 else
 if co=0 then fitsB c T ke n else if co=12 then !(kget T ke).isSome else
 if co=21 then(kget T ke).isSome && !fitsB c T ke n else decide (co=18∨co=16∨co=17)
def pubR(c:Cfg)(T:TopM)(ps:List PRow)(ke:Int)(ws:List Int)(co:Int)(x:RP): Prop:=
 x.b=pubB c T ke ws.length co∧(if pubK c T ke ws.length co=true then ∃q:PRow,q.xs=ws∧x.T=kset T ke (((kget T ke).getD (false,.nil)).1,q)∧x.ps=ps++[q] else x.T=T∧(x.ps=ps∨x.ps=ps++[]))
def PoolOk(T:TopM)(H:HanM)(ps:List PRow): Prop:=(∀x∈T,x.2.2 = .nil∨x.2.2∈ps)∧∀x∈H,x.2 = .nil∨x.2∈ps
theorem kget_mem{κ β : Type}[DecidableEq κ]{l:List (κ×β)}{k : κ}{x : β}(h:kget l k=some x): ∃k',(k',x)∈l:=by
 unfold kget at h
 cases hf:l.find? (fun x=>x.1==k) with
 | none=>rw [hf] at h; cases h
 | some y=>
  rw [hf] at h
  simp only [Option.map_some,Option.some.injEq] at h
  subst h
  exact⟨y.1,List.mem_of_find?_eq_some hf⟩
theorem pool_row{T:TopM}{H:HanM}{ps:List PRow}(h:PoolOk T H ps)(k:Int): ((kget T k).getD (false,.nil)).2 = .nil∨((kget T k).getD (false,.nil)).2∈ps:=by
 cases hk:kget T k with
 | none=>exact .inl rfl
 | some x=>
  obtain⟨k',hm⟩:=kget_mem hk
  exact h.1 _ hm
end Go.Proofs.YthijdhenekmojaaGreatDoor
/- The model: a new one; what a topic is. -/
set_option linter.unusedSimpArgs false
set_option maxRecDepth 100000
set_option maxHeartbeats 0
namespace Go.Proofs.YthijdhenekmojaaGreatDoor
open Go.Sx
structure NwT where
 mt:Nat
 mh:Nat
abbrev schA: SE:=.pts 0 [.sp 1 2 2] 85
abbrev schB: SE:=.pts 1 [.l .i64 1,.l .i64 0,.l .i64 3,.l .i64 0] 84
theorem t_new(c:Cfg)(hc:c.Ok): Ct Tryz.prog 8 (⟨[.g (cfgS c),.s (.sp 0 1 1)],[schA,schB],2,fun _=>True,fun _=>[.s (.p 2 0)],fun x=>[schA,schB,.pts 2 (cfgS c++[.sp 0 1 1,.mb 3 x.mt,.mb 4 x.mh]) 81,.rs 3 fun _=>KMap x.mt ekI evT [],.rs 4 fun _=>HP 42 x.mh [] []]⟩:Sp NwT):=by
 refine cX 19 xaI Tryz.func8 fun g F => ?_
 refine xN fun b1 => ?_
 refine xC Tryz.call26 (t_plan (c) (by omega)) fun _ n2 _ => ?_
 refine xF (decide ((↑(1:Nat):Int)<(1:Int))) rfl ?_
 refine xF (decide ((↑(1:Nat):Int)>(8:Int))) rfl ?_
 refine xT (decide ((0:Int)<(↑(1:Nat):Int))) rfl ?_
 refine xF (decide ((↑(2:Nat):Int)<(1:Int))) rfl ?_
 refine xF (decide ((↑(2:Nat):Int)>(6:Int))) rfl ?_
 refine xT (decide ((0:Int)<(↑(2:Nat):Int))) rfl ?_
 refine xN fun b3 => ?_
 refine xF (decide ((0:Int)≥(↑(1:Nat):Int))) rfl ?_
 refine xT (decide (IntKind.i64.wrap ((0:Int)+(1:Int))<(↑(2:Nat):Int))) rfl ?_
 refine xN fun b4 => ?_
 refine xF (decide ((0:Int)≥(↑(1:Nat):Int))) rfl ?_
 refine xF (decide (IntKind.i64.wrap (IntKind.i64.wrap ((0:Int)+(1:Int))+(1:Int))<(↑(2:Nat):Int))) rfl ?_
 refine xF (decide (IntKind.i64.wrap ((0:Int)+(1:Int))<(↑(1:Nat):Int))) rfl ?_
 refine xN fun b5 => ?_
 refine xN fun b6 => ?_
 refine xN fun b7 => ?_
 refine xEndL [5,6] [.raw b5 (.map #[] 0),.raw b6 (.map #[] 0)] [.res (KMap b5 ekI evT []),.res (HP 42 b6 [] [])] [66,67] pv_new ?_
 exact xR ({mt:=b5,mh:=b6}) (by assumption)
end Go.Proofs.YthijdhenekmojaaGreatDoor
/- The model: what is read, if it isn't told to be there. -/
set_option linter.unusedSimpArgs false
set_option maxRecDepth 100000
set_option maxHeartbeats 0
namespace Go.Proofs.YthijdhenekmojaaGreatDoor
open Go.Sx
def readN(T:TopM)(ke:Int)(co:Int): Bool:=
 if mayB ke=false then co==1 else
 if co=12 then !(kget T ke).isSome else if co=20 then(kget T ke).isSome&&((((kget T ke).getD (false,.nil)).2.xs.length:Int)==0) else decide (co=19∨co=17)
theorem t_readN(c:Cfg)(hc:c.Ok)(T:TopM)(mt:Nat)(sv hv:Value)(cl ke:Int)(la:Bool)(wo pa rw rk:Value)(ha co n cm fr to_:Int)(hco:co≠0):
  Ct Tryz.prog 13 (⟨[.s (.p 0 0),.g (dS cl 4 ke la (.o wo) ha (.o pa) co (.o rw) (.o rk) n cm fr to_)],[mdl c (.o sv) (.o hv) mt,topR mt T],2,
   fun x=>x=readN T ke co,fun x=>[.s (.bo x)],fun x=>[mdl c (.o sv) (.o hv) mt,topR mt T]⟩:Sp Bool):=by
 refine cX 148 xbI Tryz.func13 fun g F => ?_
 refine xN fun b1 => ?_
 refine xC Tryz.call31 (t_start (c) (by omega) (ke)) fun xn2 n2 hxn2 => ?_
 refine xB (decide (xn2<0)) (fun h3 => ?_) (fun h3 => ?_)
 ·skip
  replace h3:=decT h3
  exact xR (co==1) (by have hm:=hxn2.1 (by assumption); simp [readN,hm])
 ·skip
  replace h3:=decF h3
  refine xA ?_ ?_
  ·skip
   refine xMg 1 (mt) (T) (evT) kI (ke) (false,PRow.nil) true ?_
   refine xN fun b4 => ?_
   refine xN fun b5 => ?_
   refine xN fun b6 => ?_
   refine xF (co==0) (by first | (simp; done) | (simp; omega)) ?_
   refine xB (co==12) (fun h7 => ?_) (fun h7 => ?_)
   ·skip
    replace h7:=decT h7
    exact xR (!(kget T ke).isSome) (by have hm:=may_of hxn2 (by assumption); simp [readN,hm, *])
   ·skip
    replace h7:=decF h7
    refine xB (co==20) (fun h8 => ?_) (fun h8 => ?_)
    ·skip
     replace h8:=decT h8
     refine xB ((kget T ke).isSome) (fun h9 => ?_) (fun h9 => ?_)
     ·skip
      exact xR ((↑((kget T ke).getD (false,PRow.nil)).snd.xs.length:Int)==(0:Int)) (by have hm:=may_of hxn2 (by assumption); simp [readN,hm, *])
     ·skip
      exact xR (false) (by have hm:=may_of hxn2 (by assumption); simp [readN,hm, *])
    ·skip
     replace h8:=decF h8
     refine xB (co==19) (fun h10 => ?_) (fun h10 => ?_)
     ·skip
      replace h10:=decT h10
      exact xR (true) (by have hm:=may_of hxn2 (by assumption); simp [readN,hm, *])
     ·skip
      replace h10:=decF h10
      refine xB (co==17) (fun h11 => ?_) (fun h11 => ?_)
      ·skip
       replace h11:=decT h11
       exact xR (true) (by have hm:=may_of hxn2 (by assumption); simp [readN,hm, *])
      ·skip
       replace h11:=decF h11
       exact xR (false) (by have hm:=may_of hxn2 (by assumption); simp [readN,hm, *])
  ·skip
   refine xN fun b12 => ?_
   refine xMg 1 (mt) (T) (evT) kI (ke) (false,PRow.nil) true ?_
   refine xN fun b13 => ?_
   refine xN fun b14 => ?_
   refine xF (co==0) (by first | (simp; done) | (simp; omega)) ?_
   refine xB (co==12) (fun h15 => ?_) (fun h15 => ?_)
   ·skip
    replace h15:=decT h15
    exact xR (!(kget T ke).isSome) (by have hm:=may_of hxn2 (by assumption); simp [readN,hm, *])
   ·skip
    replace h15:=decF h15
    refine xB (co==20) (fun h16 => ?_) (fun h16 => ?_)
    ·skip
     replace h16:=decT h16
     refine xB ((kget T ke).isSome) (fun h17 => ?_) (fun h17 => ?_)
     ·skip
      exact xR ((↑((kget T ke).getD (false,PRow.nil)).snd.xs.length:Int)==(0:Int)) (by have hm:=may_of hxn2 (by assumption); simp [readN,hm, *])
     ·skip
      exact xR (false) (by have hm:=may_of hxn2 (by assumption); simp [readN,hm, *])
    ·skip
     replace h16:=decF h16
     refine xB (co==19) (fun h18 => ?_) (fun h18 => ?_)
     ·skip
      replace h18:=decT h18
      exact xR (true) (by have hm:=may_of hxn2 (by assumption); simp [readN,hm, *])
     ·skip
      replace h18:=decF h18
      refine xB (co==17) (fun h19 => ?_) (fun h19 => ?_)
      ·skip
       replace h19:=decT h19
       exact xR (true) (by have hm:=may_of hxn2 (by assumption); simp [readN,hm, *])
      ·skip
       replace h19:=decF h19
       exact xR (false) (by have hm:=may_of hxn2 (by assumption); simp [readN,hm, *])
end Go.Proofs.YthijdhenekmojaaGreatDoor
/- The chapter's example. -/
set_option linter.unusedSimpArgs false
set_option maxRecDepth 100000
set_option maxHeartbeats 0
namespace Go.Proofs.YthijdhenekmojaaGreatDoor
open Go.Sx
theorem aw1{t:Int}(h:1≤t∧t≤4): createM (cf t) [] 5 false 0=⟨true,[(5,false,.nil)]⟩:=by
 unfold createM
 rw [if_neg (by decide),if_pos rfl,if_neg]
 ·rfl
 ·rintro(h1 | h1)
  ·cases h1
  ·simp [cf] at h1; omega
theorem t_awake: Ct Tryz.prog 7 (sB [] [] 0 true []):=by
 refine cX 30 xaI Tryz.func7 fun g F => ?_
 refine xC Tryz.call9 (t_config (1)) fun xn1 n1 hxn1 => ?_
 refine xN fun b2 => ?_
 refine xN fun b3 => ?_
 refine xC Tryz.call8 (t_new (cf xn1) (cf_ok (by assumption))) fun xn5 n5 hxn5 => ?_
 refine xC Tryz.call13 (t_readN (cf xn1) (cf_ok (by assumption)) ([]) (xn5.mt) (Value.slice (some {block:=b3,off:=0}) 1 1) (Value.map (some xn5.mh)) (0) (5) (false) (Value.slice none 0 0) (Value.slice none 0 0) (Value.slice none 0 0) (Value.slice none 0 0) (0) (12) (0) (0) (0) (0) (by omega)) fun xn8 n8 hxn8 => ?_
 subst hxn8
 refine xC Tryz.call13 (t_create (cf xn1) (cf_ok (by assumption)) ([]) (xn5.mt) (Value.slice (some {block:=b3,off:=0}) 1 1) (Value.map (some xn5.mh)) (0) (5) (false) (Value.slice none 0 0) (Value.slice none 0 0) (Value.slice none 0 0) (Value.slice none 0 0) (0) (0) (0) (0) (0) (0)) fun xn12 n12 hxn12 => ?_
 subst hxn12
 refine xC Tryz.call13 (t_readN (cf xn1) (cf_ok (by assumption)) ((createM (cf xn1) [] (5:Int) false (0:Int)).2) (xn5.mt) (Value.slice (some {block:=b3,off:=0}) 1 1) (Value.map (some xn5.mh)) (0) (5) (false) (Value.slice none 0 0) (Value.slice none 0 0) (Value.slice none 0 0) (Value.slice none 0 0) (0) (12) (0) (0) (0) (0) (by omega)) fun xn15 n15 hxn15 => ?_
 subst hxn15
 refine xT (readN [] 5 12) rfl ?_
 refine xT ((createM (cf xn1) [] 5 false 0).b) (by rw [aw1 hxn1]) ?_
 exact xR (!readN (createM (cf xn1) [] 5 false 0).T 5 12) (by rw [aw1 hxn1]; rfl)
end Go.Proofs.YthijdhenekmojaaGreatDoor
/- Of no model nothing comes. -/
set_option linter.unusedSimpArgs false
set_option maxRecDepth 100000
set_option maxHeartbeats 0
namespace Go.Proofs.YthijdhenekmojaaGreatDoor
open Go.Sx
def encD(_:Unit): List Value:=List.replicate 14 (.int .i64 0)
theorem oneD: ∀y,∀u∈encD y,u.oneCell'=true:=by
 intro y u hu
 obtain⟨_,rfl⟩:=List.mem_replicate.1 hu
 rfl
theorem t_DoNil(v0 v1 v2 v3 v4 v5 v6 v7 v8 v9 v10 v11 v12 v13:Value): Ct Tryz.prog 13 (sU [.s .np,.g [.o v0,.o v1,.o v2,.o v3,.o v4,.o v5,.o v6,.o v7,.o v8,.o v9,.o v10,.o v11,.o v12,.o v13]] [] 0 [.s .no] []):=by
 refine cX 148 xaI Tryz.func13 fun g F => ?_
 refine xN fun b1 => ?_
 exact xR () trivial
theorem t_KeysNil: Ct Tryz.prog 16 (sU [.s .np] [] 0 [.s .ns] []):=by
 refine cX 11 xaI Tryz.func16 fun g F => ?_
 exact xR () trivial
theorem t_topicNil(k:Int): Ct Tryz.prog 18 (sU [.s .np,.s (.i .i64 k)] [] 0 [.s .no,.s .ns,.s .no] []):=by
 refine cX 25 xaI Tryz.func18 fun g F => ?_
 exact xR () trivial
theorem t_newZ: Ct Tryz.prog 8 (sU [.g [.l .i64 0,.l .i64 0,.l .i64 0,.l .i64 0,.l .i64 0,.l .i64 0,.l .i64 0,.l .i64 0,.l .i64 0],.s (.sp 0 1 1)] [schA,schB] 2 [.s .np] [schA,schB]):=by
 refine cX 19 xxI Tryz.func8 fun g F => ?_
 refine xN fun b1 => ?_
 refine xN fun b2 => ?_
 refine xN fun b3 => ?_
 refine xN fun b4 => ?_
 refine xN fun b5 => ?_
 refine xN fun b6 => ?_
 refine xN fun b7 => ?_
 exact xR () trivial
theorem t_newN(c:Cfg)(hc:c.Ok): Ct Tryz.prog 8 (sU [.g (cfgS c),.s .ns] [] 0 [.s .np] []):=by
 refine cX 19 xaI Tryz.func8 fun g F => ?_
 refine xN fun b1 => ?_
 refine xC Tryz.call26 (t_plan (c) (by omega)) fun _ n2 _ => ?_
 exact xR () trivial
structure AC where
 a:Option Addr
 c:Nat
theorem t_orderNil: Ct Tryz.prog 22 (⟨[.s .ns],[],0,fun _=>True,fun x=>[.s (.o (.slice x.a 0 x.c))],fun _=>[]⟩:Sp AC):=by
 refine cX 35 xxI Tryz.func22 fun g F => ?_
 refine xAf 46 none (enc:=encD) () [] (sz:=14) (fun _=>rfl) oneD 176 (.slice none 0 0) (by simp) (fun F=>src_nil) (fun a c r => ?_)
 exact xR ⟨a,c⟩ trivial
end Go.Proofs.YthijdhenekmojaaGreatDoor
/- Of no model nothing comes; of what is not right there is none: the law's walk. -/
set_option linter.unusedSimpArgs false
set_option maxRecDepth 100000
set_option maxHeartbeats 0
namespace Go.Proofs.YthijdhenekmojaaGreatDoor
open Go.Sx
def xm: Cx:=⟨[10],[],[],[]⟩
theorem xmI: Inl Tryz.prog xm:=inl_ok ⟨Tryz.call10,trivial⟩ trivial
theorem fourteen{cs:List Value}(h:cs.length=14): ∃v0 v1 v2 v3 v4 v5 v6 v7 v8 v9 v10 v11 v12 v13:Value,cs=[v0,v1,v2,v3,v4,v5,v6,v7,v8,v9,v10,v11,v12,v13]:=by
 match cs,h with
 | [v0,v1,v2,v3,v4,v5,v6,v7,v8,v9,v10,v11,v12,v13],_=>exact⟨v0,v1,v2,v3,v4,v5,v6,v7,v8,v9,v10,v11,v12,v13,rfl⟩
theorem t_law(ki ke co n cl cm bf af:Int)(ws ks:List Int)(a0 a1:Option Addr)(c0 c1:Nat)(la ty fa fi:Bool)(hw:ws.length≤maxLen)(hk:ks.length≤maxLen)(F:Fr)(hr0:RowF F a0 .i64 ws)(hr1:RowF F a1 .i64 ks):
  CtF Tryz.prog F 5 (sB [.g (opF ki ke co n cl cm bf af ws ks a0 a1 c0 c1 la ty fa fi)] [] 0 true []):=by
 refine cF 56 xmI Tryz.func5 fun g => ?_
 refine xN fun b1 => ?_
 refine xC Tryz.call18 (t_topicNil (1)) fun _ n2 _ => ?_
 refine xC Tryz.call7 (t_awake) fun xn4 n4 hxn4 => ?_
 subst hxn4
 refine xT (true) rfl ?_
 refine xCF Tryz.call12 (fun F' hF=>t_done ki ke co n cl cm bf af ws ks a0 a1 c0 c1 la ty fa fi hw hk F' (hr0.mono hF) (hr1.mono hF)) fun cs ν hcs => ?_
 obtain⟨v0,v1,v2,v3,v4,v5,v6,v7,v8,v9,v10,v11,v12,v13,rfl⟩:=fourteen hcs
 refine xC Tryz.call13 (t_DoNil (v0) (v1) (v2) (v3) (v4) (v5) (v6) (v7) (v8) (v9) (v10) (v11) (v12) (v13)) fun _ n1 _ => ?_
 refine xC Tryz.call16 (t_KeysNil) fun _ n3 _ => ?_
 refine xN fun b4 => ?_
 refine xN fun b5 => ?_
 refine xC Tryz.call8 (t_newZ) fun _ n9 _ => ?_
 refine xC Tryz.call9 (t_config (1)) fun xn12 n12 hxn12 => ?_
 refine xC Tryz.call8 (t_newN (cf xn12) (cf_ok (by assumption))) fun _ n17 _ => ?_
 refine xC Tryz.call22 (t_orderNil) fun xn23 n23 hxn23 => ?_
 exact xR (true) rfl
end Go.Proofs.YthijdhenekmojaaGreatDoor

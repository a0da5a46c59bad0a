/- Walks: what functions of the program and of the document compute, part 2 of those on which ModelPlays rests. -/
import Derived.Test.YthijdhenekmojaaGreatDoorRtA

set_option linter.unusedVariables false
set_option linter.unusedSimpArgs false
/- The model: what is published, as it is done. -/
set_option linter.unusedSimpArgs false
set_option maxRecDepth 100000
set_option maxHeartbeats 0
namespace Go.Proofs.YthijdhenekmojaaGreatDoor
open Go.Sx
def doPubR(c:Cfg)(T:TopM)(ps:List PRow)(ke:Int)(ws:List Int)(co:Int)(x:RQ): Prop:=
 if mayB ke=false∨ws.length=0 then x=⟨co==1,T,ps⟩ else pubR' c T ps ((kget T ke).getD (false,.nil)).1 (kget T ke).isSome ke ws co x
theorem doPub_a{c:Cfg}{T:TopM}{ps:List PRow}{ke:Int}{ws:List Int}{co:Int}(h:mayB ke=false∨ws.length=0): doPubR c T ps ke ws co ⟨co==1,T,ps⟩:=by unfold doPubR; rw [if_pos h]
theorem doPub_b{c:Cfg}{T:TopM}{ps:List PRow}{ke:Int}{ws:List Int}{co:Int}{y:RQ}(h1:mayB ke=true)(h2:¬((ws.length:Nat):Int)=0)(hy:pubR' c T ps ((kget T ke).getD (false,.nil)).1 (kget T ke).isSome ke ws co y): doPubR c T ps ke ws co ⟨y.b,y.T,y.ps⟩:=by
 unfold doPubR
 rw [if_neg]
 ·exact hy
 ·rintro(h | h)
  ·rw [h1] at h; cases h
  ·omega
theorem t_doPub(c:Cfg)(hc:c.Ok)(T:TopM)(H:HanM)(ps:List PRow)(mt mh:Nat)(sv:Value)(cl ke:Int)(la:Bool)(ws:List Int)(m:Nat)(hm:ws.length=m)(hl:ws.length≤1000000)(pa rw rk:Value)(ha co n cm fr to_:Int):
  Ct Tryz.prog 13 (⟨[.s (.p 0 0),.g (dS cl 3 ke la (.s 3 m) ha (.o pa) co (.o rw) (.o rk) n cm fr to_)],[mdl2 c (.o sv) mt mh,topR mt T,hpR mh H ps,.sl 3 (Sx.encI .u64) 0 1 ws 42],4,
   doPubR c T ps ke ws co,fun x=>[.s (.bo x.b)],fun x=>[mdl2 c (.o sv) mt mh,topR mt x.T,hpR mh H x.ps,.sl 3 (Sx.encI .u64) 0 1 ws 42]⟩:Sp RQ):=by
 subst hm
 refine cX 148 xaI Tryz.func13 fun g F => ?_
 refine xN fun b1 => ?_
 refine xC Tryz.call31 (t_start (c) (by omega) (ke)) fun xn2 n2 hxn2 => ?_
 refine xB (decide (xn2<0)) (fun h3 => ?_) (fun h3 => ?_)
 ·skip
  replace h3:=decT h3
  exact xR ({b:=co==1,T:=T,ps:=ps}) (doPub_a (.inl (hxn2.1 (by assumption))))
 ·skip
  replace h3:=decF h3
  refine xB ((↑ws.length:Int)==(0:Int)) (fun h4 => ?_) (fun h4 => ?_)
  ·skip
   replace h4:=decT h4
   exact xR ({b:=co==1,T:=T,ps:=ps}) (doPub_a (.inr (by omega)))
  ·skip
   replace h4:=decF h4
   refine xA ?_ ?_
   ·skip
    refine xMg 1 (mt) (T) (evT) kI (ke) (false,PRow.nil) true ?_
    refine xN fun b5 => ?_
    refine xC Tryz.call33 (t_pub (c) (by omega) (T) (H) (ps) (mt) (mh) (SV.v g (SV.o sv)) (Value.slice ((kget T ke).getD (false,PRow.nil)).snd.a ((kget T ke).getD (false,PRow.nil)).snd.xs.length ((kget T ke).getD (false,PRow.nil)).snd.c) (cl) (3) (ke) (la) (((kget T ke).getD (false,PRow.nil)).fst) ((kget T ke).isSome) (ws) (ws.length) (by omega) (by omega) (SV.v g (SV.o pa)) (SV.v g (SV.o rw)) (SV.v g (SV.o rk)) (ha) (co) (n) (cm) (fr) (to_)) fun xn7 n7 hxn7 => ?_
    exact xR (xn7) (doPub_b (may_of hxn2 (by assumption)) (by assumption) (by assumption))
   ·skip
    refine xN fun b8 => ?_
    refine xMg 1 (mt) (T) (evT) kI (ke) (false,PRow.nil) true ?_
    refine xC Tryz.call33 (t_pub (c) (by omega) (T) (H) (ps) (mt) (mh) (SV.v g (SV.o sv)) (Value.slice ((kget T ke).getD (false,PRow.nil)).snd.a ((kget T ke).getD (false,PRow.nil)).snd.xs.length ((kget T ke).getD (false,PRow.nil)).snd.c) (cl) (3) (ke) (la) (((kget T ke).getD (false,PRow.nil)).fst) ((kget T ke).isSome) (ws) (ws.length) (by omega) (by omega) (SV.v g (SV.o pa)) (SV.v g (SV.o rw)) (SV.v g (SV.o rk)) (ha) (co) (n) (cm) (fr) (to_)) fun xn10 n10 hxn10 => ?_
    exact xR (xn10) (doPub_b (may_of hxn2 (by assumption)) (by assumption) (by assumption))
end Go.Proofs.YthijdhenekmojaaGreatDoor
/- The model: what is read. -/
set_option linter.unusedSimpArgs false
set_option maxRecDepth 100000
set_option maxHeartbeats 0
namespace Go.Proofs.YthijdhenekmojaaGreatDoor
open Go.Sx
def TOk(c:Cfg)(T:TopM): Prop := ∀x∈T,x.2.1=true→x.2.2.xs.length=0∨fitsC c x.2.2.xs.length≥0
theorem tok_get{c:Cfg}{T:TopM}(h:TOk c T)(k:Int)(h1:((kget T k).getD (false,.nil)).1=true)(h2:((((kget T k).getD (false,.nil)).2.xs.length:Nat):Int)>0): fitsC c ((((kget T k).getD (false,.nil)).2.xs.length:Nat):Int)=0∨fitsC c ((((kget T k).getD (false,.nil)).2.xs.length:Nat):Int)=1:=by
 cases hk:kget T k with
 | none=>rw [hk] at h1; cases h1
 | some x=>
  obtain⟨k',hm⟩:=kget_mem hk
  rw [hk] at h1 h2
  simp only [Option.getD_some] at h1 h2 ⊢
  rcases h _ hm h1 with h3 | h3
  ·simp only at h3; omega
  ·simp only at h3
   unfold fitsC at h3 ⊢
   split <;> rename_i h4
   ·rw [if_pos h4] at h3; omega
   ·rw [if_neg h4] at h3
    split <;> rename_i h5
    ·exact .inl rfl
    ·rw [if_neg h5] at h3
     split <;> rename_i h6
     ·exact .inr rfl
     ·rw [if_neg h6] at h3; omega
def sizeB(c:Cfg)(lg:Bool)(xs:List Int): Int:=if (lg&&decide ((xs.length:Int)>0))=true then(if fitsC c xs.length=0 then c.s0 else c.s1) else c.small
def readB(c:Cfg)(lg:Bool)(xs:List Int)(is:Bool)(ws:List Int)(co:Int): Bool:=
 if co=0 then is&&decide ((xs.length:Int)>0)&&((ws.length:Int)==sizeB c lg xs)&&decide (ws.take xs.length=xs) else
 if co=12 then !is else if co=20 then is&&((xs.length:Int)==0) else decide (co=19∨co=17)
theorem t_fitsK(c:Cfg)(hc:c.Ok)(n:Int)(k:Int)(hk:fitsC c n=k): Ct Tryz.prog 59 (sU [.g (cfgS c),.s (.i .i64 n)] [] 0 [.s (.l .i64 k)] []):=by
 subst hk
 intro g
 refine ctr_post (t_fits c hc n g) ?_
 rintro v L ⟨x,ν,hx,rfl,rfl⟩
 have hx:x=fitsC c n:=hx
 subst hx
 exact⟨_,fun _ _ h=>h,(),ν,trivial,rfl,rfl⟩
abbrev rdC(c:Cfg)(lg:Bool)(xs:List Int)(z:Sx.Rest)(is:Bool)(sv tv hv kv:Value)(ws:List Int)(co n cm:Int): Prop:=
  Ct Tryz.prog 34 (⟨[.s (.p 0 0),.g [.i .i64 co,.s 2 ws.length,.o kv,.i .u64 n,.i .i64 cm],.g [.bo lg,.s 1 xs.length],.s (.bo is)],[.pts 0 (cfgS c++[.o sv,.o tv,.o hv]) 81,.rd 1 (Sx.encI .u64) 0 1 xs 42 z,.sl 2 (Sx.encI .u64) 0 1 ws 42],3,
   fun x=>x=readB c lg xs is ws co,fun x=>[.s (.bo x)],fun x=>[.pts 0 (cfgS c++[.o sv,.o tv,.o hv]) 81,.rd 1 (Sx.encI .u64) 0 1 xs 42 z,.sl 2 (Sx.encI .u64) 0 1 ws 42]⟩:Sp Bool)
theorem fits0_le{c:Cfg}{n:Int}(h:fitsC c n=0): n≤c.s0:=by unfold fitsC at h; split at h <;> (try split at h) <;> (try split at h) <;> omega
theorem fits1_le{c:Cfg}{n:Int}(h:fitsC c n=1): n≤c.s1:=by unfold fitsC at h; split at h <;> (try split at h) <;> (try split at h) <;> omega
theorem t_rd0(c:Cfg)(hc:c.Ok)(xs:List Int)(z:Sx.Rest)(is:Bool)(hf:fitsC c (xs.length:Int)=0)(hsz:(xs.length:Int)≤96)(sv tv hv kv:Value)(ws:List Int)(hl:ws.length≤1000000)(co n cm:Int): rdC c true xs z is sv tv hv kv ws co n cm:=by
 have hle:=fits0_le hf
 refine cX 84 xaI Tryz.func34 fun g F => ?_
 refine xN fun b1 => ?_
 refine xN fun b2 => ?_
 refine xB (co==0) (fun h3 => ?_) (fun h3 => ?_)
 ·skip
  replace h3:=decT h3
  refine xT (true) rfl ?_
  refine xB (decide ((↑xs.length:Int)>(0:Int))) (fun h4 => ?_) (fun h4 => ?_)
  ·skip
   replace h4:=decT h4
   refine xC Tryz.call59 (t_fitsK (c) (by omega) (↑xs.length) _ (by omega)) fun _ n6 _ => ?_
   refine xB (is) (fun h7 => ?_) (fun h7 => ?_)
   ·skip
    refine xT (decide ((↑xs.length:Int)>(0:Int))) (by first | (simp; done) | (simp; omega)) ?_
    refine xB (↑ws.length==c.s0) (fun h8 => ?_) (fun h8 => ?_)
    ·skip
     replace h8:=decT h8
     refine xO ((0:Int)≤(↑xs.length:Int)∧(↑xs.length:Int)≤(↑ws.length:Int)) (by omega) ?_
     refine xC Tryz.call60 (t_equal (ws) (xs) (z) ((↑xs.length:Int).toNat) (xs.length) (by omega) (by omega) (by omega)) fun xn9 n9 hxn9 => ?_
     subst hxn9
     exact xR (decide (List.take (↑xs.length:Int).toNat ws=xs)) (by have e:decide ((xs.length:Int)>0)=true:=decide_eq_true (by omega); simp only [readB,sizeB,e]; simp [*]; done)
    ·skip
     replace h8:=decF h8
     exact xR (false) (by have e:decide ((xs.length:Int)>0)=true:=decide_eq_true (by omega); simp only [readB,sizeB,e]; simp [*]; done)
   ·skip
    exact xR (false) (by simp [readB,sizeB, *]; done)
  ·skip
   replace h4:=decF h4
   refine xB (is) (fun h10 => ?_) (fun h10 => ?_)
   ·skip
    refine xF (decide ((↑xs.length:Int)>(0:Int))) (decide_eq_false (by omega)) ?_
    exact xR (false) (by have e:decide ((xs.length:Int)>0)=false:=decide_eq_false (by omega); simp only [readB,sizeB,e]; simp [*]; done)
   ·skip
    exact xR (false) (by simp [readB,sizeB, *]; done)
 ·skip
  replace h3:=decF h3
  refine xB (co==12) (fun h11 => ?_) (fun h11 => ?_)
  ·skip
   replace h11:=decT h11
   exact xR (!is) (by simp [readB,sizeB, *]; done)
  ·skip
   replace h11:=decF h11
   refine xB (co==20) (fun h12 => ?_) (fun h12 => ?_)
   ·skip
    replace h12:=decT h12
    refine xB (is) (fun h13 => ?_) (fun h13 => ?_)
    ·skip
     exact xR ((↑xs.length:Int)==(0:Int)) (by simp [readB,sizeB, *]; done)
    ·skip
     exact xR (false) (by simp [readB,sizeB, *]; done)
   ·skip
    replace h12:=decF h12
    refine xB (co==19) (fun h14 => ?_) (fun h14 => ?_)
    ·skip
     replace h14:=decT h14
     exact xR (true) (by simp [readB,sizeB, *]; done)
    ·skip
     replace h14:=decF h14
     refine xB (co==17) (fun h15 => ?_) (fun h15 => ?_)
     ·skip
      replace h15:=decT h15
      exact xR (true) (by simp [readB,sizeB, *]; done)
     ·skip
      replace h15:=decF h15
      exact xR (false) (by simp [readB,sizeB, *]; done)
theorem t_rd1(c:Cfg)(hc:c.Ok)(xs:List Int)(z:Sx.Rest)(is:Bool)(hf:fitsC c (xs.length:Int)=1)(hsz:(xs.length:Int)≤96)(sv tv hv kv:Value)(ws:List Int)(hl:ws.length≤1000000)(co n cm:Int): rdC c true xs z is sv tv hv kv ws co n cm:=by
 have hle:=fits1_le hf
 refine cX 84 xaI Tryz.func34 fun g F => ?_
 refine xN fun b1 => ?_
 refine xN fun b2 => ?_
 refine xB (co==0) (fun h3 => ?_) (fun h3 => ?_)
 ·skip
  replace h3:=decT h3
  refine xT (true) rfl ?_
  refine xB (decide ((↑xs.length:Int)>(0:Int))) (fun h4 => ?_) (fun h4 => ?_)
  ·skip
   replace h4:=decT h4
   refine xC Tryz.call59 (t_fitsK (c) (by omega) (↑xs.length) _ (by omega)) fun _ n6 _ => ?_
   refine xB (is) (fun h7 => ?_) (fun h7 => ?_)
   ·skip
    refine xT (decide ((↑xs.length:Int)>(0:Int))) (by first | (simp; done) | (simp; omega)) ?_
    refine xB (↑ws.length==c.s1) (fun h8 => ?_) (fun h8 => ?_)
    ·skip
     replace h8:=decT h8
     refine xO ((0:Int)≤(↑xs.length:Int)∧(↑xs.length:Int)≤(↑ws.length:Int)) (by omega) ?_
     refine xC Tryz.call60 (t_equal (ws) (xs) (z) ((↑xs.length:Int).toNat) (xs.length) (by omega) (by omega) (by omega)) fun xn9 n9 hxn9 => ?_
     subst hxn9
     exact xR (decide (List.take (↑xs.length:Int).toNat ws=xs)) (by have e:decide ((xs.length:Int)>0)=true:=decide_eq_true (by omega); simp only [readB,sizeB,e]; simp [*]; done)
    ·skip
     replace h8:=decF h8
     exact xR (false) (by have e:decide ((xs.length:Int)>0)=true:=decide_eq_true (by omega); simp only [readB,sizeB,e]; simp [*]; done)
   ·skip
    exact xR (false) (by simp [readB,sizeB, *]; done)
  ·skip
   replace h4:=decF h4
   refine xB (is) (fun h10 => ?_) (fun h10 => ?_)
   ·skip
    refine xF (decide ((↑xs.length:Int)>(0:Int))) (decide_eq_false (by omega)) ?_
    exact xR (false) (by have e:decide ((xs.length:Int)>0)=false:=decide_eq_false (by omega); simp only [readB,sizeB,e]; simp [*]; done)
   ·skip
    exact xR (false) (by simp [readB,sizeB, *]; done)
 ·skip
  replace h3:=decF h3
  refine xB (co==12) (fun h11 => ?_) (fun h11 => ?_)
  ·skip
   replace h11:=decT h11
   exact xR (!is) (by simp [readB,sizeB, *]; done)
  ·skip
   replace h11:=decF h11
   refine xB (co==20) (fun h12 => ?_) (fun h12 => ?_)
   ·skip
    replace h12:=decT h12
    refine xB (is) (fun h13 => ?_) (fun h13 => ?_)
    ·skip
     exact xR ((↑xs.length:Int)==(0:Int)) (by simp [readB,sizeB, *]; done)
    ·skip
     exact xR (false) (by simp [readB,sizeB, *]; done)
   ·skip
    replace h12:=decF h12
    refine xB (co==19) (fun h14 => ?_) (fun h14 => ?_)
    ·skip
     replace h14:=decT h14
     exact xR (true) (by simp [readB,sizeB, *]; done)
    ·skip
     replace h14:=decF h14
     refine xB (co==17) (fun h15 => ?_) (fun h15 => ?_)
     ·skip
      replace h15:=decT h15
      exact xR (true) (by simp [readB,sizeB, *]; done)
     ·skip
      replace h15:=decF h15
      exact xR (false) (by simp [readB,sizeB, *]; done)
theorem t_rd2(c:Cfg)(hc:c.Ok)(xs:List Int)(h0:(xs.length:Int)=0)(z:Sx.Rest)(is:Bool)(sv tv hv kv:Value)(ws:List Int)(hl:ws.length≤1000000)(co n cm:Int): rdC c true xs z is sv tv hv kv ws co n cm:=by
 refine cX 84 xaI Tryz.func34 fun g F => ?_
 refine xN fun b1 => ?_
 refine xN fun b2 => ?_
 refine xB (co==0) (fun h3 => ?_) (fun h3 => ?_)
 ·skip
  replace h3:=decT h3
  refine xT (true) rfl ?_
  refine xF (decide ((↑xs.length:Int)>(0:Int))) (by simp [*]; done) ?_
  refine xB (is) (fun h4 => ?_) (fun h4 => ?_)
  ·skip
   refine xF (decide ((↑xs.length:Int)>(0:Int))) (by simp [*]; done) ?_
   exact xR (false) (by simp [readB,sizeB, *]; done)
  ·skip
   exact xR (false) (by simp [readB,sizeB, *]; done)
 ·skip
  replace h3:=decF h3
  refine xB (co==12) (fun h5 => ?_) (fun h5 => ?_)
  ·skip
   replace h5:=decT h5
   exact xR (!is) (by simp [readB,sizeB, *]; done)
  ·skip
   replace h5:=decF h5
   refine xB (co==20) (fun h6 => ?_) (fun h6 => ?_)
   ·skip
    replace h6:=decT h6
    refine xB (is) (fun h7 => ?_) (fun h7 => ?_)
    ·skip
     exact xR ((↑xs.length:Int)==(0:Int)) (by simp [readB,sizeB, *]; done)
    ·skip
     exact xR (false) (by simp [readB,sizeB, *]; done)
   ·skip
    replace h6:=decF h6
    refine xB (co==19) (fun h8 => ?_) (fun h8 => ?_)
    ·skip
     replace h8:=decT h8
     exact xR (true) (by simp [readB,sizeB, *]; done)
    ·skip
     replace h8:=decF h8
     refine xB (co==17) (fun h9 => ?_) (fun h9 => ?_)
     ·skip
      replace h9:=decT h9
      exact xR (true) (by simp [readB,sizeB, *]; done)
     ·skip
      replace h9:=decF h9
      exact xR (false) (by simp [readB,sizeB, *]; done)
theorem t_rd3(c:Cfg)(hc:c.Ok)(xs:List Int)(z:Sx.Rest)(is:Bool)(hsz:(xs.length:Int)≤c.small)(sv tv hv kv:Value)(ws:List Int)(hl:ws.length≤1000000)(co n cm:Int): rdC c false xs z is sv tv hv kv ws co n cm:=by
 refine cX 84 xaI Tryz.func34 fun g F => ?_
 refine xN fun b1 => ?_
 refine xN fun b2 => ?_
 refine xB (co==0) (fun h3 => ?_) (fun h3 => ?_)
 ·skip
  replace h3:=decT h3
  refine xF (false) rfl ?_
  refine xB (is) (fun h4 => ?_) (fun h4 => ?_)
  ·skip
   refine xB (decide ((↑xs.length:Int)>(0:Int))) (fun h5 => ?_) (fun h5 => ?_)
   ·skip
    replace h5:=decT h5
    refine xB (↑ws.length==c.small) (fun h6 => ?_) (fun h6 => ?_)
    ·skip
     replace h6:=decT h6
     refine xO ((0:Int)≤(↑xs.length:Int)∧(↑xs.length:Int)≤(↑ws.length:Int)) (by omega) ?_
     refine xC Tryz.call60 (t_equal (ws) (xs) (z) ((↑xs.length:Int).toNat) (xs.length) (by omega) (by omega) (by omega)) fun xn7 n7 hxn7 => ?_
     subst hxn7
     exact xR (decide (List.take (↑xs.length:Int).toNat ws=xs)) (by have e:decide ((xs.length:Int)>0)=true:=decide_eq_true (by omega); simp only [readB,sizeB,e]; simp [*]; done)
    ·skip
     replace h6:=decF h6
     exact xR (false) (by simp [readB,sizeB, *]; done)
   ·skip
    replace h5:=decF h5
    exact xR (false) (by have e:decide ((xs.length:Int)>0)=false:=decide_eq_false (by omega); simp only [readB,sizeB,e]; simp [*]; done)
  ·skip
   exact xR (false) (by simp [readB,sizeB, *]; done)
 ·skip
  replace h3:=decF h3
  refine xB (co==12) (fun h8 => ?_) (fun h8 => ?_)
  ·skip
   replace h8:=decT h8
   exact xR (!is) (by simp [readB,sizeB, *]; done)
  ·skip
   replace h8:=decF h8
   refine xB (co==20) (fun h9 => ?_) (fun h9 => ?_)
   ·skip
    replace h9:=decT h9
    refine xB (is) (fun h10 => ?_) (fun h10 => ?_)
    ·skip
     exact xR ((↑xs.length:Int)==(0:Int)) (by simp [readB,sizeB, *]; done)
    ·skip
     exact xR (false) (by simp [readB,sizeB, *]; done)
   ·skip
    replace h9:=decF h9
    refine xB (co==19) (fun h11 => ?_) (fun h11 => ?_)
    ·skip
     replace h11:=decT h11
     exact xR (true) (by simp [readB,sizeB, *]; done)
    ·skip
     replace h11:=decF h11
     refine xB (co==17) (fun h12 => ?_) (fun h12 => ?_)
     ·skip
      replace h12:=decT h12
      exact xR (true) (by simp [readB,sizeB, *]; done)
     ·skip
      replace h12:=decF h12
      exact xR (false) (by simp [readB,sizeB, *]; done)
theorem t_rd(c:Cfg)(hc:c.Ok)(lg:Bool)(xs:List Int)(z:Sx.Rest)(m1:Nat)(hm1:xs.length=m1)(is:Bool)(ht:lg=true→(xs.length:Int)>0→fitsC c (xs.length:Int)=0∨fitsC c (xs.length:Int)=1)(hsz:(xs.length:Int)≤96)(hsm:lg=false→(xs.length:Int)≤c.small)(sv tv hv kv:Value)(ws:List Int)(m:Nat)(hm:ws.length=m)(hl:ws.length≤1000000)(co n cm:Int):
  Ct Tryz.prog 34 (⟨[.s (.p 0 0),.g [.i .i64 co,.s 2 m,.o kv,.i .u64 n,.i .i64 cm],.g [.bo lg,.s 1 m1],.s (.bo is)],[.pts 0 (cfgS c++[.o sv,.o tv,.o hv]) 81,.rd 1 (Sx.encI .u64) 0 1 xs 42 z,.sl 2 (Sx.encI .u64) 0 1 ws 42],3,
   fun x=>x=readB c lg xs is ws co,fun x=>[.s (.bo x)],fun x=>[.pts 0 (cfgS c++[.o sv,.o tv,.o hv]) 81,.rd 1 (Sx.encI .u64) 0 1 xs 42 z,.sl 2 (Sx.encI .u64) 0 1 ws 42]⟩:Sp Bool):=by
 subst hm
 subst hm1
 cases lg with
 | false=>exact t_rd3 c hc xs z is (hsm rfl) sv tv hv kv ws hl co n cm
 | true=>
  cases xs with
  | nil=>exact t_rd2 c hc [] rfl z is sv tv hv kv ws hl co n cm
  | cons x xs=>
   rcases ht rfl (by simp only [List.length_cons]; omega) with h | h
   ·exact t_rd0 c hc _ z is h hsz sv tv hv kv ws hl co n cm
   ·exact t_rd1 c hc _ z is h hsz sv tv hv kv ws hl co n cm
end Go.Proofs.YthijdhenekmojaaGreatDoor
/- The model: what is read, as it is done. -/
set_option linter.unusedSimpArgs false
set_option maxRecDepth 100000
set_option maxHeartbeats 0
namespace Go.Proofs.YthijdhenekmojaaGreatDoor
open Go.Sx
/-- topics have what fits -/
structure TOkS (c:Cfg) (T:TopM):Prop where
 sz:∀k,((((kget T k).getD (false,.nil)).2.xs.length:Nat):Int)≤96
 sm:∀k,((kget T k).getD (false,.nil)).1=false→((((kget T k).getD (false,.nil)).2.xs.length:Nat):Int)≤c.small
 lg:∀k,((kget T k).getD (false,.nil)).1=true→((((kget T k).getD (false,.nil)).2.xs.length:Nat):Int)>0→fitsC c ((((kget T k).getD (false,.nil)).2.xs.length:Nat):Int)=0∨fitsC c ((((kget T k).getD (false,.nil)).2.xs.length:Nat):Int)=1
def readD(c:Cfg)(T:TopM)(ke:Int)(ws:List Int)(co:Int): Bool:=
 if mayB ke=false then co==1 else readB c ((kget T ke).getD (false,.nil)).1 ((kget T ke).getD (false,.nil)).2.xs (kget T ke).isSome ws co
theorem t_doRead(c:Cfg)(hc:c.Ok)(T:TopM)(ht:TOkS c T)(H:HanM)(ps:List PRow)(hp:PoolOk T H ps)(mt mh:Nat)(sv:Value)(cl ke:Int)(la:Bool)(ws:List Int)(m:Nat)(hm:ws.length=m)(hl:ws.length≤1000000)(wo pa rk:Value)(ha co n cm fr to_:Int):
  Ct Tryz.prog 13 (⟨[.s (.p 0 0),.g (dS cl 4 ke la (.o wo) ha (.o pa) co (.s 3 m) (.o rk) n cm fr to_)],[mdl2 c (.o sv) mt mh,topR mt T,hpR mh H ps,.sl 3 (Sx.encI .u64) 0 1 ws 42],4,
   fun x=>x=readD c T ke ws co,fun x=>[.s (.bo x)],fun x=>[mdl2 c (.o sv) mt mh,topR mt T,hpR mh H ps,.sl 3 (Sx.encI .u64) 0 1 ws 42]⟩:Sp Bool):=by
 subst hm
 have hp':=pool_row hp ke
 refine cXv 148 xaI Tryz.func13 _ ⟨[(0,(cfgS c++[SV.o sv,SV.mb 1 mt,SV.mb 2 mh]).map (SV.g id)),(1,[]),(3,[]),(2,[]),(4,[])],5⟩ (fun g=>hp_at (te:=42) (mh:=mh) (H:=H) (ps:=ps) 2) fun g F => ?_
 refine xN fun b1 => ?_
 refine xC Tryz.call31 (t_start (c) (by omega) (ke)) fun xn2 n2 hxn2 => ?_
 refine xB (decide (xn2<0)) (fun h3 => ?_) (fun h3 => ?_)
 ·skip
  replace h3:=decT h3
  refine xEnd [3,4] [.res (KMap mh ekP PRow.v (H)),.res (Pool 42 (ps))] 2 (HP 42 mh (H) (ps)) pv_fold ?_
  exact xR (co==1) (by have hm:=hxn2.1 (by assumption); simp [readD,hm])
 ·skip
  replace h3:=decF h3
  refine xA ?_ ?_
  ·skip
   refine xMp 1 4 (mt) (T) (evT) 42 kI (ke) (false,PRow.nil) true (·.2) (ps) (fun x=>.l [.l [.n,.i x],.n]) (pool_row hp _) ?_
   refine xN fun b4 => ?_
   refine xC Tryz.call34 (t_rd (c) (by omega) (((kget T ke).getD (false,PRow.nil)).fst) (((kget T ke).getD (false,PRow.nil)).snd.xs) (((kget T ke).getD (false,PRow.nil)).snd.r) (((kget T ke).getD (false,PRow.nil)).snd.xs.length) (by omega) ((kget T ke).isSome) (ht.lg _) (ht.sz _) (ht.sm _) (SV.v g (SV.o sv)) (SV.v g (SV.mb 1 mt)) (SV.v g (SV.mb 2 mh)) (SV.v g (SV.o rk)) (ws) (ws.length) (by omega) (by omega) (co) (n) (cm)) fun xn6 n6 hxn6 => ?_
   subst hxn6
   refine xEnd [1,3,6] [.res (KMap mh ekP PRow.v (H)),.res (PoolX 42 (ps) (((kget T ke).getD (false,PRow.nil)).snd)),PRow.ent 42 (((kget T ke).getD (false,PRow.nil)).snd)] 2 (HP 42 mh (H) (ps)) pv_end0 ?_
   exact xR (readB c ((kget T ke).getD (false,PRow.nil)).fst ((kget T ke).getD (false,PRow.nil)).snd.xs (kget T ke).isSome ws co) (by have hm:=may_of hxn2 (by assumption); simp [readD,hm])
  ·skip
   refine xN fun b7 => ?_
   refine xMp 1 4 (mt) (T) (evT) 42 kI (ke) (false,PRow.nil) true (·.2) (ps) (fun x=>.l [.l [.n,.i x],.n]) (pool_row hp _) ?_
   refine xC Tryz.call34 (t_rd (c) (by omega) (((kget T ke).getD (false,PRow.nil)).fst) (((kget T ke).getD (false,PRow.nil)).snd.xs) (((kget T ke).getD (false,PRow.nil)).snd.r) (((kget T ke).getD (false,PRow.nil)).snd.xs.length) (by omega) ((kget T ke).isSome) (ht.lg _) (ht.sz _) (ht.sm _) (SV.v g (SV.o sv)) (SV.v g (SV.mb 1 mt)) (SV.v g (SV.mb 2 mh)) (SV.v g (SV.o rk)) (ws) (ws.length) (by omega) (by omega) (co) (n) (cm)) fun xn9 n9 hxn9 => ?_
   subst hxn9
   refine xEnd [1,4,6] [.res (KMap mh ekP PRow.v (H)),.res (PoolX 42 (ps) (((kget T ke).getD (false,PRow.nil)).snd)),PRow.ent 42 (((kget T ke).getD (false,PRow.nil)).snd)] 2 (HP 42 mh (H) (ps)) pv_end0 ?_
   exact xR (readB c ((kget T ke).getD (false,PRow.nil)).fst ((kget T ke).getD (false,PRow.nil)).snd.xs (kget T ke).isSome ws co) (by have hm:=may_of hxn2 (by assumption); simp [readD,hm])
end Go.Proofs.YthijdhenekmojaaGreatDoor
/- The model: what is pinned, as it is done; what a topic is. -/
set_option linter.unusedSimpArgs false
set_option maxRecDepth 100000
set_option maxHeartbeats 0
namespace Go.Proofs.YthijdhenekmojaaGreatDoor
open Go.Sx
def doPinR(T:TopM)(H:HanM)(ke cl co n:Int)(x:RH): Prop:=
 if mayB ke=false then x=⟨co==1,H⟩ else pinR H ((kget T ke).getD (false,.nil)).2 ((kget T ke).getD (false,.nil)).1 (kget T ke).isSome cl co n x
theorem doPin_a{T:TopM}{H:HanM}{ke cl co n:Int}(h:mayB ke=false): doPinR T H ke cl co n ⟨co==1,H⟩:=by unfold doPinR; rw [if_pos h]
theorem doPin_b{T:TopM}{H:HanM}{ke cl co n:Int}{y:RH}(h:mayB ke=true)(hy:pinR H ((kget T ke).getD (false,.nil)).2 ((kget T ke).getD (false,.nil)).1 (kget T ke).isSome cl co n y): doPinR T H ke cl co n y:=by
 unfold doPinR
 rw [if_neg (by rw [h]; decide)]
 exact hy
theorem t_doPin(c:Cfg)(hc:c.Ok)(T:TopM)(H:HanM)(ps:List PRow)(mt mh:Nat)(sv:Value)(cl ke:Int)(la:Bool)(wo pa rw rk:Value)(ha co n cm fr to_:Int)(hn:0≤n∧n≤1000000):
  Ct Tryz.prog 13 (⟨[.s (.p 0 0),.g (dS cl 5 ke la (.o wo) ha (.o pa) co (.o rw) (.o rk) n cm fr to_)],[mdl2 c (.o sv) mt mh,topR mt T,hpR mh H ps],3,
   doPinR T H ke cl co n,fun x=>[.s (.bo x.b)],fun x=>[mdl2 c (.o sv) mt mh,topR mt T,hpR mh x.H ps]⟩:Sp RH):=by
 refine cX 148 xaI Tryz.func13 fun g F => ?_
 refine xN fun b1 => ?_
 refine xC Tryz.call31 (t_start (c) (by omega) (ke)) fun xn2 n2 hxn2 => ?_
 refine xB (decide (xn2<0)) (fun h3 => ?_) (fun h3 => ?_)
 ·skip
  replace h3:=decT h3
  exact xR ({b:=co==1,H:=H}) (doPin_a (hxn2.1 (by assumption)))
 ·skip
  replace h3:=decF h3
  refine xA ?_ ?_
  ·skip
   refine xMg 1 (mt) (T) (evT) kI (ke) (false,PRow.nil) true ?_
   refine xN fun b4 => ?_
   refine xC Tryz.call35 (t_pin (c) (((kget T ke).getD (false,PRow.nil)).snd) (H) (ps) (mt) (mh) (sv) (cl) (5) (ke) (la) (((kget T ke).getD (false,PRow.nil)).fst) ((kget T ke).isSome) (wo) (pa) (rw) (rk) (ha) (co) (n) (cm) (fr) (to_) (by omega)) fun xn6 n6 hxn6 => ?_
   exact xR (xn6) (doPin_b (may_of hxn2 (by assumption)) hxn6)
  ·skip
   refine xN fun b7 => ?_
   refine xMg 1 (mt) (T) (evT) kI (ke) (false,PRow.nil) true ?_
   refine xC Tryz.call35 (t_pin (c) (((kget T ke).getD (false,PRow.nil)).snd) (H) (ps) (mt) (mh) (sv) (cl) (5) (ke) (la) (((kget T ke).getD (false,PRow.nil)).fst) ((kget T ke).isSome) (wo) (pa) (rw) (rk) (ha) (co) (n) (cm) (fr) (to_) (by omega)) fun xn9 n9 hxn9 => ?_
   exact xR (xn9) (doPin_b (may_of hxn2 (by assumption)) hxn9)
end Go.Proofs.YthijdhenekmojaaGreatDoor
/- The model: what is done, of any kind. -/
set_option linter.unusedSimpArgs false
set_option maxRecDepth 100000
set_option maxHeartbeats 0
namespace Go.Proofs.YthijdhenekmojaaGreatDoor
open Go.Sx
structure RO where
 b:Bool
 T:TopM
 H:HanM
 ps:List PRow
def StepO(c:Cfg)(T:TopM)(H:HanM)(ps:List PRow)(la:Bool)(d:DR)(x:RO): Prop:=
 (d.ki=0→x=⟨false,T,H,ps⟩)∧
 (d.ki=1→x=⟨(createM c T d.ke la d.co).b,(createM c T d.ke la d.co).T,H,ps⟩)∧
 (d.ki=2→x=⟨(removeM T d.ke d.co).b,(removeM T d.ke d.co).T,H,ps⟩)∧
 (d.ki=3→x.H=H∧doPubR c T ps d.ke d.ws d.co ⟨x.b,x.T,x.ps⟩)∧
 (d.ki=4→x=⟨readD c T d.ke d.rw d.co,T,H,ps⟩)∧
 (d.ki=5→x.T=T∧x.ps=ps∧doPinR T H d.ke d.cl d.co d.n ⟨x.b,x.H⟩)∧
 (d.ki=6→∃p0 p1,d.pt=[p0,p1]∧x=⟨doFldO H d.cl d.ha d.co d.n p0,T,H,ps⟩)∧
 (d.ki=7→x=⟨decide (d.co=0∨d.co=1),T,H,ps⟩)∧
 (d.ki=8→x=⟨decide ((d.co=0∧d.rk=keysOf T)∨d.co=17),T,H,ps⟩)∧
 (d.ki=9→x=⟨decide (d.co=0),T,H,ps⟩)
abbrev dG(d:DR)(la:Bool): List SV:=[.i .i64 d.cl,.i .i64 d.ki,.i .i64 d.ke,.bo la,.s 6 d.ws.length,.i .i64 d.ha,.s 7 d.pt.length,.i .i64 d.co,.s 8 d.rw.length,.s 9 d.rk.length,.i .u64 d.n,.i .i64 d.cm,.i .i64 d.fr,.i .i64 d.to_]
abbrev dE(d:DR): List SE:=[.sl 6 (Go.Sx.encI .u64) 0 1 d.ws 42,.sl 7 (Go.Sx.encI .i64) 0 1 d.pt 3,.sl 8 (Go.Sx.encI .u64) 0 1 d.rw 42,.sl 9 (Go.Sx.encI .i64) 0 1 d.rk 3]
abbrev pO(c:Cfg)(T:TopM)(H:HanM)(ps:List PRow)(mt mh:Nat)(d:DR): List SE:=[mdl3 c mt mh,topR mt T,hpR mh H ps,schC,schD]++dE d
abbrev spO(c:Cfg)(T:TopM)(H:HanM)(ps:List PRow)(mt mh:Nat)(d:DR)(la:Bool): Sp RO:=
 ⟨[.s (.p 0 0),.g (dG d la)],pO c T H ps mt mh d,10,StepO c T H ps la d,fun x=>[.s (.bo x.b)],fun x=>pO c x.T x.H x.ps mt mh d⟩
/-- of one kind -/
theorem uni{c:Cfg}{T:TopM}{H:HanM}{ps:List PRow}{mt mh:Nat}{d:DR}{la:Bool}{F:Fr}{g:Nat→Rf}{A' M:List Ent}{Q':Value→List Ent→Prop}(hv:View ((pO c T H ps mt mh d).map (SE.e g)) (A'++M))
  (h:∀F':Fr,(∀p∈F.f,p∈F'.f)→CtrF Tryz.prog F' 13 (((spO c T H ps mt mh d la).args.map (SA.v g)).toArray) A' Q')
  (hq:∀v post,Q' v post→∃x,StepO c T H ps la d x∧v = .bool x.b∧View (M++post) ((pO c x.T x.H x.ps mt mh d).map (SE.e g))) :
  CtrF Tryz.prog F 13 (((spO c T H ps mt mh d la).args.map (SA.v g)).toArray) ((pO c T H ps mt mh d).map (SE.e g)) ((spO c T H ps mt mh d la).Q g):=by
 refine ctf_fr hv h ?_
 intro v post hp
 obtain⟨x,hx,hv,hw⟩:=hq v post hp
 exact⟨_,hw,x,g,hx,hv,rfl⟩
theorem CtF.ctrF{P:Program}{F:Fr}{f:FuncId}{ι : Type}{s:Sp ι}(h:CtF P F f s)(g:Nat→Rf): CtrF P F f (s.args.map (SA.v g)).toArray (s.pre.map (SE.e g)) (s.Q g):=fun w hi=>h g w hi
theorem t_DoO(c:Cfg)(hc:c.Ok)(T:TopM)(H:HanM)(ps:List PRow)(ht:TOkS c T)(hp:PoolOk T H ps)(hin:∀x∈T,InK .i64 x.1)(hT:T.length≤1000000)(hH:HOkM H ps)(mt mh:Nat)(d:DR)(hd:DOk d)(la:Bool)(F:Fr)(hF:HF F):
  CtF Tryz.prog F 13 (spO c T H ps mt mh d la):=by
 intro g
 obtain⟨⟨hk0,hk9,ha0,ha3,hn0,hn3,hws,hww,h6,h6n⟩,hrw,hrk⟩:=hd
 have s0:∃y,y=Value.slice (some ⟨(g 4).b,0,none⟩) 1 1:=⟨_,rfl⟩
 have hcase:d.ki=0∨d.ki=1∨d.ki=2∨d.ki=3∨d.ki=4∨d.ki=5∨d.ki=6∨d.ki=7∨d.ki=8∨d.ki=9:=by omega
 obtain⟨cl,ki,ke,ha,co,n,cm,fr,to_,ws,pt,rw,rk⟩:=d
 simp only at hk0 hk9 ha0 ha3 hn0 hn3 hws hww h6 h6n hrw hrk hcase
 rcases hcase with rfl | rfl | rfl | rfl | rfl | rfl | rfl | rfl | rfl | rfl
 ·refine uni (M:=([hpR mh H ps,schC,schD]++dE ⟨cl,0,ke,ha,co,n,cm,fr,to_,ws,pt,rw,rk⟩).map (SE.e g)) (fun _ _ h=>h) (fun F' hF'=>CtF.ctrF ((t_zeroO c T mt mh (.slice (some ⟨(g 4).b,0,none⟩) 1 1) cl ke la (.slice (g 6).a ws.length (g 6).c) (.slice (g 7).a pt.length (g 7).c) (.slice (g 8).a rw.length (g 8).c) (.slice (g 9).a rk.length (g 9).c) ha co n cm fr to_).fr) g) ?_
  rintro v post ⟨x,ν,hx,rfl,rfl⟩
  obtain rfl:x=false:=hx
  exact⟨⟨false,T,H,ps⟩,by simp [StepO],rfl,view_pick [7,8,0,1,2,3,4,5,6] (by kernel_rfl)⟩
 ·refine uni (M:=([hpR mh H ps,schC,schD]++dE ⟨cl,1,ke,ha,co,n,cm,fr,to_,ws,pt,rw,rk⟩).map (SE.e g)) (fun _ _ h=>h) (fun F' hF'=>CtF.ctrF ((t_create2 c hc T mt mh (.slice (some ⟨(g 4).b,0,none⟩) 1 1) cl ke la (.slice (g 6).a ws.length (g 6).c) (.slice (g 7).a pt.length (g 7).c) (.slice (g 8).a rw.length (g 8).c) (.slice (g 9).a rk.length (g 9).c) ha co n cm fr to_).fr) g) ?_
  rintro v post ⟨x,ν,hx,rfl,rfl⟩
  obtain rfl:x=createM c T ke la co:=hx
  exact⟨⟨(createM c T ke la co).b,(createM c T ke la co).T,H,ps⟩,by simp [StepO],rfl,view_pick [7,8,0,1,2,3,4,5,6] (by kernel_rfl)⟩
 ·refine uni (M:=([hpR mh H ps,schC,schD]++dE ⟨cl,2,ke,ha,co,n,cm,fr,to_,ws,pt,rw,rk⟩).map (SE.e g)) (fun _ _ h=>h) (fun F' hF'=>CtF.ctrF ((t_remove c hc T mt (.slice (some ⟨(g 4).b,0,none⟩) 1 1) (.map (some mh)) cl ke la (.slice (g 6).a ws.length (g 6).c) (.slice (g 7).a pt.length (g 7).c) (.slice (g 8).a rw.length (g 8).c) (.slice (g 9).a rk.length (g 9).c) ha co n cm fr to_).fr) g) ?_
  rintro v post ⟨x,ν,hx,rfl,rfl⟩
  obtain rfl:x=removeM T ke co:=hx
  exact⟨⟨(removeM T ke co).b,(removeM T ke co).T,H,ps⟩,by simp [StepO],rfl,view_pick [7,8,0,1,2,3,4,5,6] (by kernel_rfl)⟩
 ·refine uni (M:=([schC,schD,.sl 7 (Go.Sx.encI .i64) 0 1 pt 3,.sl 8 (Go.Sx.encI .u64) 0 1 rw 42,.sl 9 (Go.Sx.encI .i64) 0 1 rk 3]).map (SE.e g)) (view_pick [0,1,2,5,3,4,6,7,8] (by kernel_rfl)) (fun F' hF'=>CtF.ctrF ((t_doPub c hc T H ps mt mh (.slice (some ⟨(g 4).b,0,none⟩) 1 1) cl ke la ws ws.length rfl (by omega) (.slice (g 7).a pt.length (g 7).c) (.slice (g 8).a rw.length (g 8).c) (.slice (g 9).a rk.length (g 9).c) ha co n cm fr to_).fr) (fun r=>if r=3 then g 6 else g r)) ?_
  rintro v post ⟨x,ν,hx,rfl,rfl⟩
  exact⟨⟨x.b,x.T,H,x.ps⟩,by simp only [StepO]; simp; exact hx,rfl,view_pick [5,6,7,0,1,8,2,3,4] (by kernel_rfl)⟩
 ·refine uni (M:=([schC,schD,.sl 6 (Go.Sx.encI .u64) 0 1 ws 42,.sl 7 (Go.Sx.encI .i64) 0 1 pt 3,.sl 9 (Go.Sx.encI .i64) 0 1 rk 3]).map (SE.e g)) (view_pick [0,1,2,7,3,4,5,6,8] (by kernel_rfl)) (fun F' hF'=>CtF.ctrF ((t_doRead c hc T ht H ps hp mt mh (.slice (some ⟨(g 4).b,0,none⟩) 1 1) cl ke la rw rw.length rfl (by omega) (.slice (g 6).a ws.length (g 6).c) (.slice (g 7).a pt.length (g 7).c) (.slice (g 9).a rk.length (g 9).c) ha co n cm fr to_).fr) (fun r=>if r=3 then g 8 else g r)) ?_
  rintro v post ⟨x,ν,hx,rfl,rfl⟩
  obtain rfl:x=readD c T ke rw co:=hx
  exact⟨⟨readD c T ke rw co,T,H,ps⟩,by simp [StepO],rfl,view_pick [5,6,7,0,1,2,3,8,4] (by kernel_rfl)⟩
 ·refine uni (M:=([schC,schD]++dE ⟨cl,5,ke,ha,co,n,cm,fr,to_,ws,pt,rw,rk⟩).map (SE.e g)) (fun _ _ h=>h) (fun F' hF'=>CtF.ctrF ((t_doPin c hc T H ps mt mh (.slice (some ⟨(g 4).b,0,none⟩) 1 1) cl ke la (.slice (g 6).a ws.length (g 6).c) (.slice (g 7).a pt.length (g 7).c) (.slice (g 8).a rw.length (g 8).c) (.slice (g 9).a rk.length (g 9).c) ha co n cm fr to_ (by omega)).fr) g) ?_
  rintro v post ⟨x,ν,hx,rfl,rfl⟩
  exact⟨⟨x.b,T,x.H,ps⟩,by simp only [StepO]; simp; exact hx,rfl,view_pick [6,7,8,0,1,2,3,4,5] (by kernel_rfl)⟩
 ·obtain⟨p0,p1,rfl,h00,h01,h10,h11⟩:=h6 rfl
  refine uni (M:=([.sl 6 (Go.Sx.encI .u64) 0 1 ws 42,.sl 8 (Go.Sx.encI .u64) 0 1 rw 42,.sl 9 (Go.Sx.encI .i64) 0 1 rk 3]).map (SE.e g)) (view_pick [0,1,2,6,3,4,5,7,8] (by kernel_rfl)) (fun F' hF'=>CtF.ctrF (t_doFldO c T H ps hH mt mh cl ke la (.slice (g 6).a ws.length (g 6).c) (.slice (g 8).a rw.length (g 8).c) (.slice (g 9).a rk.length (g 9).c) ha co n cm fr to_ p0 p1 (by omega) F' (hF.mono hF')) (fun r=>if r=3 then g 7 else g r)) ?_
  rintro v post ⟨x,ν,hx,rfl,rfl⟩
  obtain rfl:x=doFldO H cl ha co n p0:=hx
  exact⟨⟨doFldO H cl ha co n p0,T,H,ps⟩,by simp [StepO],rfl,view_pick [3,4,5,7,8,0,6,1,2] (by kernel_rfl)⟩
 ·refine uni (M:=([hpR mh H ps,schC,schD]++dE ⟨cl,7,ke,ha,co,n,cm,fr,to_,ws,pt,rw,rk⟩).map (SE.e g)) (fun _ _ h=>h) (fun F' hF'=>CtF.ctrF ((t_unpinO c T mt mh (.slice (some ⟨(g 4).b,0,none⟩) 1 1) cl ke la (.slice (g 6).a ws.length (g 6).c) (.slice (g 7).a pt.length (g 7).c) (.slice (g 8).a rw.length (g 8).c) (.slice (g 9).a rk.length (g 9).c) ha co n cm fr to_).fr) g) ?_
  rintro v post ⟨x,ν,hx,rfl,rfl⟩
  obtain rfl:x=decide (co=0∨co=1):=hx
  exact⟨⟨decide (co=0∨co=1),T,H,ps⟩,by simp [StepO],rfl,view_pick [7,8,0,1,2,3,4,5,6] (by kernel_rfl)⟩
 ·refine uni (M:=([hpR mh H ps,schC,schD,.sl 6 (Go.Sx.encI .u64) 0 1 ws 42,.sl 7 (Go.Sx.encI .i64) 0 1 pt 3,.sl 8 (Go.Sx.encI .u64) 0 1 rw 42]).map (SE.e g)) (view_pick [0,1,8,2,3,4,5,6,7] (by kernel_rfl)) (fun F' hF'=>CtF.ctrF ((t_listO c T hin hT mt mh (.slice (some ⟨(g 4).b,0,none⟩) 1 1) cl ke la (.slice (g 6).a ws.length (g 6).c) (.slice (g 7).a pt.length (g 7).c) (.slice (g 8).a rw.length (g 8).c) rk rk.length rfl (by omega) ha co n cm fr to_).fr) (fun r=>if r=3 then g 9 else g r)) ?_
  rintro v post ⟨x,ν,hx,rfl,rfl⟩
  obtain rfl:x=decide ((co=0∧rk=keysOf T)∨co=17):=hx
  exact⟨⟨decide ((co=0∧rk=keysOf T)∨co=17),T,H,ps⟩,by simp [StepO],rfl,view_pick [6,7,0,1,2,3,4,5,8] (by kernel_rfl)⟩
 ·refine uni (M:=([hpR mh H ps,schC,schD]++dE ⟨cl,9,ke,ha,co,n,cm,fr,to_,ws,pt,rw,rk⟩).map (SE.e g)) (fun _ _ h=>h) (fun F' hF'=>CtF.ctrF ((t_scanO c T mt mh (.slice (some ⟨(g 4).b,0,none⟩) 1 1) cl ke la (.slice (g 6).a ws.length (g 6).c) (.slice (g 7).a pt.length (g 7).c) (.slice (g 8).a rw.length (g 8).c) (.slice (g 9).a rk.length (g 9).c) ha co n cm fr to_).fr) g) ?_
  rintro v post ⟨x,ν,hx,rfl,rfl⟩
  obtain rfl:x=decide (co=0):=hx
  exact⟨⟨decide (co=0),T,H,ps⟩,by simp [StepO],rfl,view_pick [7,8,0,1,2,3,4,5,6] (by kernel_rfl)⟩
end Go.Proofs.YthijdhenekmojaaGreatDoor
/- The document's model: a new one. -/
set_option linter.unusedSimpArgs false
set_option maxRecDepth 100000
set_option maxHeartbeats 0
namespace Go.Proofs.YthijdhenekmojaaGreatDoor
open Go.Sx
theorem t_newR(t:Int)(ht:1≤t∧t≤4): Ct Tryz.prog 11 (⟨[.g (cfgS (cf t)),.s (.sp 0 1 1)],[schA,schB],2,fun _=>True,fun _=>[.s (.p 2 0)],fun _=>[schA,schB,.pts 2 (cfgS (cf t)++[.sp 0 1 1,.o (.slice none 0 0),.o (.slice none 0 0)]) 60]⟩:Sp Unit):=by
 refine cX 21 xaI Tryz.func11 fun g F => ?_
 refine xN fun b1 => ?_
 refine xN fun b2 => ?_
 refine xN fun b3 => ?_
 refine xN fun b4 => ?_
 refine xT (decide ((cf t).topics≥1)) (decide_eq_true (by show t≥1; omega)) ?_
 refine xT (decide ((cf t).topics≤8)) (decide_eq_true (by show t≤8; omega)) ?_
 refine xT (decide ((cf t).small≥4)) rfl ?_
 refine xT (decide ((cf t).small≤32)) rfl ?_
 refine xT (decide ((cf t).slots≥1)) rfl ?_
 refine xT (decide ((cf t).slots≤8)) rfl ?_
 refine xT (decide ((cf t).clients≥1)) rfl ?_
 refine xT (decide ((cf t).clients≤8)) rfl ?_
 refine xT (decide ((cf t).retry≥1)) rfl ?_
 refine xT (decide ((cf t).retry≤8)) rfl ?_
 refine xT (decide ((cf t).s0≥4)) rfl ?_
 refine xT (decide ((cf t).s0≤96)) rfl ?_
 refine xO (InK IntKind.i64 ((cf t).s0+1)) (by simp [cf,InK]) ?_
 refine xT (decide ((cf t).s1≥(cf t).s0+1)) rfl ?_
 refine xT (decide ((cf t).s1≤96)) rfl ?_
 refine xT (decide ((cf t).n0≥0)) rfl ?_
 refine xT (decide ((cf t).n0≤12)) rfl ?_
 refine xT (decide ((cf t).n1≥0)) rfl ?_
 refine xF (decide ((↑(1:Nat):Int)<(1:Int))) rfl ?_
 refine xF (decide ((↑(1:Nat):Int)>(8:Int))) rfl ?_
 refine xT (decide ((0:Int)<(↑(1:Nat):Int))) rfl ?_
 refine xF (decide ((↑(2:Nat):Int)<(1:Int))) rfl ?_
 refine xF (decide ((↑(2:Nat):Int)>(6:Int))) rfl ?_
 refine xT (decide ((0:Int)<(↑(2:Nat):Int))) rfl ?_
 refine xN fun b5 => ?_
 refine xF (decide ((0:Int)≥(↑(1:Nat):Int))) rfl ?_
 refine xT (decide (IntKind.i64.wrap ((0:Int)+(1:Int))<(↑(2:Nat):Int))) rfl ?_
 refine xN fun b6 => ?_
 refine xF (decide ((0:Int)≥(↑(1:Nat):Int))) rfl ?_
 refine xF (decide (IntKind.i64.wrap (IntKind.i64.wrap ((0:Int)+(1:Int))+(1:Int))<(↑(2:Nat):Int))) rfl ?_
 refine xF (decide (IntKind.i64.wrap ((0:Int)+(1:Int))<(↑(1:Nat):Int))) rfl ?_
 refine xF (!decide ((cf t).n1≤12)) rfl ?_
 refine xN fun b7 => ?_
 exact xR () trivial
end Go.Proofs.YthijdhenekmojaaGreatDoor
/- The document's walk of a path of two, at the schema of the law. -/
set_option linter.unusedSimpArgs false
set_option maxRecDepth 100000
set_option maxHeartbeats 0
namespace Go.Proofs.YthijdhenekmojaaGreatDoor
open Go.Sx
abbrev wlR(ask n code:Int): SE:=.pts 3 [.sp 0 1 1,.l .i64 0,.l .i64 1,.s 2 2,.l .i64 ask,.l .i64 0,.l .u64 n,.l .i64 code] 130
theorem t_startR(p0 p1:Int)(t:Int)(ht:t=0)(h0:p0=0∨p0=1): Ct Tryz.prog 67 (⟨[.s (.sp 0 1 1),.s (.i .i64 t),.s (.l .i64 1),.s (.s 2 2)],[schA,schB,.sl 2 (Sx.encI .i64) 0 1 [p0,p1] 3],3,fun _=>True,fun _=>[.s (.p 3 0)],fun _=>[schA,schB,.sl 2 (Sx.encI .i64) 0 1 [p0,p1] 3,wlR (1+p0) 0 0]⟩:Sp Unit):=by
 subst ht
 have h:∀q,q=0∨q=1→Ct Tryz.prog 67 (⟨[.s (.sp 0 1 1),.s (.l .i64 0),.s (.l .i64 1),.s (.s 2 2)],[schA,schB,.sl 2 (Sx.encI .i64) 0 1 [q,p1] 3],3,fun _=>True,fun _=>[.s (.p 3 0)],fun _=>[schA,schB,.sl 2 (Sx.encI .i64) 0 1 [q,p1] 3,wlR (1+q) 0 0]⟩:Sp Unit):=by
  intro q hq
  rcases hq with rfl | rfl
  ·refine cX 34 xxI Tryz.func67 fun g F => ?_
   refine xF (decide ((↑(1:Nat):Int)<(1:Int))) rfl ?_
   refine xF (decide ((↑(1:Nat):Int)>(8:Int))) rfl ?_
   refine xT (decide ((0:Int)<(↑(1:Nat):Int))) rfl ?_
   refine xF (decide ((↑(2:Nat):Int)<(1:Int))) rfl ?_
   refine xF (decide ((↑(2:Nat):Int)>(6:Int))) rfl ?_
   refine xT (decide ((0:Int)<(↑(2:Nat):Int))) rfl ?_
   refine xN fun b1 => ?_
   refine xF (decide ((0:Int)≥(↑(1:Nat):Int))) rfl ?_
   refine xT (decide (IntKind.i64.wrap ((0:Int)+(1:Int))<(↑(2:Nat):Int))) rfl ?_
   refine xN fun b2 => ?_
   refine xF (decide ((0:Int)≥(↑(1:Nat):Int))) rfl ?_
   refine xF (decide (IntKind.i64.wrap (IntKind.i64.wrap ((0:Int)+(1:Int))+(1:Int))<(↑(2:Nat):Int))) rfl ?_
   refine xF (decide (IntKind.i64.wrap ((0:Int)+(1:Int))<(↑(1:Nat):Int))) rfl ?_
   refine xF (decide ((0:Int)≥(↑(1:Nat):Int))) rfl ?_
   refine xN fun b3 => ?_
   refine xF ((↑(2:Nat):Int)==(0:Int)) rfl ?_
   refine xO ((2:Nat)≤[(0:Int),p1].length∧(0:Int)≤(0:Int)∧(0:Int)<(↑(2:Nat):Int)) (by first | (simp; done) | (simp; omega)) ?_
   refine xO (Int.toNat 0 < [0,p1].length) (by first | (simp; done) | (simp; omega)) ?_
   refine xF (decide ((0:Int)<(0:Int))) rfl ?_
   refine xO ((2:Nat)≤[(0:Int),p1].length∧(0:Int)≤(0:Int)∧(0:Int)<(↑(2:Nat):Int)) (by first | (simp; done) | (simp; omega)) ?_
   refine xO (Int.toNat 0 < [0,p1].length) (by first | (simp; done) | (simp; omega)) ?_
   refine xF (decide ((0:Int)≥(2:Int))) rfl ?_
   refine xO ((2:Nat)≤[(0:Int),p1].length∧(0:Int)≤(0:Int)∧(0:Int)<(↑(2:Nat):Int)) (by first | (simp; done) | (simp; omega)) ?_
   refine xO (Int.toNat 0 < [0,p1].length) (by first | (simp; done) | (simp; omega)) ?_
   refine xO (InK IntKind.i64 1) (by simp only [InK] at *; omega) ?_
   exact xR () trivial
  ·refine cX 34 xxI Tryz.func67 fun g F => ?_
   refine xF (decide ((↑(1:Nat):Int)<(1:Int))) rfl ?_
   refine xF (decide ((↑(1:Nat):Int)>(8:Int))) rfl ?_
   refine xT (decide ((0:Int)<(↑(1:Nat):Int))) rfl ?_
   refine xF (decide ((↑(2:Nat):Int)<(1:Int))) rfl ?_
   refine xF (decide ((↑(2:Nat):Int)>(6:Int))) rfl ?_
   refine xT (decide ((0:Int)<(↑(2:Nat):Int))) rfl ?_
   refine xN fun b1 => ?_
   refine xF (decide ((0:Int)≥(↑(1:Nat):Int))) rfl ?_
   refine xT (decide (IntKind.i64.wrap ((0:Int)+(1:Int))<(↑(2:Nat):Int))) rfl ?_
   refine xN fun b2 => ?_
   refine xF (decide ((0:Int)≥(↑(1:Nat):Int))) rfl ?_
   refine xF (decide (IntKind.i64.wrap (IntKind.i64.wrap ((0:Int)+(1:Int))+(1:Int))<(↑(2:Nat):Int))) rfl ?_
   refine xF (decide (IntKind.i64.wrap ((0:Int)+(1:Int))<(↑(1:Nat):Int))) rfl ?_
   refine xF (decide ((0:Int)≥(↑(1:Nat):Int))) rfl ?_
   refine xN fun b3 => ?_
   refine xF ((↑(2:Nat):Int)==(0:Int)) rfl ?_
   refine xO ((2:Nat)≤[(1:Int),p1].length∧(0:Int)≤(0:Int)∧(0:Int)<(↑(2:Nat):Int)) (by first | (simp; done) | (simp; omega)) ?_
   refine xO (Int.toNat 0 < [1,p1].length) (by first | (simp; done) | (simp; omega)) ?_
   refine xF (decide ((1:Int)<(0:Int))) rfl ?_
   refine xO ((2:Nat)≤[(1:Int),p1].length∧(0:Int)≤(0:Int)∧(0:Int)<(↑(2:Nat):Int)) (by first | (simp; done) | (simp; omega)) ?_
   refine xO (Int.toNat 0 < [1,p1].length) (by first | (simp; done) | (simp; omega)) ?_
   refine xF (decide ((1:Int)≥(2:Int))) rfl ?_
   refine xO ((2:Nat)≤[(1:Int),p1].length∧(0:Int)≤(0:Int)∧(0:Int)<(↑(2:Nat):Int)) (by first | (simp; done) | (simp; omega)) ?_
   refine xO (Int.toNat 0 < [1,p1].length) (by first | (simp; done) | (simp; omega)) ?_
   refine xO (InK IntKind.i64 2) (by simp only [InK] at *; omega) ?_
   exact xR () trivial
 exact h p0 h0
theorem t_giveRA(p1:Int)(x:Int)(hx:0≤x∧x≤4294967295): Ct Tryz.prog 68 (⟨[.s (.p 3 0),.s (.i .u64 x)],[wlR 1 0 0,.sl 2 (Sx.encI .i64) 0 1 [0,p1] 3,schA,schB],4,fun _=>True,fun _=>[],fun _=>[wlR (-1) 0 24,schA,schB]⟩:Sp Unit):=by
 refine cX 193 xxI Tryz.func68 fun g F => ?_
 refine xO ((2:Nat)≤[(0:Int),p1].length∧(0:Int)≤(0:Int)∧(0:Int)<(↑(2:Nat):Int)) (by first | (simp; done) | (simp; omega)) ?_
 refine xO (Int.toNat 0 < [0,p1].length) (by first | (simp; done) | (simp; omega)) ?_
 refine xO ((0:Int)≤(0:Int)∧(0:Int)<(2:Int)) (by omega) ?_
 refine xN fun b1 => ?_
 refine xO ((2:Nat)≤[(0:Int),p1].length∧(0:Int)≤(0:Int)∧(0:Int)<(↑(2:Nat):Int)) (by first | (simp; done) | (simp; omega)) ?_
 refine xO (Int.toNat 0 < [0,p1].length) (by first | (simp; done) | (simp; omega)) ?_
 refine xO ((0:Int)≤(0:Int)∧(0:Int)<(2:Int)) (by omega) ?_
 refine xCutV 1 ((g 2).2) ((g 2).3) (Sx.encI IntKind.i64) (0) 1 ([0,p1]) 3 .i64 (1) (.i 2) (show(0:Int)≤1∧1≤(([0,p1]).length:Int) by first | omega | (simp; done) | (simp; omega)) ?_
 refine xO ((0:Int)≤(32:Int)) (by omega) ?_
 refine xO (InK IntKind.i64 (bShr IntKind.u64 x 32)) (inkShr hx) ?_
 refine xO (InK IntKind.i64 (IntKind.u64.wrap ↑(BitVec.ofInt IntKind.u64.bits x &&& BitVec.ofInt IntKind.u64.bits 4294967295).toNat)) (by have:=andU x 4294967295 (by omega); exact⟨by omega,by omega⟩) ?_
 refine xO (InK IntKind.i64 (1+IntKind.u64.wrap ↑(BitVec.ofInt IntKind.u64.bits x &&& BitVec.ofInt IntKind.u64.bits 4294967295).toNat)) (by have:=andU x 4294967295 (by omega); exact⟨by omega,by omega⟩) ?_
 refine xT (decide ((↑(List.drop (Int.toNat (1:Int)) [(0:Int),p1]).length:Int)>(0:Int))) rfl ?_
 exact xR () trivial
theorem t_giveRB(p1:Int)(hp:0≤p1)(x:Int)(hx:0≤x∧x≤4294967295): Ct Tryz.prog 68 (⟨[.s (.p 3 0),.s (.i .u64 x)],[wlR 2 0 0,.sl 2 (Sx.encI .i64) 0 1 [1,p1] 3,schA,schB],4,fun _=>True,fun _=>[],fun _=>[wlR (-1) 0 12,schA,schB]⟩:Sp Unit):=by
 refine cX 193 xxI Tryz.func68 fun g F => ?_
 refine xO ((2:Nat)≤[(1:Int),p1].length∧(0:Int)≤(0:Int)∧(0:Int)<(↑(2:Nat):Int)) (by first | (simp; done) | (simp; omega)) ?_
 refine xO (Int.toNat 0 < [1,p1].length) (by first | (simp; done) | (simp; omega)) ?_
 refine xO ((0:Int)≤(1:Int)∧(1:Int)<(2:Int)) (by omega) ?_
 refine xN fun b1 => ?_
 refine xO ((2:Nat)≤[(1:Int),p1].length∧(0:Int)≤(0:Int)∧(0:Int)<(↑(2:Nat):Int)) (by first | (simp; done) | (simp; omega)) ?_
 refine xO (Int.toNat 0 < [1,p1].length) (by first | (simp; done) | (simp; omega)) ?_
 refine xO ((0:Int)≤(1:Int)∧(1:Int)<(2:Int)) (by omega) ?_
 refine xCutL 1 ((g 2).a) ((g 2).c) (Sx.encI IntKind.i64) (0) 1 ([1,p1]) 3 .i64 (1) (.i 2) (show(0:Int)≤1∧1≤(([1,p1]).length:Int) by first | omega | (simp; done) | (simp; omega)) ?_
 refine xO ((0:Int)≤(32:Int)) (by omega) ?_
 refine xO (InK IntKind.i64 (bShr IntKind.u64 x 32)) (inkShr hx) ?_
 refine xO (InK IntKind.i64 (IntKind.u64.wrap ↑(BitVec.ofInt IntKind.u64.bits x &&& BitVec.ofInt IntKind.u64.bits 4294967295).toNat)) (by have:=andU x 4294967295 (by omega); exact⟨by omega,by omega⟩) ?_
 refine xO (InK IntKind.i64 (2+IntKind.u64.wrap ↑(BitVec.ofInt IntKind.u64.bits x &&& BitVec.ofInt IntKind.u64.bits 4294967295).toNat)) (by have:=andU x 4294967295 (by omega); exact⟨by omega,by omega⟩) ?_
 refine xF ((↑(List.drop (Int.toNat (1:Int)) [(1:Int),p1]).length:Int)==(0:Int)) rfl ?_
 refine xO ((List.drop (Int.toNat (1:Int)) [(1:Int),p1]).length≤(List.drop (Int.toNat (1:Int)) [(1:Int),p1]).length∧(0:Int)≤(0:Int)∧(0:Int)<(↑(List.drop (Int.toNat (1:Int)) [(1:Int),p1]).length:Int)) (by first | (simp; done) | (simp; omega)) ?_
 refine xO (Int.toNat 0<(List.drop (Int.toNat 1) [1,p1]).length) (by first | (simp; done) | (simp; omega)) ?_
 refine xB (decide (p1<(0:Int))) (fun h1 => ?_) (fun h1 => ?_)
 ·skip
  replace h1:=decT h1
  exact xR () trivial
 ·skip
  replace h1:=decF h1
  refine xT (decide (p1≥bShr IntKind.u64 x (32:Int))) (decide_eq_true (by rw [shr0 hx]; omega)) ?_
  exact xR () trivial
end Go.Proofs.YthijdhenekmojaaGreatDoor
/- The document's model: a field of a handle, by a path of two. -/
set_option linter.unusedSimpArgs false
set_option maxRecDepth 100000
set_option maxHeartbeats 0
namespace Go.Proofs.YthijdhenekmojaaGreatDoor
open Go.Sx
def xg: Cx:=⟨[],[],[],[43]⟩
theorem xgI: Inl Tryz.prog xg:=inl_ok trivial trivial
abbrev fdSp(c:Cfg)(lv hv rw rk:Value)(xs:List Int)(z:Sx.Rest)(q:Nat)(cl nn co n cm p0 p1:Int)(v:Bool): Sp Bool:=
 sB [.s (.p 0 0),.g [.i .i64 cl,.i .i64 nn,.s 1 q],.s (.s 2 2),.g [.i .i64 co,.o rw,.o rk,.i .u64 n,.i .i64 cm]] [.pts 0 (cfgS c++[.sp 3 1 1,.o lv,.o hv]) 60,.rd 1 (Sx.encI .u64) 0 1 xs 42 z,.sl 2 (Sx.encI .i64) 0 1 [p0,p1] 3,.pts 3 [.sp 4 2 2] 85,.pts 4 [.l .i64 1,.l .i64 0,.l .i64 3,.l .i64 0] 84] 5 v
  [.pts 0 (cfgS c++[.sp 3 1 1,.o lv,.o hv]) 60,.rd 1 (Sx.encI .u64) 0 1 xs 42 z,.pts 3 [.sp 4 2 2] 85,.pts 4 [.l .i64 1,.l .i64 0,.l .i64 3,.l .i64 0] 84]
theorem t_fldRA(c:Cfg)(lv hv rw rk:Value)(xs:List Int)(z:Sx.Rest)(q:Nat)(hq:xs.length=q)(cl nn co n cm p1:Int)(hp1:0≤p1)(hw:WRng xs)(hl:xs.length≤1000)(h0:0<xs.length):
  Ct Tryz.prog 43 (fdSp c lv hv rw rk xs z q cl nn co n cm 0 p1 (fldV xs 0 co n)):=by
 subst hq
 refine cX 90 xgI Tryz.func43 fun g F => ?_
 refine xN fun b1 => ?_
 refine xN fun b2 => ?_
 refine xO (xs.length≤xs.length∧(0:Int)≤(0:Int)∧(0:Int)<(↑xs.length:Int)) (by omega) ?_
 refine xO (Int.toNat 0<xs.length) (by omega) ?_
 refine xO ((0:Int)≤(32:Int)) (by omega) ?_
 refine xF (decide (bShr IntKind.u64 (xs.getD (0:Nat) (0:Int)) (32:Int)≥(1:Int))) (decide_eq_false (by rw [shr0 (hw 0)]; omega)) ?_
 refine xO (InK IntKind.i64 (bShr IntKind.u64 (xs.getD 0 0) 32)) (inkShr (hw 0)) ?_
 refine xCy [⟨(g 3).b,none,0⟩,⟨(g 4).b,none,0⟩,⟨0,(g 2).a,(g 2).c⟩] [3,4,2] (Tg.i 13) ⟨[(0,[.n,.n,.n,.n,.n,.n,.n,.n,.n,.i 3,.n,.n]),(1,[]),(5,[.n,.n,.i 1]),(6,(List.replicate 5 .n)),(3,[.i 4]),(4,[.c,.c,.c,.c]),(2,[]),(13,[.i 3,.c,.c,.i 2,.c,.c,.c,.c])],53⟩ Tryz.call67 (fun F' h=>(t_startR (0) (p1) (bShr IntKind.u64 (xs.getD (Int.toNat 0) 0) 32) (shr0 (hw 0)) (by omega)).fr) fun _ n3 _ => ?_
 refine xT (decide ((0:Int)≤(↑(2:Nat):Int))) rfl ?_
 refine xB (decide ((1:Int)+(0:Int)≥(↑xs.length:Int))) (fun h4 => ?_) (fun h4 => ?_)
 ·skip
  replace h4:=decT h4
  exact xR (true) (fv_s (by omega))
 ·skip
  replace h4:=decF h4
  refine xO (xs.length≤xs.length∧(0:Int)≤(1:Int)+(0:Int)∧(1:Int)+(0:Int)<(↑xs.length:Int)) (by omega) ?_
  refine xO (((1:Int)+(0:Int)).toNat<xs.length) (by omega) ?_
  refine xCy [⟨(g 3).b,none,0⟩,⟨(g 4).b,none,0⟩,⟨0,(g 2).a,(g 2).c⟩,⟨(n3 3).b,none,0⟩] [7,6,4,5] ((Tg.l [])) ⟨[(0,[.n,.n,.n,.n,.n,.n,.n,.n,.n,.i 3,.n,.n]),(1,[]),(5,[.n,.n,.i 1]),(6,(List.replicate 5 .n)),(13,[.i 3,.c,.c,.i 2,.c,.c,.c,.c]),(3,[.i 4]),(4,[.c,.c,.c,.c])],95⟩ Tryz.call68 (fun F' h=>(t_giveRA (p1) (xs.getD ((1:Int)+(0:Int)).toNat (0:Int)) (hw 1)).fr) fun _ n6 _ => ?_
  refine xT (decide (IntKind.i64.wrap ((0:Int)+(1:Int))≤(↑(2:Nat):Int))) rfl ?_
  refine xB (co==24) (fun h7 => ?_) (fun h7 => ?_)
  ·skip
   replace h7:=decT h7
   exact xR (n==0) (fv_v (by omega) (by omega) (by show(n==0)=((co==24)&&(n==0)); rw [beq_iff_eq.2 (show co=24 by omega),Bool.true_and]))
  ·skip
   replace h7:=decF h7
   exact xR (false) (fv_v (by omega) (by omega) (by show false=((co==24)&&(n==0)); rw [beq_eq_false_iff_ne.2 (show ¬co=24 by omega),Bool.false_and]))
theorem t_fldRB(c:Cfg)(lv hv rw rk:Value)(xs:List Int)(z:Sx.Rest)(q:Nat)(hq:xs.length=q)(cl nn co n cm p1:Int)(hp1:0≤p1)(hw:WRng xs)(hl:xs.length≤1000)(h0:0<xs.length):
  Ct Tryz.prog 43 (fdSp c lv hv rw rk xs z q cl nn co n cm 1 p1 (fldV xs 1 co n)):=by
 subst hq
 refine cX 90 xgI Tryz.func43 fun g F => ?_
 refine xN fun b1 => ?_
 refine xN fun b2 => ?_
 refine xO (xs.length≤xs.length∧(0:Int)≤(0:Int)∧(0:Int)<(↑xs.length:Int)) (by omega) ?_
 refine xO (Int.toNat 0<xs.length) (by omega) ?_
 refine xO ((0:Int)≤(32:Int)) (by omega) ?_
 refine xF (decide (bShr IntKind.u64 (xs.getD (0:Nat) (0:Int)) (32:Int)≥(1:Int))) (decide_eq_false (by rw [shr0 (hw 0)]; omega)) ?_
 refine xO (InK IntKind.i64 (bShr IntKind.u64 (xs.getD 0 0) 32)) (inkShr (hw 0)) ?_
 refine xCy [⟨(g 3).b,none,0⟩,⟨(g 4).b,none,0⟩,⟨0,(g 2).a,(g 2).c⟩] [3,4,2] (Tg.i 13) ⟨[(0,[.n,.n,.n,.n,.n,.n,.n,.n,.n,.i 3,.n,.n]),(1,[]),(5,[.n,.n,.i 1]),(6,(List.replicate 5 .n)),(3,[.i 4]),(4,[.c,.c,.c,.c]),(2,[]),(13,[.i 3,.c,.c,.i 2,.c,.c,.c,.c])],53⟩ Tryz.call67 (fun F' h=>(t_startR (1) (p1) (bShr IntKind.u64 (xs.getD (Int.toNat 0) 0) 32) (shr0 (hw 0)) (by omega)).fr) fun _ n3 _ => ?_
 refine xT (decide ((0:Int)≤(↑(2:Nat):Int))) rfl ?_
 refine xB (decide ((1:Int)+(1:Int)≥(↑xs.length:Int))) (fun h4 => ?_) (fun h4 => ?_)
 ·skip
  replace h4:=decT h4
  exact xR (true) (fv_s (by omega))
 ·skip
  replace h4:=decF h4
  refine xO (xs.length≤xs.length∧(0:Int)≤(1:Int)+(1:Int)∧(1:Int)+(1:Int)<(↑xs.length:Int)) (by omega) ?_
  refine xO (((1:Int)+(1:Int)).toNat<xs.length) (by omega) ?_
  refine xCy [⟨(g 3).b,none,0⟩,⟨(g 4).b,none,0⟩,⟨0,(g 2).a,(g 2).c⟩,⟨(n3 3).b,none,0⟩] [7,6,4,5] ((Tg.l [])) ⟨[(0,[.n,.n,.n,.n,.n,.n,.n,.n,.n,.i 3,.n,.n]),(1,[]),(5,[.n,.n,.i 1]),(6,(List.replicate 5 .n)),(13,[.i 3,.c,.c,.i 2,.c,.c,.c,.c]),(3,[.i 4]),(4,[.c,.c,.c,.c])],95⟩ Tryz.call68 (fun F' h=>(t_giveRB (p1) (by omega) (xs.getD ((1:Int)+(1:Int)).toNat (0:Int)) (hw 2)).fr) fun _ n6 _ => ?_
  refine xT (decide (IntKind.i64.wrap ((0:Int)+(1:Int))≤(↑(2:Nat):Int))) rfl ?_
  refine xB (co==12) (fun h7 => ?_) (fun h7 => ?_)
  ·skip
   replace h7:=decT h7
   exact xR (n==0) (fv_v (by omega) (by omega) (by show(n==0)=((co==12)&&(n==0)); rw [beq_iff_eq.2 (show co=12 by omega),Bool.true_and]))
  ·skip
   replace h7:=decF h7
   exact xR (false) (fv_v (by omega) (by omega) (by show false=((co==12)&&(n==0)); rw [beq_eq_false_iff_ne.2 (show ¬co=12 by omega),Bool.false_and]))
end Go.Proofs.YthijdhenekmojaaGreatDoor
/- The document's model: what is read. -/
set_option linter.unusedSimpArgs false
set_option maxRecDepth 100000
set_option maxHeartbeats 0
namespace Go.Proofs.YthijdhenekmojaaGreatDoor
open Go.Sx
theorem t_samePR(xs ys:List Int)(z:Sx.Rest)(n m:Nat)(hn:xs.length=n)(hm:m≤ys.length)(hl:xs.length≤1000000): Ct Tryz.prog 19 (sB [.s (.s 0 m),.s (.s 1 n)] [.sl 0 (Sx.encI .u64) 0 1 ys 42,.rd 1 (Sx.encI .u64) 0 1 xs 42 z] 2 (decide (ys.take m=xs)) [.sl 0 (Sx.encI .u64) 0 1 ys 42,.rd 1 (Sx.encI .u64) 0 1 xs 42 z]):=by
 subst hn
 refine cX 26 xlI Tryz.func19 fun g F => ?_
 refine xB ((↑m:Int) != (↑xs.length:Int)) (fun h1 => ?_) (fun h1 => ?_)
 ·skip
  replace h1:=ntT h1
  replace h1:=decF h1
  exact xR (false) ((decide_eq_false (fun h=>by have:=congrArg List.length h; simp at this; omega)).symm)
 ·skip
  replace h1:=ntF h1
  replace h1:=decT h1
  refine xLoop xlI Tryz.func19 [0,1,0,1,1] [.b 0,.c [1,1,1]] [0,1,5] [0,1] (fun i:Nat=>[(0,.slice (g 0).a m (g 0).c),(1,.slice (g 1).a xs.length (g 1).c),(5,.int .i64 i)]) (fun _=>[(0,.i 0),(1,.i 1)]) (fun _=>[.sl (g 0).a (g 0).c (Sx.encI .u64) 0 1 ys 42,.rd (g 1).a (g 1).c (Sx.encI .u64) 0 1 xs 42 z]) (fun _=>⟨[(0,[]),(1,[])],2⟩) (fun i=>i≤xs.length∧ys.take i=xs.take i) (fun i=>xs.length-i) 0 ⟨by omega,rfl⟩ (fun i J hI hJ => ?_)
  refine xB (decide ((↑i:Int)<(↑m:Int))) (fun h2 => ?_) (fun h2 => ?_)
  ·skip
   replace h2:=decT h2
   refine xO (m≤ys.length∧(0:Int)≤(↑i:Int)∧(↑i:Int)<(↑m:Int)) (by omega) ?_
   refine xO ((↑i:Int).toNat<ys.length) (by omega) ?_
   refine xO (xs.length≤xs.length∧(0:Int)≤(↑i:Int)∧(↑i:Int)<(↑xs.length:Int)) (by omega) ?_
   refine xO ((↑i:Int).toNat<xs.length) (by omega) ?_
   refine xB (ys.getD i 0 != xs.getD i 0) (fun h3 => ?_) (fun h3 => ?_)
   ·skip
    replace h3:=ntT h3
    replace h3:=decF h3
    exact xR (false) ((decide_eq_false (take_ne (i:=i) (by omega) (by omega) (by assumption))).symm)
   ·skip
    replace h3:=ntF h3
    replace h3:=decT h3
    refine xO (InK IntKind.i64 (↑i+1)) (by simp only [InK] at *; omega) ?_
    exact xJ hJ (i+1) (by omega) ⟨by omega,take_step hI.2 (by omega) (by omega) (by assumption)⟩
  ·skip
   replace h2:=decF h2
   exact xR (true) ((decide_eq_true (by have hi:i=m:=(by omega); subst hi; rw [hI.2,List.take_of_length_le (by omega)])).symm)
theorem t_f17(c:Cfg)(hc:c.Ok)(n k:Int)(hn:0≤n∧n≤1000000)(hk:fitsC c n=k): Ct Tryz.prog 66 (sU [.g (cfgS c),.s (.i .i64 n)] [] 0 [.s (.l .i64 k)] []):=by
 have h:Ct Tryz.prog 66 (sI [.g (cfgS c),.s (.i .i64 n)] [] 0 (fun e=>e=fitsC c n) []):=by
  have hc':=hc
  simp only [Cfg.Ok] at hc
  refine cX 27 xwI Tryz.func66 fun g F => ?_
  refine xN fun b1 => ?_
  refine xC Tryz.call29 (t_right (c) (by omega)) fun xn2 n2 hxn2 => ?_
  subst hxn2
  refine xF (!true) rfl ?_
  refine xB (decide (n<1)) (fun h3 => ?_) (fun h3 => ?_)
  ·skip
   replace h3:=decT h3
   exact xR (-1) (by simp [fitsC, *]; done)
  ·skip
   replace h3:=decF h3
   refine xB (decide (n≤c.s0)) (fun h4 => ?_) (fun h4 => ?_)
   ·skip
    replace h4:=decT h4
    exact xR (0) (by simp [fitsC, *]; done)
   ·skip
    replace h4:=decF h4
    refine xB (decide (n≤c.s1)) (fun h5 => ?_) (fun h5 => ?_)
    ·skip
     replace h5:=decT h5
     exact xR (IntKind.i64.wrap (0+1)) (by show(1:Int)=fitsC c n; unfold fitsC; rw [if_neg h3,if_neg (by omega),if_pos (by omega)])
    ·skip
     replace h5:=decF h5
     exact xR (-1) (by simp [fitsC, *]; done)
 subst hk
 intro g F w hi
 refine(h g F w hi).mono ?_
 rintro e w' ⟨v,L',he,⟨x,ν,hx,rfl,rfl⟩,hin⟩
 obtain rfl:x=fitsC c n:=hx
 exact⟨_,_,he,⟨(),ν,trivial,rfl,rfl⟩,hin⟩
end Go.Proofs.YthijdhenekmojaaGreatDoor
/- The document's model: what is read, by a topic's kind. -/
set_option linter.unusedSimpArgs false
set_option maxRecDepth 100000
set_option maxHeartbeats 0
namespace Go.Proofs.YthijdhenekmojaaGreatDoor
open Go.Sx
abbrev rdSp(c:Cfg)(sv lv hv:Value)(ke:Int)(lg:Bool)(xs ws:List Int)(z:Sx.Rest)(n m:Nat)(sz:Int): Sp Bool:=
 sB [.s (.p 0 0),.g [.i .i64 ke,.bo lg,.s 1 n],.s (.s 2 m)] [.pts 0 (cfgS c++[.o sv,.o lv,.o hv]) 60,.rd 1 (Sx.encI .u64) 0 1 xs 42 z,.sl 2 (Sx.encI .u64) 0 1 ws 42] 3 (decide ((ws.length:Int)=sz)&&decide (ws.take n=xs)) [.pts 0 (cfgS c++[.o sv,.o lv,.o hv]) 60,.rd 1 (Sx.encI .u64) 0 1 xs 42 z,.sl 2 (Sx.encI .u64) 0 1 ws 42]
theorem t_r42s(c:Cfg)(hc:c.Ok)(sv lv hv:Value)(ke:Int)(xs ws:List Int)(z:Sx.Rest)(n m:Nat)(hn:xs.length=n)(hm:ws.length=m)(hl:xs.length≤1000)(hle:(xs.length:Int)≤c.small): Ct Tryz.prog 42 (rdSp c sv lv hv ke false xs ws z n m c.small):=by
 subst hn
 subst hm
 refine cX 42 xzI Tryz.func42 fun g F => ?_
 refine xN fun b1 => ?_
 refine xF (false) rfl ?_
 refine xB (↑ws.length != c.small) (fun h2 => ?_) (fun h2 => ?_)
 ·skip
  replace h2:=ntT h2
  replace h2:=decF h2
  exact xR (false) (by show _ = (_ && _); rw [decide_eq_false (by omega)]; rfl)
 ·skip
  replace h2:=ntF h2
  replace h2:=decT h2
  refine xO ((0:Int)≤(↑xs.length:Int)∧(↑xs.length:Int)≤(↑ws.length:Int)) (by omega) ?_
  refine xC Tryz.call19 (t_samePR (xs) (ws) (z) (xs.length) ((↑xs.length:Int).toNat) (by omega) (by omega) (by omega)) fun xn4 n4 hxn4 => ?_
  subst hxn4
  exact xR (decide (List.take (↑xs.length:Int).toNat ws=xs)) (by simp; omega)
theorem t_r42a(c:Cfg)(hc:c.Ok)(sv lv hv:Value)(ke:Int)(xs ws:List Int)(z:Sx.Rest)(n m:Nat)(hn:xs.length=n)(hm:ws.length=m)(hl:xs.length≤1000)(hle:(xs.length:Int)≤c.s0)(hf:fitsC c (xs.length:Int)=0): Ct Tryz.prog 42 (rdSp c sv lv hv ke true xs ws z n m c.s0):=by
 subst hn
 subst hm
 refine cX 42 xzI Tryz.func42 fun g F => ?_
 refine xN fun b1 => ?_
 refine xT (true) rfl ?_
 refine xC Tryz.call66 (t_f17 (c) (by omega) (↑xs.length) _ (by omega) hf) fun _ n2 _ => ?_
 refine xB (↑ws.length != c.s0) (fun h3 => ?_) (fun h3 => ?_)
 ·skip
  replace h3:=ntT h3
  replace h3:=decF h3
  exact xR (false) (by show _ = (_ && _); rw [decide_eq_false (by omega)]; rfl)
 ·skip
  replace h3:=ntF h3
  replace h3:=decT h3
  refine xO ((0:Int)≤(↑xs.length:Int)∧(↑xs.length:Int)≤(↑ws.length:Int)) (by omega) ?_
  refine xC Tryz.call19 (t_samePR (xs) (ws) (z) (xs.length) ((↑xs.length:Int).toNat) (by omega) (by omega) (by omega)) fun xn5 n5 hxn5 => ?_
  subst hxn5
  exact xR (decide (List.take (↑xs.length:Int).toNat ws=xs)) (by simp; omega)
theorem t_r42b(c:Cfg)(hc:c.Ok)(sv lv hv:Value)(ke:Int)(xs ws:List Int)(z:Sx.Rest)(n m:Nat)(hn:xs.length=n)(hm:ws.length=m)(hl:xs.length≤1000)(hle:(xs.length:Int)≤c.s1)(hf:fitsC c (xs.length:Int)=1): Ct Tryz.prog 42 (rdSp c sv lv hv ke true xs ws z n m c.s1):=by
 subst hn
 subst hm
 refine cX 42 xzI Tryz.func42 fun g F => ?_
 refine xN fun b1 => ?_
 refine xT (true) rfl ?_
 refine xC Tryz.call66 (t_f17 (c) (by omega) (↑xs.length) _ (by omega) hf) fun _ n2 _ => ?_
 refine xB (↑ws.length != c.s1) (fun h3 => ?_) (fun h3 => ?_)
 ·skip
  replace h3:=ntT h3
  replace h3:=decF h3
  exact xR (false) (by show _ = (_ && _); rw [decide_eq_false (by omega)]; rfl)
 ·skip
  replace h3:=ntF h3
  replace h3:=decT h3
  refine xO ((0:Int)≤(↑xs.length:Int)∧(↑xs.length:Int)≤(↑ws.length:Int)) (by omega) ?_
  refine xC Tryz.call19 (t_samePR (xs) (ws) (z) (xs.length) ((↑xs.length:Int).toNat) (by omega) (by omega) (by omega)) fun xn5 n5 hxn5 => ?_
  subst hxn5
  exact xR (decide (List.take (↑xs.length:Int).toNat ws=xs)) (by simp; omega)
end Go.Proofs.YthijdhenekmojaaGreatDoor
/- The document's model: what is read, of the pool. -/
set_option linter.unusedSimpArgs false
set_option maxRecDepth 100000
set_option maxHeartbeats 0
namespace Go.Proofs.YthijdhenekmojaaGreatDoor
open Go.Sx
def sizeL(c:Cfg)(lg:Bool)(n:Nat): Int:=if lg=true then(if fitsC c n=0 then c.s0 else c.s1) else c.small
def SzOk(c:Cfg)(lg:Bool)(xs:List Int): Prop:=xs.length≤96∧(lg=false→(xs.length:Int)≤c.small)∧(lg=true→xs.length=0∨(fitsC c xs.length=0∧(xs.length:Int)≤c.s0)∨(fitsC c xs.length=1∧(xs.length:Int)≤c.s1))
def readS(c:Cfg)(lg:Bool)(xs ws:List Int): Bool:=decide ((ws.length:Int)=sizeL c lg xs.length)&&decide (ws.take xs.length=xs)
theorem t_r42(c:Cfg)(hc:c.Ok)(sv lv hv:Value)(ke:Int)(lg:Bool)(xs ws:List Int)(z:Sx.Rest)(n m:Nat)(hn:xs.length=n)(hm:ws.length=m)(h0:0<xs.length)(hs:SzOk c lg xs): Ct Tryz.prog 42 (rdSp c sv lv hv ke lg xs ws z n m (sizeL c lg xs.length)):=by
 cases lg with
 | false=>exact t_r42s c hc sv lv hv ke xs ws z n m hn hm (by have:=hs.1; omega) (hs.2.1 rfl)
 | true=>
  rcases hs.2.2 rfl with h | ⟨h1,h2⟩ | ⟨h1,h2⟩
  ·omega
  ·have e:sizeL c true xs.length=c.s0:=by simp [sizeL,h1]
   rw [e]
   exact t_r42a c hc sv lv hv ke xs ws z n m hn hm (by have:=hs.1; omega) h2 h1
  ·have e:sizeL c true xs.length=c.s1:=by simp [sizeL,h1]
   rw [e]
   exact t_r42b c hc sv lv hv ke xs ws z n m hn hm (by have:=hs.1; omega) h2 h1
theorem t_r42P(c:Cfg)(hc:c.Ok)(sv:Value)(H:HanL)(ps:List PRow)(p:PRow)(ke:Int)(lg:Bool)(ws:List Int)(n k m:Nat)(hp:p=PRow.nil∨p∈ps)(hm:ws.length=m)(h0:0<p.xs.length)(hs:SzOk c lg p.xs):
  Ct Tryz.prog 42 (sB [.s (.p 0 0),.g [.i .i64 ke,.bo lg,.o (.slice p.a p.xs.length p.c)],.s (.s 3 m)] [mdH 1 2 c (.o sv) n k,hlR H ps,.sl 3 (Sx.encI .u64) 0 1 ws 42] 4 (readS c lg p.xs ws) [mdH 1 2 c (.o sv) n k,hlR H ps,.sl 3 (Sx.encI .u64) 0 1 ws 42]):=by
 intro g
 have hin:=t_r42 c hc sv (.slice (g 1).a n (g 1).c) (.slice (g 2).a k (g 2).c) ke lg p.xs ws p.r p.xs.length m rfl hm h0 hs (fun | 0=>g 0 | 1=>⟨0,p.a,p.c⟩ | _=>g 3)
 refine ctr_fr (M:=[.sl (g 2).a (g 2).c encH hN 3 H 101,.res (PoolX 42 ps p)]) ?_ hin ?_
 ·refine view_trans (view_part [1] (by kernel_rfl) (by kernel_rfl) (hl_open (a:=(g 2).a) (c:=(g 2).c) (H:=H) (ps:=ps))) ?_
  refine view_trans (view_part [3] (by kernel_rfl) (by kernel_rfl) (pv_open (t:=42) (ps:=ps) (p:=p) hp)) ?_
  exact view_pick [0,4,1,2,3] (by kernel_rfl)
 ·rintro v post ⟨x,ν,hx,rfl,rfl⟩
  refine⟨[mdH 1 2 c (.o sv) n k,hlR H ps,.sl 3 (Sx.encI .u64) 0 1 ws 42].map (SE.e g), ?_,x,ν,hx,rfl,rfl⟩
  refine view_trans (view_part [1,3] (by kernel_rfl) (by kernel_rfl) (pv_close (t:=42) (ps:=ps) (p:=p))) ?_
  refine view_trans (view_part [0,3] (by kernel_rfl) (by kernel_rfl) (hl_fold (a:=(g 2).a) (c:=(g 2).c) (H:=H) (ps:=ps))) ?_
  exact view_pick [0,2,1] (by kernel_rfl)
def LSz(c:Cfg)(L:TopL): Prop := ∀x∈L,SzOk c x.2.1 x.2.2.xs
theorem LSz.get{c:Cfg}{L:TopL}(h:LSz c L)(i:Nat): SzOk c (L.getD i tN).2.1 (L.getD i tN).2.2.xs∨(L.getD i tN).2.2.xs.length=0:=by
 by_cases hi:i<L.length
 ·have e:L.getD i tN=L[i]:=by simp [hi]
  rw [e]
  exact .inl (h _ (List.getElem_mem hi))
 ·have e:L.getD i tN=tN:=by simp [hi]
  rw [e]
  exact .inr rfl
theorem t_r42E(c:Cfg)(hc:c.Ok)(sv:Value)(L:TopL)(H:HanL)(ps:List PRow)(ke:Int)(ws:List Int)(n k m:Nat)(hL:LOk L ps)(hz:LSz c L)(hm:ws.length=m)(h0:0<(L.getD (atL L ke).toNat tN).2.2.xs.length):
  Ct Tryz.prog 42 (sB [.s (.p 0 0),.g [.i .i64 (L.getD (atL L ke).toNat tN).1,.bo (L.getD (atL L ke).toNat tN).2.1,.o (.slice (L.getD (atL L ke).toNat tN).2.2.a (L.getD (atL L ke).toNat tN).2.2.xs.length (L.getD (atL L ke).toNat tN).2.2.c)],.s (.s 3 m)] [mdH 1 2 c (.o sv) n k,hlR H ps,.sl 3 (Sx.encI .u64) 0 1 ws 42] 4 (readS c (L.getD (atL L ke).toNat tN).2.1 (L.getD (atL L ke).toNat tN).2.2.xs ws) [mdH 1 2 c (.o sv) n k,hlR H ps,.sl 3 (Sx.encI .u64) 0 1 ws 42]):=
 t_r42P c hc sv H ps _ _ _ ws n k m (hL.get _).1 hm h0 ((hz.get _).elim id fun h=>by omega)
def readL(c:Cfg)(L:TopL)(ke:Int)(ws:List Int)(co:Int): Bool:=
 if mayB ke=false then co==1 else
 if co=0 then decide (atL L ke≥0)&&decide (((L.getD (atL L ke).toNat tN).2.2.xs.length:Int)>0)&&readS c (L.getD (atL L ke).toNat tN).2.1 (L.getD (atL L ke).toNat tN).2.2.xs ws else
 (co==12&&decide (atL L ke<0))||(co==20&&decide (atL L ke≥0)&&((L.getD (atL L ke).toNat tN).2.2.xs.length:Int)==0)||co==17||co==19
theorem rl_a{c:Cfg}{L:TopL}{ke:Int}{ws:List Int}{co:Int}(h:¬(ke≥1∧ke≤2147483647)): (co==1)=readL c L ke ws co:=by
 unfold readL; rw [if_pos (by simp only [mayB]; exact decide_eq_false (by omega))]
theorem rl_b{c:Cfg}{L:TopL}{ke:Int}{ws:List Int}{co:Int}(h:ke≥1∧ke≤2147483647)(h1:co=0)(h2:atL L ke≥0)(h3:((L.getD (atL L ke).toNat tN).2.2.xs.length:Int)>0): readS c (L.getD (atL L ke).toNat tN).2.1 (L.getD (atL L ke).toNat tN).2.2.xs ws=readL c L ke ws co:=by
 unfold readL; rw [if_neg (pn_n h),if_pos h1,decide_eq_true h2,decide_eq_true h3]; rfl
theorem rl_c{c:Cfg}{L:TopL}{ke:Int}{ws:List Int}{co:Int}(h:ke≥1∧ke≤2147483647)(h1:co=0)(h2:¬(atL L ke≥0)∨¬((L.getD (atL L ke).toNat tN).2.2.xs.length:Int)>0): false=readL c L ke ws co:=by
 unfold readL; rw [if_neg (pn_n h),if_pos h1]
 rcases h2 with h2 | h2
 ·rw [decide_eq_false h2]; rfl
 ·rw [decide_eq_false h2]; simp
theorem rl_d{c:Cfg}{L:TopL}{ke:Int}{ws:List Int}{co:Int}{b:Bool}(h:ke≥1∧ke≤2147483647)(h1:¬co=0)(h2:b=((co==12&&decide (atL L ke<0))||(co==20&&decide (atL L ke≥0)&&((L.getD (atL L ke).toNat tN).2.2.xs.length:Int)==0)||co==17||co==19)): b=readL c L ke ws co:=by
 unfold readL; rw [if_neg (pn_n h),if_neg h1]; exact h2
theorem t_readR(c:Cfg)(hc:c.Ok)(L:TopL)(H:HanL)(ps:List PRow)(hL:LOk L ps)(hz:LSz c L)(sv:Value)(cl ke:Int)(la:Bool)(wa pa:Option Addr)(wn wc pn pc:Nat)(rk:Value)(ha co m cm fr to_:Int)(ws:List Int)(n k q:Nat)(hn:L.length=n)(hq:ws.length=q)(hl:n≤100):
  Ct Tryz.prog 14 (sB [.s (.p 0 0),.g (dS cl 4 ke la (.o (.slice wa wn wc)) ha (.o (.slice pa pn pc)) co (.s 3 q) (.o rk) m cm fr to_)] [mdH 1 2 c (.o sv) n k,.sl 1 encT tN 3 L 56,hlR H ps,.sl 3 (Sx.encI .u64) 0 1 ws 42] 4 (readL c L ke ws co) [mdH 1 2 c (.o sv) n k,.sl 1 encT tN 3 L 56,hlR H ps,.sl 3 (Sx.encI .u64) 0 1 ws 42]):=by
 subst hn
 subst hq
 have hat:=at_lt L ke
 refine cX 431 xdI Tryz.func14 fun g F => ?_
 refine xN fun b1 => ?_
 refine xN fun b2 => ?_
 refine xCy [⟨(g 0).b,none,0⟩,⟨0,(g 1).a,(g 1).c⟩,⟨0,(g 2).a,(g 2).c⟩] [0,1] (Tg.n) ⟨[(2,[]),(3,[]),(4,[.n,.c,.n,.n,.n,.n,.n,.n,.i 3,.n,.n,.n,.n,.n]),(5,[.c,.n,.n,.n,.n,.n]),(0,[.n,.n,.n,.n,.n,.n,.n,.n,.n,.n,.i 1,.i 2]),(1,[])],49⟩ Tryz.call38 (fun F' _=>(t_atH (c) (L) (sv) (ke) (List.length L) (k) (by omega) (by omega)).fr) fun xn3 n3 hxn3 => ?_
 subst hxn3
 refine xN fun b4 => ?_
 refine xB (decide (atL L ke≥0)) (fun h5 => ?_) (fun h5 => ?_)
 ·skip
  replace h5:=decT h5
  refine xO (List.length L≤List.length L∧0≤atL L ke∧atL L ke < ↑(List.length L)) (by omega) ?_
  refine xO ((atL L ke).toNat<List.length L) (by omega) ?_
  refine xB (decide (ke≥1)) (fun h6 => ?_) (fun h6 => ?_)
  ·skip
   replace h6:=decT h6
   refine xB (!decide (ke≤2147483647)) (fun h7 => ?_) (fun h7 => ?_)
   ·skip
    replace h7:=ntT h7
    replace h7:=decF h7
    exact xR (co==1) (rl_a (by omega))
   ·skip
    replace h7:=ntF h7
    replace h7:=decT h7
    refine xB (co==0) (fun h8 => ?_) (fun h8 => ?_)
    ·skip
     replace h8:=decT h8
     refine xT (decide (atL L ke≥0)) (by first | (simp; done) | (simp; omega)) ?_
     refine xB (decide ((↑(List.getD L (atL L ke).toNat tN).snd.snd.xs.length:Int)>(0:Int))) (fun h9 => ?_) (fun h9 => ?_)
     ·skip
      replace h9:=decT h9
      refine xCy [⟨(g 0).b,none,0⟩,⟨0,(g 1).a,(g 1).c⟩,⟨0,(g 2).a,(g 2).c⟩,⟨0,(g 3).a,(g 3).c⟩] [4,0,1] (Tg.n) ⟨[(4,[.n,.c,.n,.n,.n,.n,.n,.n,.i 3,.n,.n,.n,.n,.n]),(5,[.c,.n,.n,.n,.n,.n]),(1,[]),(50,[.n,.n,.n]),(0,[.n,.n,.n,.n,.n,.n,.n,.n,.n,.n,.i 1,.i 2]),(2,[]),(3,[])],103⟩ Tryz.call42 (fun F' _=>(t_r42E (c) (by omega) (sv) (L) (H) (ps) (ke) (ws) (List.length L) (k) (ws.length) (by omega) (by omega) (by omega) (by omega)).fr) fun xn11 n11 hxn11 => ?_
      subst hxn11
      exact xR (readS c (List.getD L (atL L ke).toNat tN).snd.fst (List.getD L (atL L ke).toNat tN).snd.snd.xs ws) (rl_b (by omega) (by omega) (by omega) (by omega))
     ·skip
      replace h9:=decF h9
      exact xR (false) (rl_c (by omega) (by omega) (.inr (by omega)))
    ·skip
     replace h8:=decF h8
     refine xB (co==12) (fun h12 => ?_) (fun h12 => ?_)
     ·skip
      replace h12:=decT h12
      refine xF (decide (atL L ke<0)) (by first | (simp; done) | (simp; omega)) ?_
      refine xF (co==20) (by first | (simp; done) | (simp; omega)) ?_
      refine xF (co==17) (by first | (simp; done) | (simp; omega)) ?_
      exact xR (co==19) (rl_d (by omega) (by omega) (by simp [-List.getD_eq_getElem?_getD, *]; done))
     ·skip
      replace h12:=decF h12
      refine xB (co==20) (fun h13 => ?_) (fun h13 => ?_)
      ·skip
       replace h13:=decT h13
       refine xT (decide (atL L ke≥0)) (by first | (simp; done) | (simp; omega)) ?_
       refine xB ((↑(List.getD L (atL L ke).toNat tN).snd.snd.xs.length:Int)==(0:Int)) (fun h14 => ?_) (fun h14 => ?_)
       ·skip
        replace h14:=decT h14
        exact xR (true) (rl_d (by omega) (by omega) (by simp [-List.getD_eq_getElem?_getD, *]; done))
       ·skip
        replace h14:=decF h14
        refine xF (co==17) (by first | (simp; done) | (simp; omega)) ?_
        exact xR (co==19) (rl_d (by omega) (by omega) (by rw [beq_eq_false_iff_ne.2 (show ¬(((L.getD (atL L ke).toNat tN).2.2.xs.length:Int)=0) by omega)]; simp [-List.getD_eq_getElem?_getD, *]; done))
      ·skip
       replace h13:=decF h13
       refine xB (co==17) (fun h15 => ?_) (fun h15 => ?_)
       ·skip
        replace h15:=decT h15
        exact xR (true) (rl_d (by omega) (by omega) (by simp [-List.getD_eq_getElem?_getD, *]; done))
       ·skip
        replace h15:=decF h15
        exact xR (co==19) (rl_d (by omega) (by omega) (by simp [-List.getD_eq_getElem?_getD, *]; done))
  ·skip
   replace h6:=decF h6
   exact xR (co==1) (rl_a (by omega))
 ·skip
  replace h5:=decF h5
  refine xB (decide (ke≥1)) (fun h16 => ?_) (fun h16 => ?_)
  ·skip
   replace h16:=decT h16
   refine xB (!decide (ke≤2147483647)) (fun h17 => ?_) (fun h17 => ?_)
   ·skip
    replace h17:=ntT h17
    replace h17:=decF h17
    exact xR (co==1) (rl_a (by omega))
   ·skip
    replace h17:=ntF h17
    replace h17:=decT h17
    refine xB (co==0) (fun h18 => ?_) (fun h18 => ?_)
    ·skip
     replace h18:=decT h18
     refine xF (decide (atL L ke≥0)) (by first | (simp; done) | (simp; omega)) ?_
     exact xR (false) (rl_c (by omega) (by omega) (.inl (by omega)))
    ·skip
     replace h18:=decF h18
     refine xB (co==12) (fun h19 => ?_) (fun h19 => ?_)
     ·skip
      replace h19:=decT h19
      refine xT (decide (atL L ke<0)) (by first | (simp; done) | (simp; omega)) ?_
      exact xR (true) (rl_d (by omega) (by omega) (by rw [decide_eq_true (show atL L ke<0 by omega),beq_iff_eq.2 (show co=12 by omega)]; rfl))
     ·skip
      replace h19:=decF h19
      refine xB (co==20) (fun h20 => ?_) (fun h20 => ?_)
      ·skip
       replace h20:=decT h20
       refine xF (decide (atL L ke≥0)) (by first | (simp; done) | (simp; omega)) ?_
       refine xF (co==17) (by first | (simp; done) | (simp; omega)) ?_
       exact xR (co==19) (rl_d (by omega) (by omega) (by simp [-List.getD_eq_getElem?_getD, *]; done))
      ·skip
       replace h20:=decF h20
       refine xB (co==17) (fun h21 => ?_) (fun h21 => ?_)
       ·skip
        replace h21:=decT h21
        exact xR (true) (rl_d (by omega) (by omega) (by simp [-List.getD_eq_getElem?_getD, *]; done))
       ·skip
        replace h21:=decF h21
        exact xR (co==19) (rl_d (by omega) (by omega) (by simp [-List.getD_eq_getElem?_getD, *]; done))
  ·skip
   replace h16:=decF h16
   exact xR (co==1) (rl_a (by omega))
end Go.Proofs.YthijdhenekmojaaGreatDoor
/- The document's model: what is done of a field. -/
set_option linter.unusedSimpArgs false
set_option maxRecDepth 100000
set_option maxHeartbeats 0
namespace Go.Proofs.YthijdhenekmojaaGreatDoor
open Go.Sx
abbrev mdW(c:Cfg)(n k:Nat): SE:=.pts 0 (cfgS c++[.sp 3 1 1,.s 5 n,.s 6 k]) 60
abbrev hlW(H:HanL)(ps:List PRow): SE:=.rs 6 fun g=>HL (g 6).a (g 6).c H ps
abbrev scC: SE:=.pts 3 [.sp 4 2 2] 85
abbrev scD: SE:=.pts 4 [.l .i64 1,.l .i64 0,.l .i64 3,.l .i64 0] 84
abbrev ptW(p0 p1:Int): SE:=.sl 2 (Sx.encI .i64) 0 1 [p0,p1] 3
theorem t_fldP(c:Cfg)(H:HanL)(ps:List PRow)(p:PRow)(hp:p = .nil∨p∈ps)(rw rk:Value)(cl nn co n cm p0 p1:Int)(h01:p0=0∨p0=1)(hp1:0≤p1)(hw:WRng p.xs)(hl:p.xs.length≤1000)(h0:0<p.xs.length)(k1 k2:Nat):
  Ct Tryz.prog 43 (sB [.s (.p 0 0),.g [.i .i64 cl,.i .i64 nn,.o (.slice p.a p.xs.length p.c)],.s (.s 2 2),.g [.i .i64 co,.o rw,.o rk,.i .u64 n,.i .i64 cm]] [mdW c k1 k2,hlW H ps,ptW p0 p1,scC,scD] 7 (fldV p.xs p0 co n) [mdW c k1 k2,hlW H ps,scC,scD]):=by
 intro g
 have hin:Ct Tryz.prog 43 (fdSp c (.slice (g 5).a k1 (g 5).c) (.slice (g 6).a k2 (g 6).c) rw rk p.xs p.r p.xs.length cl nn co n cm p0 p1 (fldV p.xs p0 co n)):=by
  rcases h01 with rfl | rfl
  ·exact t_fldRA c _ _ rw rk p.xs p.r _ rfl cl nn co n cm p1 hp1 hw hl h0
  ·exact t_fldRB c _ _ rw rk p.xs p.r _ rfl cl nn co n cm p1 hp1 hw hl h0
 have hin:=hin (fun | 0=>g 0 | 1=>⟨0,p.a,p.c⟩ | 2=>g 2 | 3=>g 3 | _=>g 4)
 refine ctr_fr (M:=[.sl (g 6).a (g 6).c encH hN 3 H 101,.res (PoolX 42 ps p)]) ?_ hin ?_
 ·refine view_trans (view_part [1] (by kernel_rfl) (by kernel_rfl) (hl_open (a:=(g 6).a) (c:=(g 6).c) (H:=H) (ps:=ps))) ?_
  refine view_trans (view_part [5] (by kernel_rfl) (by kernel_rfl) (pv_open (t:=42) (ps:=ps) (p:=p) hp)) ?_
  exact view_pick [0,6,1,2,3,4,5] (by kernel_rfl)
 ·rintro v post ⟨x,ν,hx,rfl,rfl⟩
  refine⟨[mdW c k1 k2,hlW H ps,scC,scD].map (SE.e g), ?_,x,ν,hx,rfl,rfl⟩
  refine view_trans (view_part [1,3] (by kernel_rfl) (by kernel_rfl) (pv_close (t:=42) (ps:=ps) (p:=p))) ?_
  refine view_trans (view_part [0,4] (by kernel_rfl) (by kernel_rfl) (hl_fold (a:=(g 6).a) (c:=(g 6).c) (H:=H) (ps:=ps))) ?_
  exact view_pick [0,3,1,2] (by kernel_rfl)
theorem t_atW(c:Cfg)(L:TopL)(ke:Int)(n k:Nat)(hn:L.length=n)(hl:n≤1000000):
  Ct Tryz.prog 38 (⟨[.s (.p 0 0),.s (.i .i64 ke)],[mdW c n k,.sl 5 encT tN 3 L 56],7,fun x=>x=atL L ke,fun x=>[.s (.i .i64 x)],fun _=>[mdW c n k,.sl 5 encT tN 3 L 56]⟩:Sp Int):=by
 intro g F w hi
 refine(t_at c L (.slice (some ⟨(g 3).b,0,none⟩) 1 1) (.slice (g 6).a k (g 6).c) ke n hn hl (fun | 0=>g 0 | _=>g 5) F w hi).mono ?_
 rintro e w' ⟨v,L',he,⟨x,ν,hx,rfl,rfl⟩,hin⟩
 exact⟨_,_,he,⟨x,ν,hx,rfl,rfl⟩,hin⟩
def fndL(H:HanL)(cl ha:Int): Option ((Int×Int)×PRow):=H.find? (fun x=>x.1.1==cl&&x.1.2==ha)
def doFldR(H:HanL)(cl ha co m p0:Int): Bool:=if co=1 then true else match fndL H cl ha with
 | none=>true
 | some x=>fldV x.2.xs p0 co m
def HOk(H:HanL)(ps:List PRow): Prop := ∀x∈H,(x.2 = .nil∨x.2∈ps)∧WRng x.2.xs∧0<x.2.xs.length∧x.2.xs.length≤1000
theorem HOk.at{H:HanL}{ps:List PRow}(h:HOk H ps){j:Nat}(hj:j<H.length): ((H.getD j hN).2 = .nil∨(H.getD j hN).2∈ps)∧WRng (H.getD j hN).2.xs∧0<(H.getD j hN).2.xs.length∧(H.getD j hN).2.xs.length≤1000:=by
 have e:H.getD j hN=H[j]:=by simp [hj]
 rw [e]
 exact h _ (List.getElem_mem hj)
theorem t_fldH(c:Cfg)(H:HanL)(ps:List PRow)(hH:HOk H ps)(j:Nat)(hj:j<H.length)(rw rk:Value)(co n cm p0 p1:Int)(h01:p0=0∨p0=1)(hp1:0≤p1)(k1 k2:Nat):
  Ct Tryz.prog 43 (sB [.s (.p 0 0),.g [.i .i64 (H.getD j hN).1.1,.i .i64 (H.getD j hN).1.2,.o (.slice (H.getD j hN).2.a (H.getD j hN).2.xs.length (H.getD j hN).2.c)],.s (.s 2 2),.g [.i .i64 co,.o rw,.o rk,.i .u64 n,.i .i64 cm]] [mdW c k1 k2,hlW H ps,ptW p0 p1,scC,scD] 7 (fldV (H.getD j hN).2.xs p0 co n) [mdW c k1 k2,hlW H ps,scC,scD]):=
 t_fldP c H ps _ (hH.at hj).1 rw rk _ _ co n cm p0 p1 h01 hp1 (hH.at hj).2.1 (hH.at hj).2.2.2 (hH.at hj).2.2.1 k1 k2
theorem df_a{H:HanL}{cl ha co m p0:Int}(h:co=1): true=doFldR H cl ha co m p0:=by unfold doFldR; rw [if_pos h]
theorem df_n{H:HanL}{cl ha co m p0:Int}(h:¬co=1){j:Nat}(hj:∀x∈H.take j,(x.1.1==cl&&x.1.2==ha)=false)(hl:H.length≤j): true=doFldR H cl ha co m p0:=by
 unfold doFldR
 rw [if_neg h]
 have:fndL H cl ha=none:=by
  unfold fndL
  rw [List.find?_eq_none]
  intro x hx
  rw [List.take_of_length_le hl] at hj
  rw [hj x hx]; simp
 rw [this]
theorem df_s{H:HanL}{cl ha co m p0:Int}(h:¬co=1){j:Nat}(hj:∀x∈H.take j,(x.1.1==cl&&x.1.2==ha)=false)(hl:j<H.length)(h1:(H.getD j hN).1.1=cl)(h2:(H.getD j hN).1.2=ha): fldV (H.getD j hN).2.xs p0 co m=doFldR H cl ha co m p0:=by
 unfold doFldR
 rw [if_neg h]
 have e:H.getD j hN=H[j]:=by simp [hl]
 have:fndL H cl ha=some (H.getD j hN):=by
  unfold fndL
  rw [List.find?_eq_some_iff_getElem]
  refine⟨by rw [beq_iff_eq.2 h1,beq_iff_eq.2 h2]; rfl,j,hl,e.symm, ?_⟩
  intro i hi
  rw [hj H[i] (List.mem_take_iff_getElem.2 ⟨i,by omega,rfl⟩)]; rfl
 rw [this]
theorem df_step{H:HanL}{cl ha:Int}{j:Nat}(hj:∀x∈H.take j,(x.1.1==cl&&x.1.2==ha)=false)(hl:j<H.length)(hne:((H.getD j hN).1.1==cl&&(H.getD j hN).1.2==ha)=false): ∀x∈H.take (j+1),(x.1.1==cl&&x.1.2==ha)=false:=by
 intro x hx
 rw [List.take_add_one] at hx
 rcases List.mem_append.1 hx with hx | hx
 ·exact hj x hx
 ·have hg:H[j]? = some (H.getD j hN):=by simp [hl]
  rw [hg] at hx
  have:x=H.getD j hN:=by simpa using hx
  rw [this]
  exact hne
theorem fldLoop(c:Cfg)(hc:c.Ok)(L:TopL)(H:HanL)(ps:List PRow)(hH:HOk H ps)(cl ke:Int)(la:Bool)(wa:Option Addr)(wn wc:Nat)(rw rk:Value)(ha co m cm fr to_:Int)(p0 p1:Int)(h01:p0=0∨p0=1)(hp1:0≤p1)(hk1:H.length≤100)(g:Nat→Rf)(F:Fr)(hco:¬co=1)(d1 d2:Nat):
  Go Tryz.prog Tryz.f14 (Tryz.f14.body.getD .skip) 431 F (RetR F (Some_ ((sB [.s (.p 0 0),.g (dS cl 6 ke la (.o (.slice wa wn wc)) ha (.s 2 2) co (.o rw) (.o rk) m cm fr to_)] [mdW c L.length H.length,.sl 5 encT tN 3 L 56,hlW H ps,ptW p0 p1,scC,scD] 7 (doFldR H cl ha co m p0) [mdW c L.length H.length,.sl 5 encT tN 3 L 56,hlW H ps,scC,scD]).Q g))) (.c [0,1,0,1,0,1,1,1,1,1,1,1,1,1,1,1,0,1,0,1,1,1,1,1,1,1,1] :: [.b 1,.c [1,1,0,1,1,1,1,1,1,1,1,1,1,1,0,1,0,1,1,1,1,1,1,1,1],.b 0,.c [1,1,1,1,1,1,1,1,1]]) [(0,.pointer (some ⟨(g 0).b,0,none⟩)),(3,.pointer (some ⟨d1,0,none⟩)),(5,.pointer (some ⟨d2,0,none⟩)),(11,.int .i64 0)] ([mdW c L.length H.length,.sl 5 encT tN 3 L 56,ptW p0 p1,scC,scD].map (SE.e g)++[.sl (g 6).a (g 6).c encH hN 3 H 101,.res (Pool 42 ps),.pts d1 ((dS cl 6 ke la (.o (.slice wa wn wc)) ha (.s 2 2) co (.o rw) (.o rk) m cm fr to_).map (SV.v g)) 46,.pts d2 [.int .i64 6,.int .i64 ke,.bool la,.slice wa wn wc,.int .i64 ha,.slice (g 2).a 2 (g 2).c] 40]):=by
 refine xG xdI [(0,.i 0),(3,.i 8),(5,.i 9)] ⟨[(0,(cfgS c++[SV.sp 3 1 1,SV.s 5 L.length,SV.s 6 H.length]).map (SV.g id)),(5,[]),(2,[]),(3,[SV.sp 4 2 2].map (SV.g id)),(4,[.c,.c,.c,.c]),(6,[]),(7,[]),(8,[.n,.c,.n,.n,.n,.n,.i 2,.n,.n,.n,.n,.n,.n,.n]),(9,[.c,.n,.n,.n,.n,.i 2])],20⟩ Tryz.func14 ?_
 refine xLoop xdI Tryz.func14 [0,1,0,1,0,1,1,1,1,1,1,1,1,1,1,1,0,1,0,1,1,1,1,1,1,1,1] [.b 1,.c [1,1,0,1,1,1,1,1,1,1,1,1,1,1,0,1,0,1,1,1,1,1,1,1,1],.b 0,.c [1,1,1,1,1,1,1,1,1]] [0,3,5,11] [0,1,2,3,4,5,6,7,8] (fun j:Nat=>[(0,.pointer (some ⟨(g 0).b,0,none⟩)),(3,.pointer (some ⟨d1,0,none⟩)),(5,.pointer (some ⟨d2,0,none⟩)),(11,.int .i64 j)]) (fun _=>[(0,.i 0),(3,.i 8),(5,.i 9)]) (fun _=>([mdW c L.length H.length,.sl 5 encT tN 3 L 56,ptW p0 p1,scC,scD].map (SE.e g)++[.sl (g 6).a (g 6).c encH hN 3 H 101,.res (Pool 42 ps),.pts d1 ((dS cl 6 ke la (.o (.slice wa wn wc)) ha (.s 2 2) co (.o rw) (.o rk) m cm fr to_).map (SV.v g)) 46,.pts d2 [.int .i64 6,.int .i64 ke,.bool la,.slice wa wn wc,.int .i64 ha,.slice (g 2).a 2 (g 2).c] 40])) (fun _=>⟨[(0,(cfgS c++[SV.sp 3 1 1,SV.s 5 L.length,SV.s 6 H.length]).map (SV.g id)),(5,[]),(2,[]),(3,[SV.sp 4 2 2].map (SV.g id)),(4,[.c,.c,.c,.c]),(6,[]),(7,[]),(8,[.n,.c,.n,.n,.n,.n,.i 2,.n,.n,.n,.n,.n,.n,.n]),(9,[.c,.n,.n,.n,.n,.i 2])],20⟩) (fun j=>j≤H.length∧∀x∈H.take j,(x.1.1==cl&&x.1.2==ha)=false) (fun j=>H.length-j) 0 ⟨by omega,by simp⟩ (fun j J hI hJ => ?_)
 refine xB (decide ((↑j:Int)<(↑(List.length H):Int))) (fun h1 => ?_) (fun h1 => ?_)
 ·skip
  replace h1:=decT h1
  refine xO (List.length H≤List.length H∧(0:Int)≤(↑j:Int)∧(↑j:Int)<(↑(List.length H):Int)) (by omega) ?_
  refine xFs 5 ((g 6).a) ((g 6).c) (encH) (hN) 3 (H) 101 (j) 0 false 1 [Value.int IntKind.i64 (List.getD H j hN).fst.fst] .n (show j<(H).length by omega) rfl rfl (by simp) ?_
  refine xB ((List.getD H j hN).fst.fst==cl) (fun h2 => ?_) (fun h2 => ?_)
  ·skip
   replace h2:=decT h2
   refine xO (List.length H≤List.length H∧(0:Int)≤(↑j:Int)∧(↑j:Int)<(↑(List.length H):Int)) (by omega) ?_
   refine xFs 5 ((g 6).a) ((g 6).c) (encH) (hN) 3 (H) 101 (j) 1 false 1 [Value.int IntKind.i64 (List.getD H j hN).fst.snd] .n (show j<(H).length by omega) rfl rfl (by simp) ?_
   refine xB ((List.getD H j hN).fst.snd==ha) (fun h3 => ?_) (fun h3 => ?_)
   ·skip
    replace h3:=decT h3
    refine xO (List.length H≤List.length H∧(0:Int)≤(↑j:Int)∧(↑j:Int)<(↑(List.length H):Int)) (by omega) ?_
    refine xO ((↑j:Int).toNat<List.length H) (by omega) ?_
    refine xFold [5,6] [.sl (g 6).a (g 6).c encH hN 3 H 101,.res (Pool 42 ps)] 6 (HL (g 6).a (g 6).c H ps) hl_fold ?_ sc_st
    refine xCy [⟨(g 0).b,none,0⟩,⟨0,none,0⟩,⟨0,(g 2).a,(g 2).c⟩,⟨(g 3).b,none,0⟩,⟨(g 4).b,none,0⟩,⟨0,(g 5).a,(g 5).c⟩,⟨0,(g 6).a,(g 6).c⟩] [0,7,2,3,4] (Tg.n) ⟨[(5,[]),(8,[.n,.c,.n,.n,.n,.n,.i 2,.n,.n,.n,.n,.n,.n,.n]),(9,[.c,.n,.n,.n,.n,.i 2]),(0,[.n,.n,.n,.n,.n,.n,.n,.n,.n,.i 3,.i 5,.i 6]),(6,[]),(3,[.i 4]),(4,[.c,.c,.c,.c])],65⟩ Tryz.call43 (fun F' h=>(t_fldH (c) (H) (ps) (by omega) ((↑j:Int).toNat) (by omega) (rw) (rk) (co) (m) (cm) (p0) (p1) (by omega) (by omega) (List.length L) (List.length H)).fr) fun xn4 n4 hxn4 => ?_
    subst hxn4
    exact xR (fldV (List.getD H (↑j:Int).toNat hN).snd.xs p0 co m) (df_s hco hI.2 (by omega) (by assumption) (by assumption))
   ·skip
    replace h3:=decF h3
    refine xO (InK IntKind.i64 (↑j+1)) (by simp only [InK] at *; omega) ?_
    exact xJ hJ (j+1) (by omega) ⟨by omega,df_step hI.2 (by omega) (by rw [Bool.and_eq_false_iff]; right; exact beq_eq_false_iff_ne.2 (by assumption))⟩
  ·skip
   replace h2:=decF h2
   refine xO (InK IntKind.i64 (↑j+1)) (by simp only [InK] at *; omega) ?_
   exact xJ hJ (j+1) (by omega) ⟨by omega,df_step hI.2 (by omega) (by rw [beq_eq_false_iff_ne.2 (by assumption)]; rfl)⟩
 ·skip
  replace h1:=decF h1
  refine xEnd [5,6] [.sl (g 6).a (g 6).c encH hN 3 H 101,.res (Pool 42 ps)] 6 (HL (g 6).a (g 6).c H ps) hl_fold ?_
  exact xR (true) (df_n hco hI.2 (by omega))
theorem t_doFldR(c:Cfg)(hc:c.Ok)(L:TopL)(H:HanL)(ps:List PRow)(hH:HOk H ps)(cl ke:Int)(la:Bool)(wa:Option Addr)(wn wc:Nat)(rw rk:Value)(ha co m cm fr to_:Int)(p0 p1:Int)(h01:p0=0∨p0=1)(hp1:0≤p1)(n k:Nat)(hn:L.length=n)(hk:H.length=k)(hl:n≤100)(hk1:k≤100):
  Ct Tryz.prog 14 (sB [.s (.p 0 0),.g (dS cl 6 ke la (.o (.slice wa wn wc)) ha (.s 2 2) co (.o rw) (.o rk) m cm fr to_)] [mdW c n k,.sl 5 encT tN 3 L 56,hlW H ps,ptW p0 p1,scC,scD] 7 (doFldR H cl ha co m p0) [mdW c n k,.sl 5 encT tN 3 L 56,hlW H ps,scC,scD]):=by
 subst hn
 subst hk
 have hat:=at_lt L ke
 refine cXv 431 xdI Tryz.func14 _ ⟨[(0,(cfgS c++[SV.sp 3 1 1,SV.s 5 L.length,SV.s 6 H.length]).map (SV.g id)),(5,[]),(2,[]),(3,[SV.sp 4 2 2].map (SV.g id)),(4,[.c,.c,.c,.c]),(6,[]),(7,[])],8⟩ (fun g=>view_part [2] (by kernel_rfl) (by kernel_rfl) (hl_open (a:=(g 6).a) (c:=(g 6).c) (H:=H) (ps:=ps))) fun g F => ?_
 refine xN fun b1 => ?_
 refine xN fun b2 => ?_
 refine xCy [⟨(g 0).b,none,0⟩,⟨0,none,0⟩,⟨0,none,0⟩,⟨(g 3).b,none,0⟩,⟨0,none,0⟩,⟨0,(g 5).a,(g 5).c⟩,⟨0,(g 6).a,(g 6).c⟩] [0,1] (Tg.n) ⟨[(2,[]),(3,[.i 4]),(4,[.c,.c,.c,.c]),(6,[]),(7,[]),(8,[.n,.c,.n,.n,.n,.n,.i 2,.n,.n,.n,.n,.n,.n,.n]),(9,[.c,.n,.n,.n,.n,.i 2]),(0,[.n,.n,.n,.n,.n,.n,.n,.n,.n,.i 3,.i 5,.i 6]),(5,[])],53⟩ Tryz.call38 (fun F' h=>(t_atW (c) (L) (ke) (List.length L) (List.length H) (by omega) (by omega)).fr) fun xn3 n3 hxn3 => ?_
 subst hxn3
 refine xN fun b4 => ?_
 refine xB (decide (atL L ke≥0)) (fun h5 => ?_) (fun h5 => ?_)
 ·skip
  replace h5:=decT h5
  refine xO (List.length L≤List.length L∧0≤atL L ke∧atL L ke < ↑(List.length L)) (by omega) ?_
  refine xO ((atL L ke).toNat<List.length L) (by omega) ?_
  refine xB (decide (ke≥1)) (fun h6 => ?_) (fun h6 => ?_)
  ·skip
   replace h6:=decT h6
   refine xB (co==1) (fun h7 => ?_) (fun h7 => ?_)
   ·skip
    replace h7:=decT h7
    refine xEnd [3,4] [.sl (g 6).a (g 6).c encH hN 3 H 101,.res (Pool 42 ps)] 6 (HL (g 6).a (g 6).c H ps) hl_fold ?_
    exact xR (true) (df_a (by omega))
   ·skip
    replace h7:=decF h7
    refine xGo [0,3,5,11] [7,8,0,1,2,3,4,5,6] _ _ _ (fldLoop c hc L H ps hH cl ke la wa wn wc rw rk ha co m cm fr to_ p0 p1 h01 hp1 hk1 g F (by omega) (b1) (b2))
  ·skip
   replace h6:=decF h6
   refine xB (co==1) (fun h8 => ?_) (fun h8 => ?_)
   ·skip
    replace h8:=decT h8
    refine xEnd [3,4] [.sl (g 6).a (g 6).c encH hN 3 H 101,.res (Pool 42 ps)] 6 (HL (g 6).a (g 6).c H ps) hl_fold ?_
    exact xR (true) (df_a (by omega))
   ·skip
    replace h8:=decF h8
    refine xGo [0,3,5,11] [7,8,0,1,2,3,4,5,6] _ _ _ (fldLoop c hc L H ps hH cl ke la wa wn wc rw rk ha co m cm fr to_ p0 p1 h01 hp1 hk1 g F (by omega) (b1) (b2))
 ·skip
  replace h5:=decF h5
  refine xB (decide (ke≥1)) (fun h9 => ?_) (fun h9 => ?_)
  ·skip
   replace h9:=decT h9
   refine xB (co==1) (fun h10 => ?_) (fun h10 => ?_)
   ·skip
    replace h10:=decT h10
    refine xEnd [3,4] [.sl (g 6).a (g 6).c encH hN 3 H 101,.res (Pool 42 ps)] 6 (HL (g 6).a (g 6).c H ps) hl_fold ?_
    exact xR (true) (df_a (by omega))
   ·skip
    replace h10:=decF h10
    refine xGo [0,3,5,11] [7,8,0,1,2,3,4,5,6] _ _ _ (fldLoop c hc L H ps hH cl ke la wa wn wc rw rk ha co m cm fr to_ p0 p1 h01 hp1 hk1 g F (by omega) (b1) (b2))
  ·skip
   replace h9:=decF h9
   refine xB (co==1) (fun h11 => ?_) (fun h11 => ?_)
   ·skip
    replace h11:=decT h11
    refine xEnd [3,4] [.sl (g 6).a (g 6).c encH hN 3 H 101,.res (Pool 42 ps)] 6 (HL (g 6).a (g 6).c H ps) hl_fold ?_
    exact xR (true) (df_a (by omega))
   ·skip
    replace h11:=decF h11
    refine xGo [0,3,5,11] [7,8,0,1,2,3,4,5,6] _ _ _ (fldLoop c hc L H ps hH cl ke la wa wn wc rw rk ha co m cm fr to_ p0 p1 h01 hp1 hk1 g F (by omega) (b1) (b2))
end Go.Proofs.YthijdhenekmojaaGreatDoor
/- Are two rows of numbers the same? -/
set_option linter.unusedSimpArgs false
set_option maxRecDepth 100000
set_option maxHeartbeats 0
namespace Go.Proofs.YthijdhenekmojaaGreatDoor
open Go.Sx
theorem t_same10(xs ys:List Int)(n m:Nat)(hn:xs.length=n)(hm:m≤ys.length)(hl:xs.length≤1000000): Ct Tryz.prog 15 (sB [.s (.s 0 n),.s (.s 1 m)] [.sl 0 (Sx.encI .i64) 0 1 xs 3,.sl 1 (Sx.encI .i64) 0 1 ys 3] 2 (decide (ys.take m=xs)) [.sl 0 (Sx.encI .i64) 0 1 xs 3,.sl 1 (Sx.encI .i64) 0 1 ys 3]):=by
 subst hn
 refine cX 26 xlI Tryz.func15 fun g F => ?_
 refine xB ((↑xs.length:Int) != (↑m:Int)) (fun h1 => ?_) (fun h1 => ?_)
 ·skip
  replace h1:=ntT h1
  replace h1:=decF h1
  exact xR (false) ((decide_eq_false (fun h=>by have:=congrArg List.length h; simp at this; omega)).symm)
 ·skip
  replace h1:=ntF h1
  replace h1:=decT h1
  refine xLoop xlI Tryz.func15 [0,1,0,1,1] [.b 0,.c [1,1,1]] [0,1,5] [0,1] (fun i:Nat=>[(0,.slice (g 0).a xs.length (g 0).c),(1,.slice (g 1).a m (g 1).c),(5,.int .i64 i)]) (fun _=>[(0,.i 0),(1,.i 1)]) (fun _=>[.sl (g 0).a (g 0).c (Sx.encI .i64) 0 1 xs 3,.sl (g 1).a (g 1).c (Sx.encI .i64) 0 1 ys 3]) (fun _=>⟨[(0,[]),(1,[])],2⟩) (fun i=>i≤xs.length∧ys.take i=xs.take i) (fun i=>xs.length-i) 0 ⟨by omega,rfl⟩ (fun i J hI hJ => ?_)
  refine xB (decide ((↑i:Int)<(↑xs.length:Int))) (fun h2 => ?_) (fun h2 => ?_)
  ·skip
   replace h2:=decT h2
   refine xO (xs.length≤xs.length∧(0:Int)≤(↑i:Int)∧(↑i:Int)<(↑xs.length:Int)) (by omega) ?_
   refine xO ((↑i:Int).toNat<xs.length) (by omega) ?_
   refine xO (m≤ys.length∧(0:Int)≤(↑i:Int)∧(↑i:Int)<(↑m:Int)) (by omega) ?_
   refine xO ((↑i:Int).toNat<ys.length) (by omega) ?_
   refine xB (xs.getD (↑i:Int).toNat (0:Int) != ys.getD (↑i:Int).toNat (0:Int)) (fun h3 => ?_) (fun h3 => ?_)
   ·skip
    replace h3:=ntT h3
    replace h3:=decF h3
    exact xR (false) ((decide_eq_false (take_ne (i:=i) (by omega) (by omega) (Ne.symm (by assumption)))).symm)
   ·skip
    replace h3:=ntF h3
    replace h3:=decT h3
    refine xO (InK IntKind.i64 (↑i+1)) (by simp only [InK] at *; omega) ?_
    exact xJ hJ (i+1) (by omega) ⟨by omega,take_step hI.2 (by omega) (by omega) (Eq.symm (by assumption))⟩
  ·skip
   replace h2:=decF h2
   exact xR (true) ((decide_eq_true (by have hi:i=m:=(by omega); subst hi; rw [hI.2,List.take_of_length_le (by omega)])).symm)
end Go.Proofs.YthijdhenekmojaaGreatDoor
/- The document's model: the rest of what is done. -/
set_option linter.unusedSimpArgs false
set_option maxRecDepth 100000
set_option maxHeartbeats 0
namespace Go.Proofs.YthijdhenekmojaaGreatDoor
open Go.Sx
theorem t_pinP(c:Cfg)(hc:c.Ok)(L:TopL)(H:HanL)(ps:List PRow)(sv:Value)(cl ke:Int)(la:Bool)(wa pa:Option Addr)(wn wc pn pc:Nat)(rw rk:Value)(ha co m cm fr to_:Int)(hm:0≤m∧m≤1000)(n k:Nat)(hn:L.length=n)(hk:H.length=k)(hl:n≤100)(hk1:k≤100):
  Ct Tryz.prog 14 (⟨[.s (.p 0 0),.g (dS cl 5 ke la (.o (.slice wa wn wc)) ha (.o (.slice pa pn pc)) co (.o rw) (.o rk) m cm fr to_)],[mdH 1 2 c (.o sv) n k,.sl 1 encT tN 3 L 56,hlR H ps],3,pinL L H cl ke m co,fun x=>[.s (.bo x.b)],fun x=>[mdH 1 3 c (.o sv) n x.H.length,.sl 1 encT tN 3 L 56,.rs 3 fun g=>HL (g 3).a (g 3).c x.H ps]⟩:Sp RHL):=by
 intro g
 refine ctr_fr (M:=[.res (Pool 42 ps)]) ?_ (t_pinR c hc L H sv cl ke la wa pa wn wc pn pc rw rk ha co m cm fr to_ hm n k hn hk hl hk1 g) ?_
 ·exact view_part [2] (by kernel_rfl) (by kernel_rfl) (hl_open (a:=(g 2).a) (c:=(g 2).c) (H:=H) (ps:=ps))
 ·rintro v post ⟨x,ν,hx,rfl,rfl⟩
  refine⟨[mdH 1 3 c (.o sv) n x.H.length,.sl 1 encT tN 3 L 56,.rs 3 fun g=>HL (g 3).a (g 3).c x.H ps].map (SE.e (mixR 3 g ν)), ?_,x,ν,hx,rfl,rfl⟩
  refine view_trans (view_pick [1,2,3,0] (L':=([mdH 1 3 c (.o sv) n x.H.length,.sl 1 encT tN 3 L 56,.sl 3 encH hN 3 x.H 101].map (SE.e (mixR 3 g ν)))++[.res (Pool 42 ps)]) (by kernel_rfl)) ?_
  exact view_part [2,3] (by kernel_rfl) (by kernel_rfl) (hl_fold (a:=(mixR 3 g ν 3).a) (c:=(mixR 3 g ν 3).c) (H:=x.H) (ps:=ps))
abbrev smpS(ki:Int)(b:Bool)(c:Cfg)(L:TopL)(sv hv:Value)(cl ke:Int)(la:Bool)(wa pa:Option Addr)(wn wc pn pc:Nat)(rw rk:Value)(ha co m cm fr to_:Int)(n:Nat): Sp Bool:=
 sB [.s (.p 0 0),.g (dS cl ki ke la (.o (.slice wa wn wc)) ha (.o (.slice pa pn pc)) co (.o rw) (.o rk) m cm fr to_)] [mdRr 1 c (.o sv) (.o hv) n,.sl 1 encT tN 3 L 56] 2 b [mdRr 1 c (.o sv) (.o hv) n,.sl 1 encT tN 3 L 56]
theorem t_unpinR(c:Cfg)(hc:c.Ok)(L:TopL)(sv hv:Value)(cl ke:Int)(la:Bool)(wa pa:Option Addr)(wn wc pn pc:Nat)(rw rk:Value)(ha co m cm fr to_:Int)(n:Nat)(hn:L.length=n)(hl:n≤100):
  Ct Tryz.prog 14 (smpS 7 (decide (co=0∨co=1)) c L sv hv cl ke la wa pa wn wc pn pc rw rk ha co m cm fr to_ n):=by
 subst hn
 have hat:=at_lt L ke
 refine cX 431 xdI Tryz.func14 fun g F => ?_
 refine xN fun b1 => ?_
 refine xN fun b2 => ?_
 refine xCy [⟨(g 0).b,none,0⟩,⟨0,(g 1).a,(g 1).c⟩] [0,1] (Tg.n) ⟨[(2,[.n,.c,.n,.n,.n,.n,.n,.n,.n,.n,.n,.n,.n,.n]),(3,[.c,.n,.n,.n,.n,.n]),(0,[.n,.n,.n,.n,.n,.n,.n,.n,.n,.n,.i 1,.n]),(1,[])],47⟩ Tryz.call38 (fun F' _=>(t_at (c) (L) (sv) (hv) (ke) (List.length L) (by omega) (by omega)).fr) fun xn3 n3 hxn3 => ?_
 subst hxn3
 refine xN fun b4 => ?_
 refine xB (decide (atL L ke≥0)) (fun h5 => ?_) (fun h5 => ?_)
 ·skip
  replace h5:=decT h5
  refine xO (List.length L≤List.length L∧0≤atL L ke∧atL L ke < ↑(List.length L)) (by omega) ?_
  refine xO ((atL L ke).toNat<List.length L) (by omega) ?_
  refine xB (decide (ke≥1)) (fun h6 => ?_) (fun h6 => ?_)
  ·skip
   replace h6:=decT h6
   refine xB (co==0) (fun h7 => ?_) (fun h7 => ?_)
   ·skip
    replace h7:=decT h7
    exact xR (true) (by show _ = decide _; simp [*]; done)
   ·skip
    replace h7:=decF h7
    exact xR (co==1) (by show _ = decide _; by_cases h:co=1 <;> simp [*])
  ·skip
   replace h6:=decF h6
   refine xB (co==0) (fun h8 => ?_) (fun h8 => ?_)
   ·skip
    replace h8:=decT h8
    exact xR (true) (by show _ = decide _; simp [*]; done)
   ·skip
    replace h8:=decF h8
    exact xR (co==1) (by show _ = decide _; by_cases h:co=1 <;> simp [*])
 ·skip
  replace h5:=decF h5
  refine xB (decide (ke≥1)) (fun h9 => ?_) (fun h9 => ?_)
  ·skip
   replace h9:=decT h9
   refine xB (co==0) (fun h10 => ?_) (fun h10 => ?_)
   ·skip
    replace h10:=decT h10
    exact xR (true) (by show _ = decide _; simp [*]; done)
   ·skip
    replace h10:=decF h10
    exact xR (co==1) (by show _ = decide _; by_cases h:co=1 <;> simp [*])
  ·skip
   replace h9:=decF h9
   refine xB (co==0) (fun h11 => ?_) (fun h11 => ?_)
   ·skip
    replace h11:=decT h11
    exact xR (true) (by show _ = decide _; simp [*]; done)
   ·skip
    replace h11:=decF h11
    exact xR (co==1) (by show _ = decide _; by_cases h:co=1 <;> simp [*])
theorem t_scanR(c:Cfg)(hc:c.Ok)(L:TopL)(sv hv:Value)(cl ke:Int)(la:Bool)(wa pa:Option Addr)(wn wc pn pc:Nat)(rw rk:Value)(ha co m cm fr to_:Int)(n:Nat)(hn:L.length=n)(hl:n≤100):
  Ct Tryz.prog 14 (smpS 9 (decide (co=0)) c L sv hv cl ke la wa pa wn wc pn pc rw rk ha co m cm fr to_ n):=by
 subst hn
 have hat:=at_lt L ke
 refine cX 431 xdI Tryz.func14 fun g F => ?_
 refine xN fun b1 => ?_
 refine xN fun b2 => ?_
 refine xCy [⟨(g 0).b,none,0⟩,⟨0,(g 1).a,(g 1).c⟩] [0,1] (Tg.n) ⟨[(2,[.n,.c,.n,.n,.n,.n,.n,.n,.n,.n,.n,.n,.n,.n]),(3,[.c,.n,.n,.n,.n,.n]),(0,[.n,.n,.n,.n,.n,.n,.n,.n,.n,.n,.i 1,.n]),(1,[])],47⟩ Tryz.call38 (fun F' _=>(t_at (c) (L) (sv) (hv) (ke) (List.length L) (by omega) (by omega)).fr) fun xn3 n3 hxn3 => ?_
 subst hxn3
 refine xN fun b4 => ?_
 refine xB (decide (atL L ke≥0)) (fun h5 => ?_) (fun h5 => ?_)
 ·skip
  replace h5:=decT h5
  refine xO (List.length L≤List.length L∧0≤atL L ke∧atL L ke < ↑(List.length L)) (by omega) ?_
  refine xO ((atL L ke).toNat<List.length L) (by omega) ?_
  refine xB (decide (ke≥1)) (fun h6 => ?_) (fun h6 => ?_)
  ·skip
   replace h6:=decT h6
   exact xR (co==0) (by show _ = decide _; rw [Bool.eq_iff_iff]; simp [*]; done)
  ·skip
   replace h6:=decF h6
   exact xR (co==0) (by show _ = decide _; rw [Bool.eq_iff_iff]; simp [*]; done)
 ·skip
  replace h5:=decF h5
  refine xB (decide (ke≥1)) (fun h7 => ?_) (fun h7 => ?_)
  ·skip
   replace h7:=decT h7
   exact xR (co==0) (by show _ = decide _; rw [Bool.eq_iff_iff]; simp [*]; done)
  ·skip
   replace h7:=decF h7
   exact xR (co==0) (by show _ = decide _; rw [Bool.eq_iff_iff]; simp [*]; done)
theorem t_zeroR(c:Cfg)(hc:c.Ok)(L:TopL)(sv hv:Value)(cl ke:Int)(la:Bool)(wa pa:Option Addr)(wn wc pn pc:Nat)(rw rk:Value)(ha co m cm fr to_:Int)(n:Nat)(hn:L.length=n)(hl:n≤100):
  Ct Tryz.prog 14 (smpS 0 false c L sv hv cl ke la wa pa wn wc pn pc rw rk ha co m cm fr to_ n):=by
 subst hn
 have hat:=at_lt L ke
 refine cX 431 xdI Tryz.func14 fun g F => ?_
 refine xN fun b1 => ?_
 refine xN fun b2 => ?_
 refine xCy [⟨(g 0).b,none,0⟩,⟨0,(g 1).a,(g 1).c⟩] [0,1] (Tg.n) ⟨[(2,[.n,.c,.n,.n,.n,.n,.n,.n,.n,.n,.n,.n,.n,.n]),(3,[.c,.n,.n,.n,.n,.n]),(0,[.n,.n,.n,.n,.n,.n,.n,.n,.n,.n,.i 1,.n]),(1,[])],47⟩ Tryz.call38 (fun F' _=>(t_at (c) (L) (sv) (hv) (ke) (List.length L) (by omega) (by omega)).fr) fun xn3 n3 hxn3 => ?_
 subst hxn3
 refine xN fun b4 => ?_
 refine xB (decide (atL L ke≥0)) (fun h5 => ?_) (fun h5 => ?_)
 ·skip
  replace h5:=decT h5
  refine xO (List.length L≤List.length L∧0≤atL L ke∧atL L ke < ↑(List.length L)) (by omega) ?_
  refine xO ((atL L ke).toNat<List.length L) (by omega) ?_
  refine xB (decide (ke≥1)) (fun h6 => ?_) (fun h6 => ?_)
  ·skip
   replace h6:=decT h6
   exact xR (false) rfl
  ·skip
   replace h6:=decF h6
   exact xR (false) rfl
 ·skip
  replace h5:=decF h5
  refine xB (decide (ke≥1)) (fun h7 => ?_) (fun h7 => ?_)
  ·skip
   replace h7:=decT h7
   exact xR (false) rfl
  ·skip
   replace h7:=decF h7
   exact xR (false) rfl
theorem t_listR(c:Cfg)(hc:c.Ok)(L:TopL)(sv hv:Value)(cl ke:Int)(la:Bool)(wa pa:Option Addr)(wn wc pn pc:Nat)(rw:Value)(rk:List Int)(q:Nat)(hq:rk.length=q)(hq2:q≤1000)(ha co m cm fr to_:Int)(n:Nat)(hn:L.length=n)(hl:n≤100):
  Ct Tryz.prog 14 (sB [.s (.p 0 0),.g (dS cl 8 ke la (.o (.slice wa wn wc)) ha (.o (.slice pa pn pc)) co (.o rw) (.s 2 q) m cm fr to_)] [mdRr 1 c (.o sv) (.o hv) n,.sl 1 encT tN 3 L 56,.sl 2 (Sx.encI .i64) 0 1 rk 3] 3 (decide ((co=0∧L.map (·.1)=rk)∨co=17)) [mdRr 1 c (.o sv) (.o hv) n,.sl 1 encT tN 3 L 56,.sl 2 (Sx.encI .i64) 0 1 rk 3]):=by
 subst hn
 subst hq
 have hat:=at_lt L ke
 refine cX 431 xdI Tryz.func14 fun g F => ?_
 refine xN fun b1 => ?_
 refine xN fun b2 => ?_
 refine xCy [⟨(g 0).b,none,0⟩,⟨0,(g 1).a,(g 1).c⟩] [0,1] (Tg.n) ⟨[(2,[]),(3,[.n,.c,.n,.n,.n,.n,.n,.n,.n,.i 2,.n,.n,.n,.n]),(4,[.c,.n,.n,.n,.n,.n]),(0,[.n,.n,.n,.n,.n,.n,.n,.n,.n,.n,.i 1,.n]),(1,[])],48⟩ Tryz.call38 (fun F' _=>(t_at (c) (L) (sv) (hv) (ke) (List.length L) (by omega) (by omega)).fr) fun xn3 n3 hxn3 => ?_
 subst hxn3
 refine xN fun b4 => ?_
 refine xB (decide (atL L ke≥0)) (fun h5 => ?_) (fun h5 => ?_)
 ·skip
  replace h5:=decT h5
  refine xO (List.length L≤List.length L∧0≤atL L ke∧atL L ke < ↑(List.length L)) (by omega) ?_
  refine xO ((atL L ke).toNat<List.length L) (by omega) ?_
  refine xB (decide (ke≥1)) (fun h6 => ?_) (fun h6 => ?_)
  ·skip
   replace h6:=decT h6
   refine xCy [⟨(g 0).b,none,0⟩,⟨0,(g 1).a,(g 1).c⟩] [3,4] (Tg.i 57) ⟨[(2,[]),(3,[.n,.c,.n,.n,.n,.n,.n,.n,.n,.i 2,.n,.n,.n,.n]),(4,[.c,.n,.n,.n,.n,.n]),(49,[.n,.n,.n]),(0,[.n,.n,.n,.n,.n,.n,.n,.n,.n,.n,.i 1,.n]),(1,[]),(57,[])],97⟩ Tryz.call17 (fun F' _=>(t_keysR (c) (L) (sv) (hv) (List.length L) (by omega) (by omega)).fr) fun xn8 n8 hxn8 => ?_
   subst hxn8
   refine xCy [⟨0,(g 2).a,(g 2).c⟩,⟨0,(n8 2).a,(n8 2).c⟩] [0,6] (Tg.n) ⟨[(3,[.n,.c,.n,.n,.n,.n,.n,.n,.n,.i 2,.n,.n,.n,.n]),(4,[.c,.n,.n,.n,.n,.n]),(49,[.n,.n,.n]),(0,[.n,.n,.n,.n,.n,.n,.n,.n,.n,.n,.i 1,.n]),(1,[]),(2,[]),(57,[])],137⟩ Tryz.call15 (fun F' _=>(t_same10 (rk) (List.map (fun x=>x.fst) L) (rk.length) ((List.map (fun x=>x.fst) L).length) (by omega) (by omega) (by omega)).fr) fun xn11 n11 hxn11 => ?_
   subst hxn11
   refine xB (co==0) (fun h12 => ?_) (fun h12 => ?_)
   ·skip
    replace h12:=decT h12
    refine xB (decide (List.take (List.map (fun x=>x.fst) L).length (List.map (fun x=>x.fst) L)=rk)) (fun h13 => ?_) (fun h13 => ?_)
    ·skip
     replace h13:=decT h13
     exact xR (true) (by show true=decide ((co=0∧L.map (·.1)=rk)∨co=17); exact(decide_eq_true (.inl ⟨by omega,by have q:=h13; rw [List.take_of_length_le (Nat.le_refl _)] at q; exact q⟩)).symm)
    ·skip
     replace h13:=decF h13
     exact xR (co==17) (by show(co==17)=decide ((co=0∧L.map (·.1)=rk)∨co=17); rw [Bool.eq_iff_iff,beq_iff_eq,decide_eq_true_eq]; exact⟨.inr,fun h=>h.elim (fun h=>absurd (by rw [List.take_of_length_le (Nat.le_refl _)]; exact h.2) h13) id⟩)
   ·skip
    replace h12:=decF h12
    exact xR (co==17) (by show(co==17)=decide ((co=0∧L.map (·.1)=rk)∨co=17); rw [Bool.eq_iff_iff,beq_iff_eq,decide_eq_true_eq]; exact⟨.inr,fun h=>h.elim (fun h=>absurd h.1 h12) id⟩)
  ·skip
   replace h6:=decF h6
   refine xCy [⟨(g 0).b,none,0⟩,⟨0,(g 1).a,(g 1).c⟩] [3,4] (Tg.i 56) ⟨[(2,[]),(3,[.n,.c,.n,.n,.n,.n,.n,.n,.n,.i 2,.n,.n,.n,.n]),(4,[.c,.n,.n,.n,.n,.n]),(49,[.n,.n,.n]),(0,[.n,.n,.n,.n,.n,.n,.n,.n,.n,.n,.i 1,.n]),(1,[]),(56,[])],96⟩ Tryz.call17 (fun F' _=>(t_keysR (c) (L) (sv) (hv) (List.length L) (by omega) (by omega)).fr) fun xn15 n15 hxn15 => ?_
   subst hxn15
   refine xCy [⟨0,(g 2).a,(g 2).c⟩,⟨0,(n15 2).a,(n15 2).c⟩] [0,6] (Tg.n) ⟨[(3,[.n,.c,.n,.n,.n,.n,.n,.n,.n,.i 2,.n,.n,.n,.n]),(4,[.c,.n,.n,.n,.n,.n]),(49,[.n,.n,.n]),(0,[.n,.n,.n,.n,.n,.n,.n,.n,.n,.n,.i 1,.n]),(1,[]),(2,[]),(56,[])],136⟩ Tryz.call15 (fun F' _=>(t_same10 (rk) (List.map (fun x=>x.fst) L) (rk.length) ((List.map (fun x=>x.fst) L).length) (by omega) (by omega) (by omega)).fr) fun xn18 n18 hxn18 => ?_
   subst hxn18
   refine xB (co==0) (fun h19 => ?_) (fun h19 => ?_)
   ·skip
    replace h19:=decT h19
    refine xB (decide (List.take (List.map (fun x=>x.fst) L).length (List.map (fun x=>x.fst) L)=rk)) (fun h20 => ?_) (fun h20 => ?_)
    ·skip
     replace h20:=decT h20
     exact xR (true) (by show true=decide ((co=0∧L.map (·.1)=rk)∨co=17); exact(decide_eq_true (.inl ⟨by omega,by have q:=h20; rw [List.take_of_length_le (Nat.le_refl _)] at q; exact q⟩)).symm)
    ·skip
     replace h20:=decF h20
     exact xR (co==17) (by show(co==17)=decide ((co=0∧L.map (·.1)=rk)∨co=17); rw [Bool.eq_iff_iff,beq_iff_eq,decide_eq_true_eq]; exact⟨.inr,fun h=>h.elim (fun h=>absurd (by rw [List.take_of_length_le (Nat.le_refl _)]; exact h.2) h20) id⟩)
   ·skip
    replace h19:=decF h19
    exact xR (co==17) (by show(co==17)=decide ((co=0∧L.map (·.1)=rk)∨co=17); rw [Bool.eq_iff_iff,beq_iff_eq,decide_eq_true_eq]; exact⟨.inr,fun h=>h.elim (fun h=>absurd h.1 h19) id⟩)
 ·skip
  replace h5:=decF h5
  refine xB (decide (ke≥1)) (fun h21 => ?_) (fun h21 => ?_)
  ·skip
   replace h21:=decT h21
   refine xCy [⟨(g 0).b,none,0⟩,⟨0,(g 1).a,(g 1).c⟩] [3,4] (Tg.i 55) ⟨[(2,[]),(3,[.n,.c,.n,.n,.n,.n,.n,.n,.n,.i 2,.n,.n,.n,.n]),(4,[.c,.n,.n,.n,.n,.n]),(49,[.c,.c,.c]),(0,[.n,.n,.n,.n,.n,.n,.n,.n,.n,.n,.i 1,.n]),(1,[]),(55,[])],95⟩ Tryz.call17 (fun F' _=>(t_keysR (c) (L) (sv) (hv) (List.length L) (by omega) (by omega)).fr) fun xn23 n23 hxn23 => ?_
   subst hxn23
   refine xCy [⟨0,(g 2).a,(g 2).c⟩,⟨0,(n23 2).a,(n23 2).c⟩] [0,6] (Tg.n) ⟨[(3,[.n,.c,.n,.n,.n,.n,.n,.n,.n,.i 2,.n,.n,.n,.n]),(4,[.c,.n,.n,.n,.n,.n]),(49,[.c,.c,.c]),(0,[.n,.n,.n,.n,.n,.n,.n,.n,.n,.n,.i 1,.n]),(1,[]),(2,[]),(55,[])],135⟩ Tryz.call15 (fun F' _=>(t_same10 (rk) (List.map (fun x=>x.fst) L) (rk.length) ((List.map (fun x=>x.fst) L).length) (by omega) (by omega) (by omega)).fr) fun xn26 n26 hxn26 => ?_
   subst hxn26
   refine xB (co==0) (fun h27 => ?_) (fun h27 => ?_)
   ·skip
    replace h27:=decT h27
    refine xB (decide (List.take (List.map (fun x=>x.fst) L).length (List.map (fun x=>x.fst) L)=rk)) (fun h28 => ?_) (fun h28 => ?_)
    ·skip
     replace h28:=decT h28
     exact xR (true) (by show true=decide ((co=0∧L.map (·.1)=rk)∨co=17); exact(decide_eq_true (.inl ⟨by omega,by have q:=h28; rw [List.take_of_length_le (Nat.le_refl _)] at q; exact q⟩)).symm)
    ·skip
     replace h28:=decF h28
     exact xR (co==17) (by show(co==17)=decide ((co=0∧L.map (·.1)=rk)∨co=17); rw [Bool.eq_iff_iff,beq_iff_eq,decide_eq_true_eq]; exact⟨.inr,fun h=>h.elim (fun h=>absurd (by rw [List.take_of_length_le (Nat.le_refl _)]; exact h.2) h28) id⟩)
   ·skip
    replace h27:=decF h27
    exact xR (co==17) (by show(co==17)=decide ((co=0∧L.map (·.1)=rk)∨co=17); rw [Bool.eq_iff_iff,beq_iff_eq,decide_eq_true_eq]; exact⟨.inr,fun h=>h.elim (fun h=>absurd h.1 h27) id⟩)
  ·skip
   replace h21:=decF h21
   refine xCy [⟨(g 0).b,none,0⟩,⟨0,(g 1).a,(g 1).c⟩] [3,4] (Tg.i 54) ⟨[(2,[]),(3,[.n,.c,.n,.n,.n,.n,.n,.n,.n,.i 2,.n,.n,.n,.n]),(4,[.c,.n,.n,.n,.n,.n]),(49,[.c,.c,.c]),(0,[.n,.n,.n,.n,.n,.n,.n,.n,.n,.n,.i 1,.n]),(1,[]),(54,[])],94⟩ Tryz.call17 (fun F' _=>(t_keysR (c) (L) (sv) (hv) (List.length L) (by omega) (by omega)).fr) fun xn30 n30 hxn30 => ?_
   subst hxn30
   refine xCy [⟨0,(g 2).a,(g 2).c⟩,⟨0,(n30 2).a,(n30 2).c⟩] [0,6] (Tg.n) ⟨[(3,[.n,.c,.n,.n,.n,.n,.n,.n,.n,.i 2,.n,.n,.n,.n]),(4,[.c,.n,.n,.n,.n,.n]),(49,[.c,.c,.c]),(0,[.n,.n,.n,.n,.n,.n,.n,.n,.n,.n,.i 1,.n]),(1,[]),(2,[]),(54,[])],134⟩ Tryz.call15 (fun F' _=>(t_same10 (rk) (List.map (fun x=>x.fst) L) (rk.length) ((List.map (fun x=>x.fst) L).length) (by omega) (by omega) (by omega)).fr) fun xn33 n33 hxn33 => ?_
   subst hxn33
   refine xB (co==0) (fun h34 => ?_) (fun h34 => ?_)
   ·skip
    replace h34:=decT h34
    refine xB (decide (List.take (List.map (fun x=>x.fst) L).length (List.map (fun x=>x.fst) L)=rk)) (fun h35 => ?_) (fun h35 => ?_)
    ·skip
     replace h35:=decT h35
     exact xR (true) (by show true=decide ((co=0∧L.map (·.1)=rk)∨co=17); exact(decide_eq_true (.inl ⟨by omega,by have q:=h35; rw [List.take_of_length_le (Nat.le_refl _)] at q; exact q⟩)).symm)
    ·skip
     replace h35:=decF h35
     exact xR (co==17) (by show(co==17)=decide ((co=0∧L.map (·.1)=rk)∨co=17); rw [Bool.eq_iff_iff,beq_iff_eq,decide_eq_true_eq]; exact⟨.inr,fun h=>h.elim (fun h=>absurd (by rw [List.take_of_length_le (Nat.le_refl _)]; exact h.2) h35) id⟩)
   ·skip
    replace h34:=decF h34
    exact xR (co==17) (by show(co==17)=decide ((co=0∧L.map (·.1)=rk)∨co=17); rw [Bool.eq_iff_iff,beq_iff_eq,decide_eq_true_eq]; exact⟨.inr,fun h=>h.elim (fun h=>absurd h.1 h34) id⟩)
end Go.Proofs.YthijdhenekmojaaGreatDoor
/- The document's model: what is removed. -/
set_option linter.unusedSimpArgs false
set_option maxRecDepth 100000
set_option maxHeartbeats 0
namespace Go.Proofs.YthijdhenekmojaaGreatDoor
open Go.Sx
def remR(L:TopL)(ke:Int)(co:Int)(x:RL): Prop:=
 if mayB ke=false then x=⟨co==1,L⟩ else
 if co=0∧atL L ke≥0 then x=⟨true,[]++L.take (atL L ke).toNat++L.drop (atL L ke+1).toNat⟩ else
 x=⟨(co==12&&decide (atL L ke<0))||co==17,L⟩
theorem rem_a{L:TopL}{ke:Int}{co:Int}(h:¬(ke≥1∧ke≤2147483647)): remR L ke co ⟨co==1,L⟩:=by
 unfold remR; rw [if_pos (by simp only [mayB]; exact decide_eq_false (by omega))]
theorem rem_b{L:TopL}{ke:Int}{co:Int}(h:ke≥1∧ke≤2147483647)(h1:co=0∧atL L ke≥0): remR L ke co ⟨true,[]++L.take (atL L ke).toNat++L.drop (atL L ke+1).toNat⟩:=by
 unfold remR
 rw [if_neg (by simp only [mayB]; simp; omega),if_pos h1]
theorem rem_c{L:TopL}{ke:Int}{co:Int}{b:Bool}(h:ke≥1∧ke≤2147483647)(h1:¬(co=0∧atL L ke≥0))(h2:b=((co==12&&decide (atL L ke<0))||co==17)): remR L ke co ⟨b,L⟩:=by
 unfold remR
 rw [if_neg (by simp only [mayB]; simp; omega),if_neg h1,h2]
theorem t_remR(c:Cfg)(hc:c.Ok)(L:TopL)(sv hv:Value)(cl ke:Int)(la:Bool)(wa pa:Option Addr)(wn wc pn pc:Nat)(rw rk:Value)(ha co m cm fr to_:Int)(n:Nat)(hn:L.length=n)(hl:n≤100):
  Ct Tryz.prog 14 (⟨[.s (.p 0 0),.g (dS cl 2 ke la (.o (.slice wa wn wc)) ha (.o (.slice pa pn pc)) co (.o rw) (.o rk) m cm fr to_)],[mdRr 1 c (.o sv) (.o hv) n,.sl 1 encT tN 3 L 56],2,remR L ke co,fun x=>[.s (.bo x.b)],fun x=>[mdRr 2 c (.o sv) (.o hv) x.L.length,.sl 2 encT tN 3 x.L 56]⟩:Sp RL):=by
 subst hn
 have hat:=at_lt L ke
 refine cX 431 xdI Tryz.func14 fun g F => ?_
 refine xN fun b1 => ?_
 refine xN fun b2 => ?_
 refine xC Tryz.call38 (t_at (c) (L) (sv) (hv) (ke) (List.length L) (by omega) (by omega)) fun xn3 n3 hxn3 => ?_
 subst hxn3
 refine xN fun b4 => ?_
 refine xB (decide (atL L ke≥0)) (fun h5 => ?_) (fun h5 => ?_)
 ·skip
  replace h5:=decT h5
  refine xO (List.length L≤List.length L∧0≤atL L ke∧atL L ke < ↑(List.length L)) (by omega) ?_
  refine xO ((atL L ke).toNat<List.length L) (by omega) ?_
  refine xB (decide (ke≥1)) (fun h6 => ?_) (fun h6 => ?_)
  ·skip
   replace h6:=decT h6
   refine xB (!decide (ke≤2147483647)) (fun h7 => ?_) (fun h7 => ?_)
   ·skip
    replace h7:=ntT h7
    replace h7:=decF h7
    exact xR ({b:=co==1,L:=L}) (rem_a (by omega))
   ·skip
    replace h7:=ntF h7
    replace h7:=decT h7
    refine xB (co==0) (fun h8 => ?_) (fun h8 => ?_)
    ·skip
     replace h8:=decT h8
     refine xT (decide (atL L ke≥0)) (by first | (simp; done) | (simp; omega)) ?_
     refine xO (0≤atL L ke∧atL L ke≤↑(List.length L)) (by omega) ?_
     refine xO (InK IntKind.i64 (atL L ke+1)) (by simp only [InK] at *; omega) ?_
     refine xO (0≤atL L ke+1∧atL L ke+1≤↑(List.length L)) (by omega) ?_
     refine xN fun b9 => ?_
     refine xO (0≤atL L ke∧atL L ke≤↑(List.length L)) (by omega) ?_
     refine xO (InK IntKind.i64 (atL L ke+1)) (by simp only [InK] at *; omega) ?_
     refine xO (0≤atL L ke+1∧atL L ke+1≤↑(List.length L)) (by omega) ?_
     refine xW0 _ (view_empty 5 (b:=b9) encT tN 3 56 sizedT (by kernel_rfl)) ?_ sc_st
     refine xAp 5 (some {block:=b9,off:=0}) (0) encT tN 3 ([]) 56 ((L).take ((atL L ke).toNat)) (.i 58) oneT 40 (.slice (g 1).a ((atL L ke).toNat) (g 1).c) (by first | (simp; done) | (simp; omega)) (fun F=>(src_slU (a:=(g 1).a) (c:=(g 1).c) (enc:=encT) (sz:=3) (i:=3) (d:=tN) (t:=56) ((atL L ke).toNat) (show((atL L ke).toNat)≤(L).length by omega) (by kernel_rfl))) (fun a5_ c5_ => ?_)
     refine xO (InK IntKind.i64 (atL L ke+1)) (by simp only [InK] at *; omega) ?_
     refine xO (0≤atL L ke+1∧atL L ke+1≤↑(List.length L)) (by omega) ?_
     refine xAp 5 (a5_) (c5_) encT tN 3 ([]++List.take (atL L ke).toNat L) 56 ((L).drop ((atL L ke+1).toNat)) (.i 58) oneT 40 (.slice (cutA (g 1).a (g 1).c ((atL L ke+1).toNat) 3) ((L).drop ((atL L ke+1).toNat)).length ((g 1).c-((atL L ke+1).toNat))) (by first | (simp; done) | (simp; omega)) (fun F=>(src_slD (i:=3) (d:=tN) (t:=56) ((atL L ke+1).toNat) (by omega) (by kernel_rfl))) (fun a5_ c5_ => ?_)
     exact xR ({b:=true,L:=[]++List.take (atL L ke).toNat L++List.drop (atL L ke+(1:Int)).toNat L}) (rem_b (by omega) (by omega))
    ·skip
     replace h8:=decF h8
     refine xB (co==12) (fun h10 => ?_) (fun h10 => ?_)
     ·skip
      replace h10:=decT h10
      refine xF (decide (atL L ke<0)) (by first | (simp; done) | (simp; omega)) ?_
      exact xR ({b:=co==17,L:=L}) (rem_c (by omega) (by omega) (by simp [*]; done))
     ·skip
      replace h10:=decF h10
      exact xR ({b:=co==17,L:=L}) (rem_c (by omega) (by omega) (by simp [*]; done))
  ·skip
   replace h6:=decF h6
   exact xR ({b:=co==1,L:=L}) (rem_a (by omega))
 ·skip
  replace h5:=decF h5
  refine xB (decide (ke≥1)) (fun h11 => ?_) (fun h11 => ?_)
  ·skip
   replace h11:=decT h11
   refine xB (!decide (ke≤2147483647)) (fun h12 => ?_) (fun h12 => ?_)
   ·skip
    replace h12:=ntT h12
    replace h12:=decF h12
    exact xR ({b:=co==1,L:=L}) (rem_a (by omega))
   ·skip
    replace h12:=ntF h12
    replace h12:=decT h12
    refine xB (co==0) (fun h13 => ?_) (fun h13 => ?_)
    ·skip
     replace h13:=decT h13
     refine xF (decide (atL L ke≥0)) (by first | (simp; done) | (simp; omega)) ?_
     refine xF (co==12) (by first | (simp; done) | (simp; omega)) ?_
     exact xR ({b:=co==17,L:=L}) (rem_c (by omega) (by omega) (by simp [*]; done))
    ·skip
     replace h13:=decF h13
     refine xB (co==12) (fun h14 => ?_) (fun h14 => ?_)
     ·skip
      replace h14:=decT h14
      refine xT (decide (atL L ke<0)) (by first | (simp; done) | (simp; omega)) ?_
      exact xR ({b:=true,L:=L}) (rem_c (by omega) (by omega) (by simp [*]; omega))
     ·skip
      replace h14:=decF h14
      exact xR ({b:=co==17,L:=L}) (rem_c (by omega) (by omega) (by simp [*]; done))
  ·skip
   replace h11:=decF h11
   exact xR ({b:=co==1,L:=L}) (rem_a (by omega))
end Go.Proofs.YthijdhenekmojaaGreatDoor
/- The document's model: what is published. -/
set_option linter.unusedSimpArgs false
set_option maxRecDepth 100000
set_option maxHeartbeats 0
namespace Go.Proofs.YthijdhenekmojaaGreatDoor
open Go.Sx
def fitL(c:Cfg)(L:TopL)(ke:Int)(n:Int): Bool:=decide (atL L ke≥0)&&fitT c (L.getD (atL L ke).toNat tN).2.1 n
def pubL(c:Cfg)(L:TopL)(ke:Int)(p:PRow)(co:Int)(x:RL): Prop:=
 if mayB ke=false∨p.xs.length=0 then x=⟨co==1,L⟩ else
 if co=0∧fitL c L ke p.xs.length=true then x=⟨true,([]++L).set (atL L ke).toNat ((fun y:Int×Bool×PRow=>(y.1,y.2.1,p)) (([]++L).getD (atL L ke).toNat tN))⟩ else
 x=⟨(co==12&&decide (atL L ke<0))||(co==21&&decide (atL L ke≥0) && !fitL c L ke p.xs.length)||co==17||co==16||co==18,L⟩
theorem pl_a{c:Cfg}{L:TopL}{ke:Int}{p:PRow}{co:Int}(h:¬(ke≥1∧ke≤2147483647)∨((p.xs.length:Nat):Int)=0): pubL c L ke p co ⟨co==1,L⟩:=by
 unfold pubL; rw [if_pos (by
  rcases h with h | h
  ·exact .inl (by simp only [mayB]; exact decide_eq_false (by omega))
  ·exact .inr (by omega))]
theorem pl_n{ke:Int}{p:PRow}(h:ke≥1∧ke≤2147483647)(h0:¬((p.xs.length:Nat):Int)=0): ¬(mayB ke=false∨p.xs.length=0):=by
 rintro(h1 | h1)
 ·simp only [mayB] at h1; simp at h1; omega
 ·omega
theorem pl_b{c:Cfg}{L:TopL}{ke:Int}{p:PRow}{co:Int}(h:ke≥1∧ke≤2147483647)(h0:¬((p.xs.length:Nat):Int)=0)(h1:co=0)(h2:fitL c L ke p.xs.length=true):
  pubL c L ke p co ⟨true,([]++L).set (atL L ke).toNat ((fun y:Int×Bool×PRow=>(y.1,y.2.1,p)) (([]++L).getD (atL L ke).toNat tN))⟩:=by
 unfold pubL
 rw [if_neg (pl_n h h0),if_pos ⟨h1,h2⟩]
theorem pl_c{c:Cfg}{L:TopL}{ke:Int}{p:PRow}{co:Int}{b:Bool}(h:ke≥1∧ke≤2147483647)(h0:¬((p.xs.length:Nat):Int)=0)(f:Bool)(h2:fitL c L ke p.xs.length=f)(h1:¬(co=0∧f=true))
  (h3:b=((co==12&&decide (atL L ke<0))||(co==21&&decide (atL L ke≥0) && !f)||co==17||co==16||co==18)):pubL c L ke p co ⟨b,L⟩:=by
 unfold pubL
 rw [if_neg (pl_n h h0),if_neg (by rw [h2]; exact h1),h2,h3]
theorem pl_t{c:Cfg}{L:TopL}{ke:Int}{p:PRow}{co:Int}{b:Bool}(h:ke≥1∧ke≤2147483647)(h0:¬((p.xs.length:Nat):Int)=0)(h1:¬co=0)(h2:fitL c L ke p.xs.length=true)
  (h3:b=((co==12&&decide (atL L ke<0))||(co==21&&decide (atL L ke≥0) && !true)||co==17||co==16||co==18)):pubL c L ke p co ⟨b,L⟩:=pl_c h h0 true h2 (fun q=>h1 q.1) h3
theorem pl_f{c:Cfg}{L:TopL}{ke:Int}{p:PRow}{co:Int}{b:Bool}(h:ke≥1∧ke≤2147483647)(h0:¬((p.xs.length:Nat):Int)=0)(h2:fitL c L ke p.xs.length=false)
  (h3:b=((co==12&&decide (atL L ke<0))||(co==21&&decide (atL L ke≥0) && !false)||co==17||co==16||co==18)):pubL c L ke p co ⟨b,L⟩:=pl_c h h0 false h2 (fun q=>by cases q.2) h3
theorem fit_m{c:Cfg}{L:TopL}{ke n:Int}(h:atL L ke<0): fitL c L ke n=false:=by
 unfold fitL
 rw [decide_eq_false (by omega)]; rfl
theorem fit_h{c:Cfg}{L:TopL}{ke n:Int}{f:Bool}(h:atL L ke≥0)(hf:fitT c (L.getD (atL L ke).toNat tN).2.1 n=f): fitL c L ke n=f:=by
 unfold fitL
 rw [decide_eq_true (by omega),hf]; rfl
theorem t_fitsQ(c:Cfg)(hc:c.Ok)(sv hv wv:Value)(ke:Int)(lg:Bool)(k:Nat)(n:Int)(hn:0≤n∧n≤1000000)(f:Bool)(hf:fitT c lg n=f):
  Ct Tryz.prog 41 (sU [.s (.p 0 0),.g [.i .i64 ke,.bo lg,.o wv],.s (.i .i64 n)] [mdRr 1 c (.o sv) (.o hv) k] 2 [.s (.bo f)] [mdRr 1 c (.o sv) (.o hv) k]):=by
 subst hf
 intro g F w hi
 refine(t_fitsR c hc sv (.slice (g 1).a k (g 1).c) hv wv ke lg n hn g F w hi).mono ?_
 rintro e w' ⟨v,L',he,⟨x,ν,hx,rfl,rfl⟩,hin⟩
 subst hx
 exact⟨_,_,he,⟨(),ν,trivial,rfl,rfl⟩,hin⟩
theorem t_fitsE(c:Cfg)(hc:c.Ok)(L:TopL)(ke:Int)(sv hv:Value)(k:Nat)(n:Int)(hn:0≤n∧n≤1000000)(f:Bool)(hf:fitT c (L.getD (atL L ke).toNat tN).2.1 n=f):
  Ct Tryz.prog 41 (sU [.s (.p 0 0),.g [.i .i64 (L.getD (atL L ke).toNat tN).1,.bo (L.getD (atL L ke).toNat tN).2.1,.o (L.getD (atL L ke).toNat tN).2.2.v],.s (.i .i64 n)] [mdRr 1 c (.o sv) (.o hv) k] 2 [.s (.bo f)] [mdRr 1 c (.o sv) (.o hv) k]):=t_fitsQ c hc sv hv _ _ _ k n hn f hf
end Go.Proofs.YthijdhenekmojaaGreatDoor
/- The document's model: what is published. -/
set_option linter.unusedSimpArgs false
set_option maxRecDepth 100000
set_option maxHeartbeats 0
namespace Go.Proofs.YthijdhenekmojaaGreatDoor
open Go.Sx
theorem t_pubRf(c:Cfg)(hc:c.Ok)(L:TopL)(sv hv:Value)(cl ke:Int)(la:Bool)(p:PRow)(hp:p.xs.length≤1000)(pa:Option Addr)(pn pc:Nat)(rw rk:Value)(ha co m cm fr to_:Int)(n:Nat)(hn:L.length=n)(hl:n≤100)(hf:fitT c (L.getD (atL L ke).toNat tN).2.1 p.xs.length=false):
  Ct Tryz.prog 14 (⟨[.s (.p 0 0),.g (dS cl 3 ke la (.o (.slice p.a p.xs.length p.c)) ha (.o (.slice pa pn pc)) co (.o rw) (.o rk) m cm fr to_)],[mdRr 1 c (.o sv) (.o hv) n,.sl 1 encT tN 3 L 56],2,pubL c L ke p co,fun x=>[.s (.bo x.b)],fun x=>[mdRr 2 c (.o sv) (.o hv) n,.sl 2 encT tN 3 x.L 56]⟩:Sp RL):=by
 subst hn
 have hat:=at_lt L ke
 refine cX 431 xdI Tryz.func14 fun g F => ?_
 refine xN fun b1 => ?_
 refine xN fun b2 => ?_
 refine xC Tryz.call38 (t_at (c) (L) (sv) (hv) (ke) (List.length L) (by omega) (by omega)) fun xn3 n3 hxn3 => ?_
 subst hxn3
 refine xN fun b4 => ?_
 refine xB (decide (atL L ke≥0)) (fun h5 => ?_) (fun h5 => ?_)
 ·skip
  replace h5:=decT h5
  refine xO (List.length L≤List.length L∧0≤atL L ke∧atL L ke < ↑(List.length L)) (by omega) ?_
  refine xO ((atL L ke).toNat<List.length L) (by omega) ?_
  refine xB (decide (ke≥1)) (fun h6 => ?_) (fun h6 => ?_)
  ·skip
   replace h6:=decT h6
   refine xB (!decide (ke≤2147483647)) (fun h7 => ?_) (fun h7 => ?_)
   ·skip
    replace h7:=ntT h7
    replace h7:=decF h7
    exact xR ({b:=co==1,L:=L}) (pl_a (by omega))
   ·skip
    replace h7:=ntF h7
    replace h7:=decT h7
    refine xB ((↑p.xs.length:Int)==(0:Int)) (fun h8 => ?_) (fun h8 => ?_)
    ·skip
     replace h8:=decT h8
     exact xR ({b:=co==1,L:=L}) (pl_a (by omega))
    ·skip
     replace h8:=decF h8
     refine xT (decide (atL L ke≥0)) (by first | (simp; done) | (simp; omega)) ?_
     refine xCy [⟨(g 0).b,none,0⟩,⟨0,(g 1).a,(g 1).c⟩] [2] .n ⟨[(2,[.n,.c,.n,.n,.n,.n,.n,.n,.n,.n,.n,.n,.n,.n]),(3,[.c,.n,.n,.n,.n,.n]),(1,[]),(48,[.n,.n,.n]),(0,(cfgS c++[SV.o sv,SV.s 1 L.length,SV.o hv]).map (SV.g id))],110⟩ Tryz.call41 (fun F' _=>(t_fitsE (c) (by omega) (L) (ke) (sv) (hv) (List.length L) (↑p.xs.length) (by omega) _ hf).fr) fun _ n10 _ => ?_
     refine xB (co==0) (fun h11 => ?_) (fun h11 => ?_)
     ·skip
      replace h11:=decT h11
      refine xF (false) rfl ?_
      refine xF (co==12) (by first | (simp; done) | (simp; omega)) ?_
      refine xF (co==21) (by first | (simp; done) | (simp; omega)) ?_
      refine xF (co==17) (by first | (simp; done) | (simp; omega)) ?_
      refine xF (co==16) (by first | (simp; done) | (simp; omega)) ?_
      exact xR ({b:=co==18,L:=L}) (pl_f (by omega) (by omega) (fit_h (by omega) hf) (by simp [*]; done))
     ·skip
      replace h11:=decF h11
      refine xB (co==12) (fun h12 => ?_) (fun h12 => ?_)
      ·skip
       replace h12:=decT h12
       refine xF (decide (atL L ke<0)) (by first | (simp; done) | (simp; omega)) ?_
       refine xF (co==21) (by first | (simp; done) | (simp; omega)) ?_
       refine xF (co==17) (by first | (simp; done) | (simp; omega)) ?_
       refine xF (co==16) (by first | (simp; done) | (simp; omega)) ?_
       exact xR ({b:=co==18,L:=L}) (pl_f (by omega) (by omega) (fit_h (by omega) hf) (by simp [*]; done))
      ·skip
       replace h12:=decF h12
       refine xB (co==21) (fun h13 => ?_) (fun h13 => ?_)
       ·skip
        replace h13:=decT h13
        refine xT (decide (atL L ke≥0)) (by first | (simp; done) | (simp; omega)) ?_
        refine xT (!false) rfl ?_
        exact xR ({b:=true,L:=L}) (pl_f (by omega) (by omega) (fit_h (by omega) hf) (by simp [*]; done))
       ·skip
        replace h13:=decF h13
        refine xB (co==17) (fun h14 => ?_) (fun h14 => ?_)
        ·skip
         replace h14:=decT h14
         exact xR ({b:=true,L:=L}) (pl_f (by omega) (by omega) (fit_h (by omega) hf) (by simp [*]; done))
        ·skip
         replace h14:=decF h14
         refine xB (co==16) (fun h15 => ?_) (fun h15 => ?_)
         ·skip
          replace h15:=decT h15
          exact xR ({b:=true,L:=L}) (pl_f (by omega) (by omega) (fit_h (by omega) hf) (by simp [*]; done))
         ·skip
          replace h15:=decF h15
          exact xR ({b:=co==18,L:=L}) (pl_f (by omega) (by omega) (fit_h (by omega) hf) (by simp [*]; done))
  ·skip
   replace h6:=decF h6
   exact xR ({b:=co==1,L:=L}) (pl_a (by omega))
 ·skip
  replace h5:=decF h5
  refine xB (decide (ke≥1)) (fun h16 => ?_) (fun h16 => ?_)
  ·skip
   replace h16:=decT h16
   refine xB (!decide (ke≤2147483647)) (fun h17 => ?_) (fun h17 => ?_)
   ·skip
    replace h17:=ntT h17
    replace h17:=decF h17
    exact xR ({b:=co==1,L:=L}) (pl_a (by omega))
   ·skip
    replace h17:=ntF h17
    replace h17:=decT h17
    refine xB ((↑p.xs.length:Int)==(0:Int)) (fun h18 => ?_) (fun h18 => ?_)
    ·skip
     replace h18:=decT h18
     exact xR ({b:=co==1,L:=L}) (pl_a (by omega))
    ·skip
     replace h18:=decF h18
     refine xF (decide (atL L ke≥0)) (by first | (simp; done) | (simp; omega)) ?_
     refine xB (co==0) (fun h19 => ?_) (fun h19 => ?_)
     ·skip
      replace h19:=decT h19
      refine xF (co==12) (by first | (simp; done) | (simp; omega)) ?_
      refine xF (co==21) (by first | (simp; done) | (simp; omega)) ?_
      refine xF (co==17) (by first | (simp; done) | (simp; omega)) ?_
      refine xF (co==16) (by first | (simp; done) | (simp; omega)) ?_
      exact xR ({b:=co==18,L:=L}) (pl_f (by omega) (by omega) (fit_m (by omega)) (by simp [*]; done))
     ·skip
      replace h19:=decF h19
      refine xB (co==12) (fun h20 => ?_) (fun h20 => ?_)
      ·skip
       replace h20:=decT h20
       refine xT (decide (atL L ke<0)) (by first | (simp; done) | (simp; omega)) ?_
       exact xR ({b:=true,L:=L}) (pl_f (by omega) (by omega) (fit_m (by omega)) (by rw [decide_eq_true (show atL L ke<0 by omega),beq_iff_eq.2 (show co=12 by omega)]; rfl))
      ·skip
       replace h20:=decF h20
       refine xB (co==21) (fun h21 => ?_) (fun h21 => ?_)
       ·skip
        replace h21:=decT h21
        refine xF (decide (atL L ke≥0)) (by first | (simp; done) | (simp; omega)) ?_
        refine xF (co==17) (by first | (simp; done) | (simp; omega)) ?_
        refine xF (co==16) (by first | (simp; done) | (simp; omega)) ?_
        exact xR ({b:=co==18,L:=L}) (pl_f (by omega) (by omega) (fit_m (by omega)) (by simp [*]; done))
       ·skip
        replace h21:=decF h21
        refine xB (co==17) (fun h22 => ?_) (fun h22 => ?_)
        ·skip
         replace h22:=decT h22
         exact xR ({b:=true,L:=L}) (pl_f (by omega) (by omega) (fit_m (by omega)) (by simp [*]; done))
        ·skip
         replace h22:=decF h22
         refine xB (co==16) (fun h23 => ?_) (fun h23 => ?_)
         ·skip
          replace h23:=decT h23
          exact xR ({b:=true,L:=L}) (pl_f (by omega) (by omega) (fit_m (by omega)) (by simp [*]; done))
         ·skip
          replace h23:=decF h23
          exact xR ({b:=co==18,L:=L}) (pl_f (by omega) (by omega) (fit_m (by omega)) (by simp [*]; done))
  ·skip
   replace h16:=decF h16
   exact xR ({b:=co==1,L:=L}) (pl_a (by omega))
end Go.Proofs.YthijdhenekmojaaGreatDoor
/- The document's model: what is published. -/
set_option linter.unusedSimpArgs false
set_option maxRecDepth 100000
set_option maxHeartbeats 0
namespace Go.Proofs.YthijdhenekmojaaGreatDoor
open Go.Sx
theorem t_pubRt(c:Cfg)(hc:c.Ok)(L:TopL)(sv hv:Value)(cl ke:Int)(la:Bool)(p:PRow)(hp:p.xs.length≤1000)(pa:Option Addr)(pn pc:Nat)(rw rk:Value)(ha co m cm fr to_:Int)(n:Nat)(hn:L.length=n)(hl:n≤100)(hf:fitT c (L.getD (atL L ke).toNat tN).2.1 p.xs.length=true):
  Ct Tryz.prog 14 (⟨[.s (.p 0 0),.g (dS cl 3 ke la (.o (.slice p.a p.xs.length p.c)) ha (.o (.slice pa pn pc)) co (.o rw) (.o rk) m cm fr to_)],[mdRr 1 c (.o sv) (.o hv) n,.sl 1 encT tN 3 L 56],2,pubL c L ke p co,fun x=>[.s (.bo x.b)],fun x=>[mdRr 2 c (.o sv) (.o hv) n,.sl 2 encT tN 3 x.L 56]⟩:Sp RL):=by
 subst hn
 have hat:=at_lt L ke
 refine cX 431 xdI Tryz.func14 fun g F => ?_
 refine xN fun b1 => ?_
 refine xN fun b2 => ?_
 refine xC Tryz.call38 (t_at (c) (L) (sv) (hv) (ke) (List.length L) (by omega) (by omega)) fun xn3 n3 hxn3 => ?_
 subst hxn3
 refine xN fun b4 => ?_
 refine xB (decide (atL L ke≥0)) (fun h5 => ?_) (fun h5 => ?_)
 ·skip
  replace h5:=decT h5
  refine xO (List.length L≤List.length L∧0≤atL L ke∧atL L ke < ↑(List.length L)) (by omega) ?_
  refine xO ((atL L ke).toNat<List.length L) (by omega) ?_
  refine xB (decide (ke≥1)) (fun h6 => ?_) (fun h6 => ?_)
  ·skip
   replace h6:=decT h6
   refine xB (!decide (ke≤2147483647)) (fun h7 => ?_) (fun h7 => ?_)
   ·skip
    replace h7:=ntT h7
    replace h7:=decF h7
    exact xR ({b:=co==1,L:=L}) (pl_a (by omega))
   ·skip
    replace h7:=ntF h7
    replace h7:=decT h7
    refine xB ((↑p.xs.length:Int)==(0:Int)) (fun h8 => ?_) (fun h8 => ?_)
    ·skip
     replace h8:=decT h8
     exact xR ({b:=co==1,L:=L}) (pl_a (by omega))
    ·skip
     replace h8:=decF h8
     refine xT (decide (atL L ke≥0)) (by first | (simp; done) | (simp; omega)) ?_
     refine xCy [⟨(g 0).b,none,0⟩,⟨0,(g 1).a,(g 1).c⟩] [2] .n ⟨[(2,[.n,.c,.n,.n,.n,.n,.n,.n,.n,.n,.n,.n,.n,.n]),(3,[.c,.n,.n,.n,.n,.n]),(1,[]),(48,[.n,.n,.n]),(0,(cfgS c++[SV.o sv,SV.s 1 L.length,SV.o hv]).map (SV.g id))],102⟩ Tryz.call41 (fun F' _=>(t_fitsE (c) (by omega) (L) (ke) (sv) (hv) (List.length L) (↑p.xs.length) (by omega) _ hf).fr) fun _ n10 _ => ?_
     refine xB (co==0) (fun h11 => ?_) (fun h11 => ?_)
     ·skip
      replace h11:=decT h11
      refine xT (true) rfl ?_
      refine xN fun b12 => ?_
      refine xW0 _ (view_empty 5 (b:=b12) encT tN 3 56 sizedT (by kernel_rfl)) ?_ sc_st
      refine xAp 5 (some {block:=b12,off:=0}) (0) encT tN 3 ([]) 56 (L) (.i 104) oneT 40 (.slice (g 1).a (L).length (g 1).c) (by first | (simp; done) | (simp; omega)) (fun F=>(src_sl (i:=2) (d:=tN) (sz:=3) (t:=56) (by kernel_rfl))) (fun a5_ c5_ => ?_)
      refine xO (([]++L).length≤([]++L).length∧(0:Int)≤atL L ke∧atL L ke<(↑([]++L).length:Int)) (by first | (simp; done) | (simp; omega)) ?_
      refine xFt 5 (a5_) (c5_) (encT) (tN) 3 ([]++L) 56 ((atL L ke).toNat) 2 ((fun y:Int×Bool×PRow=>(y.1,y.2.1,p)) (([]++L).getD ((atL L ke).toNat) tN)) (Value.slice p.a p.xs.length p.c) (show(atL L ke).toNat<([]++L).length by first | omega | (simp; omega)) rfl rfl (by simp [Value.cells]) ?_
      exact xR ({b:=true,L:=([]++L).set (atL L ke).toNat ((fun y:Int×Bool×PRow=>(y.fst,y.snd.fst,p)) (([]++L).getD (atL L ke).toNat tN))}) (pl_b (by omega) (by omega) (by omega) (fit_h (by omega) hf))
     ·skip
      replace h11:=decF h11
      refine xB (co==12) (fun h1 => ?_) (fun h1 => ?_)
      ·skip
       replace h1:=decT h1
       refine xF (decide (atL L ke<0)) (by first | (simp; done) | (simp; omega)) ?_
       refine xF (co==21) (by first | (simp; done) | (simp; omega)) ?_
       refine xF (co==17) (by first | (simp; done) | (simp; omega)) ?_
       refine xF (co==16) (by first | (simp; done) | (simp; omega)) ?_
       exact xR ({b:=co==18,L:=L}) (pl_t (by omega) (by omega) (by omega) (fit_h (by omega) hf) (by simp [*]; done))
      ·skip
       replace h1:=decF h1
       refine xB (co==21) (fun h2 => ?_) (fun h2 => ?_)
       ·skip
        replace h2:=decT h2
        refine xT (decide (atL L ke≥0)) (by first | (simp; done) | (simp; omega)) ?_
        refine xF (!true) rfl ?_
        refine xF (co==17) (by first | (simp; done) | (simp; omega)) ?_
        refine xF (co==16) (by first | (simp; done) | (simp; omega)) ?_
        exact xR ({b:=co==18,L:=L}) (pl_t (by omega) (by omega) (by omega) (fit_h (by omega) hf) (by simp [*]; done))
       ·skip
        replace h2:=decF h2
        refine xB (co==17) (fun h3 => ?_) (fun h3 => ?_)
        ·skip
         replace h3:=decT h3
         exact xR ({b:=true,L:=L}) (pl_t (by omega) (by omega) (by omega) (fit_h (by omega) hf) (by simp [*]; done))
        ·skip
         replace h3:=decF h3
         refine xB (co==16) (fun h4 => ?_) (fun h4 => ?_)
         ·skip
          replace h4:=decT h4
          exact xR ({b:=true,L:=L}) (pl_t (by omega) (by omega) (by omega) (fit_h (by omega) hf) (by simp [*]; done))
         ·skip
          replace h4:=decF h4
          exact xR ({b:=co==18,L:=L}) (pl_t (by omega) (by omega) (by omega) (fit_h (by omega) hf) (by simp [*]; done))
  ·skip
   replace h6:=decF h6
   exact xR ({b:=co==1,L:=L}) (pl_a (by omega))
 ·skip
  replace h5:=decF h5
  refine xB (decide (ke≥1)) (fun h13 => ?_) (fun h13 => ?_)
  ·skip
   replace h13:=decT h13
   refine xB (!decide (ke≤2147483647)) (fun h14 => ?_) (fun h14 => ?_)
   ·skip
    replace h14:=ntT h14
    replace h14:=decF h14
    exact xR ({b:=co==1,L:=L}) (pl_a (by omega))
   ·skip
    replace h14:=ntF h14
    replace h14:=decT h14
    refine xB ((↑p.xs.length:Int)==(0:Int)) (fun h15 => ?_) (fun h15 => ?_)
    ·skip
     replace h15:=decT h15
     exact xR ({b:=co==1,L:=L}) (pl_a (by omega))
    ·skip
     replace h15:=decF h15
     refine xF (decide (atL L ke≥0)) (by first | (simp; done) | (simp; omega)) ?_
     refine xB (co==0) (fun h16 => ?_) (fun h16 => ?_)
     ·skip
      replace h16:=decT h16
      refine xF (co==12) (by first | (simp; done) | (simp; omega)) ?_
      refine xF (co==21) (by first | (simp; done) | (simp; omega)) ?_
      refine xF (co==17) (by first | (simp; done) | (simp; omega)) ?_
      refine xF (co==16) (by first | (simp; done) | (simp; omega)) ?_
      exact xR ({b:=co==18,L:=L}) (pl_f (by omega) (by omega) (fit_m (by omega)) (by simp [*]; done))
     ·skip
      replace h16:=decF h16
      refine xB (co==12) (fun h17 => ?_) (fun h17 => ?_)
      ·skip
       replace h17:=decT h17
       refine xT (decide (atL L ke<0)) (by first | (simp; done) | (simp; omega)) ?_
       exact xR ({b:=true,L:=L}) (pl_f (by omega) (by omega) (fit_m (by omega)) (by rw [decide_eq_true (show atL L ke<0 by omega),beq_iff_eq.2 (show co=12 by omega)]; rfl))
      ·skip
       replace h17:=decF h17
       refine xB (co==21) (fun h18 => ?_) (fun h18 => ?_)
       ·skip
        replace h18:=decT h18
        refine xF (decide (atL L ke≥0)) (by first | (simp; done) | (simp; omega)) ?_
        refine xF (co==17) (by first | (simp; done) | (simp; omega)) ?_
        refine xF (co==16) (by first | (simp; done) | (simp; omega)) ?_
        exact xR ({b:=co==18,L:=L}) (pl_f (by omega) (by omega) (fit_m (by omega)) (by simp [*]; done))
       ·skip
        replace h18:=decF h18
        refine xB (co==17) (fun h19 => ?_) (fun h19 => ?_)
        ·skip
         replace h19:=decT h19
         exact xR ({b:=true,L:=L}) (pl_f (by omega) (by omega) (fit_m (by omega)) (by simp [*]; done))
        ·skip
         replace h19:=decF h19
         refine xB (co==16) (fun h20 => ?_) (fun h20 => ?_)
         ·skip
          replace h20:=decT h20
          exact xR ({b:=true,L:=L}) (pl_f (by omega) (by omega) (fit_m (by omega)) (by simp [*]; done))
         ·skip
          replace h20:=decF h20
          exact xR ({b:=co==18,L:=L}) (pl_f (by omega) (by omega) (fit_m (by omega)) (by simp [*]; done))
  ·skip
   replace h13:=decF h13
   exact xR ({b:=co==1,L:=L}) (pl_a (by omega))
end Go.Proofs.YthijdhenekmojaaGreatDoor
/- The document's model: what is done, of any kind. -/
set_option linter.unusedSimpArgs false
set_option maxRecDepth 100000
set_option maxHeartbeats 0
namespace Go.Proofs.YthijdhenekmojaaGreatDoor
open Go.Sx
/-- a row that is owned is one that is only looked at, with what lies about it -/
theorem In.sl_rd{α : Type}{L:List Ent}{F:Fr}{w:World}{i:Nat}{a:Option Addr}{c:Nat}{enc : α→List Value}{d : α}{sz:Nat}{xs:List α}{t:TypeId}(hL:L[i]? = some (.sl a c enc d sz xs t))(h:In L F w): ∃r,In (L.set i (.rd a c enc d sz xs t r)) F w:=by
 obtain⟨f,hf,hfit,hr⟩:=h
 obtain⟨f1,g,f2,rfl,⟨hsd,hg⟩,hset⟩:=dens_get hL hf
 rcases hg with ⟨h1,h2,h3,h4⟩ | ⟨b,off,pre,post,h1,h2,h3,h4,h5,h6⟩
 ·exact⟨⟨[],[],(0,0)⟩,_,hset _ g ⟨hsd,.inl ⟨h3,h4,fun _=>h2⟩⟩,hfit,hr⟩
 ·exact⟨⟨pre,post,(0,0)⟩,_,hset _ g ⟨hsd,.inr ⟨b,off,h1,h2,h4,h6⟩⟩,hfit,hr⟩
structure RR where
 b:Bool
 L:TopL
 H:HanL
 ps:List PRow
def StepR(c:Cfg)(L:TopL)(H:HanL)(ps:List PRow)(la:Bool)(d:DR)(x:RR): Prop:=
 (d.ki=0→x=⟨false,L,H,ps⟩)∧
 (d.ki=1→creR c L d.ke la d.co ⟨x.b,x.L⟩∧x.H=H∧x.ps=ps)∧
 (d.ki=2→remR L d.ke d.co ⟨x.b,x.L⟩∧x.H=H∧x.ps=ps)∧
 (d.ki=3→∃p,p.xs=d.ws∧pubL c L d.ke p d.co ⟨x.b,x.L⟩∧x.H=H∧x.ps=ps++[p])∧
 (d.ki=4→x=⟨readL c L d.ke d.rw d.co,L,H,ps⟩)∧
 (d.ki=5→pinL L H d.cl d.ke d.n d.co ⟨x.b,x.H⟩∧x.L=L∧x.ps=ps)∧
 (d.ki=6→∃p0 p1,d.pt=[p0,p1]∧x=⟨doFldR H d.cl d.ha d.co d.n p0,L,H,ps⟩)∧
 (d.ki=7→x=⟨decide (d.co=0∨d.co=1),L,H,ps⟩)∧
 (d.ki=8→x=⟨decide ((d.co=0∧L.map (·.1)=d.rk)∨d.co=17),L,H,ps⟩)∧
 (d.ki=9→x=⟨decide (d.co=0),L,H,ps⟩)
abbrev mdF(r q:Nat)(c:Cfg)(n k:Nat): SE:=.pts 0 (cfgS c++[.sp 3 1 1,.s r n,.s q k]) 60
abbrev pR(r q:Nat)(c:Cfg)(L:TopL)(H:HanL)(ps:List PRow): List SE:=[mdF r q c L.length H.length,.sl r encT tN 3 L 56,.rs q (fun g=>HL (g q).a (g q).c H ps),scC,scD]
abbrev spR(c:Cfg)(L:TopL)(H:HanL)(ps:List PRow)(d:DR)(la:Bool): Sp RR:=
 ⟨[.s (.p 0 0),.g (dG d la)],pR 1 2 c L H ps++dE d,10,StepR c L H ps la d,fun x=>[.s (.bo x.b)],fun x=>pR 10 11 c x.L x.H x.ps⟩
theorem uniR{c:Cfg}{L:TopL}{H:HanL}{ps:List PRow}{d:DR}{la:Bool}{F:Fr}{g:Nat→Rf}{A A' M:List Ent}{Q':Value→List Ent→Prop}(hv:View A (A'++M))
  (h:Ctr Tryz.prog 14 (((spR c L H ps d la).args.map (SA.v g)).toArray) A' Q')
  (hq:∀v post,Q' v post→∃x g2,StepR c L H ps la d x∧v = .bool x.b∧(∀r,r<10→g2 r=g r)∧View (M++post) ((pR 10 11 c x.L x.H x.ps).map (SE.e g2))) :
  CtrF Tryz.prog F 14 (((spR c L H ps d la).args.map (SA.v g)).toArray) A ((spR c L H ps d la).Q g):=by
 refine ctf_fr hv (fun F' _ w hi=>h F' w hi) ?_
 intro v post hp
 obtain⟨x,g2,hx,hv,hg,hw⟩:=hq v post hp
 refine⟨_,hw,x,g2,hx,hv, ?_⟩
 show _ = (pR 10 11 c x.L x.H x.ps).map (SE.e (mixR 10 g g2))
 have e0:mixR 10 g g2 0=g2 0:=(hg 0 (by omega)).symm
 have e3:mixR 10 g g2 3=g2 3:=(hg 3 (by omega)).symm
 have e4:mixR 10 g g2 4=g2 4:=(hg 4 (by omega)).symm
 have e10:mixR 10 g g2 10=g2 10:=rfl
 have e11:mixR 10 g g2 11=g2 11:=rfl
 simp only [pR,mdF,scC,scD,List.map_cons,List.map_nil,SE.e,e0,e3,e4,e10,e11,List.map_append,SV.v]
/-- places behind a step: rows that came of it -/
def g2R(g:Nat→Rf)(a b:Rf): Nat→Rf:=fun r=>if r=10 then a else if r=11 then b else g r
theorem g2R_lt(g:Nat→Rf)(a b:Rf): ∀r,r<10→g2R g a b r=g r:=by
 intro r hr
 unfold g2R
 rw [if_neg (by omega),if_neg (by omega)]
theorem pubL_len{c:Cfg}{L:TopL}{ke:Int}{p:PRow}{co:Int}{x:RL}(h:pubL c L ke p co x): x.L.length=L.length:=by
 unfold pubL at h
 split at h
 ·rw [h]
 ·split at h
  ·rw [h]; simp
  ·rw [h]
theorem t_pubAll(c:Cfg)(hc:c.Ok)(L:TopL)(sv hv:Value)(cl ke:Int)(la:Bool)(p:PRow)(hp:p.xs.length≤1000)(pa:Option Addr)(pn pc:Nat)(rw rk:Value)(ha co m cm fr to_:Int)(n:Nat)(hn:L.length=n)(hl:n≤100):
  Ct Tryz.prog 14 (⟨[.s (.p 0 0),.g (dS cl 3 ke la (.o (.slice p.a p.xs.length p.c)) ha (.o (.slice pa pn pc)) co (.o rw) (.o rk) m cm fr to_)],[mdRr 1 c (.o sv) (.o hv) n,.sl 1 encT tN 3 L 56],2,pubL c L ke p co,fun x=>[.s (.bo x.b)],fun x=>[mdRr 2 c (.o sv) (.o hv) n,.sl 2 encT tN 3 x.L 56]⟩:Sp RL):=by
 cases hf:fitT c (L.getD (atL L ke).toNat tN).2.1 p.xs.length with
 | true=>exact t_pubRt c hc L sv hv cl ke la p hp pa pn pc rw rk ha co m cm fr to_ n hn hl hf
 | false=>exact t_pubRf c hc L sv hv cl ke la p hp pa pn pc rw rk ha co m cm fr to_ n hn hl hf
theorem In.sl_rd2{α : Type}{L:List Ent}{L':Sx.Rest→List Ent}{F:Fr}{w:World}(i:Nat)(a:Option Addr)(c:Nat)(enc : α→List Value)(d : α)(sz:Nat)(xs:List α)(t:TypeId)(hL:L[i]? = some (.sl a c enc d sz xs t))(hs:∀r,L.set i (.rd a c enc d sz xs t r)=L' r)(h:In L F w): ∃r,In (L' r) F w:=by
 obtain⟨r,hr⟩:=In.sl_rd hL h
 exact⟨r,by rw [←hs]; exact hr⟩
abbrev rowsR(g:Nat→Rf)(pt rw rk:List Int): List Ent:=[.sl (g 7).a (g 7).c (Go.Sx.encI .i64) 0 1 pt 3,.sl (g 8).a (g 8).c (Go.Sx.encI .u64) 0 1 rw 42,.sl (g 9).a (g 9).c (Go.Sx.encI .i64) 0 1 rk 3]
theorem t_DoR3(c:Cfg)(hc:c.Ok)(L:TopL)(H:HanL)(ps:List PRow)(hl:L.length≤100)(cl ke:Int)(la:Bool)(ha co n cm fr to_:Int)(ws pt rw rk:List Int)(hws:ws.length≤9)(F:Fr)(g:Nat→Rf):
  CtrF Tryz.prog F 14 (((spR c L H ps ⟨cl,3,ke,ha,co,n,cm,fr,to_,ws,pt,rw,rk⟩ la).args.map (SA.v g)).toArray) ((pR 1 2 c L H ps++dE ⟨cl,3,ke,ha,co,n,cm,fr,to_,ws,pt,rw,rk⟩).map (SE.e g)) ((spR c L H ps ⟨cl,3,ke,ha,co,n,cm,fr,to_,ws,pt,rw,rk⟩ la).Q g):=by
 intro w hi
 obtain⟨r,hi⟩:=In.sl_rd2 (L':=fun r=>(mdF 1 2 c L.length H.length).e g :: .sl (g 1).a (g 1).c encT tN 3 L 56 :: .res (HL (g 2).a (g 2).c H ps) :: scC.e g :: scD.e g :: PRow.ent 42 ⟨(g 6).a,(g 6).c,ws,r⟩ :: rowsR g pt rw rk) 5 (g 6).a (g 6).c (Go.Sx.encI .u64) 0 1 ws 42 (by kernel_rfl) (fun r=>by kernel_rfl) hi
 have hall:=t_pubAll c hc L (.slice (some ⟨(g 3).b,0,none⟩) 1 1) (.slice (g 2).a H.length (g 2).c) cl ke la ⟨(g 6).a,(g 6).c,ws,r⟩ (by show ws.length≤1000; omega) (g 7).a pt.length (g 7).c (.slice (g 8).a rw.length (g 8).c) (.slice (g 9).a rk.length (g 9).c) ha co n cm fr to_ L.length rfl hl g
 have hi2:In ([mdRr 1 c (.o (.slice (some ⟨(g 3).b,0,none⟩) 1 1)) (.o (.slice (g 2).a H.length (g 2).c)) L.length,.sl 1 encT tN 3 L 56].map (SE.e g)++(.res (HL (g 2).a (g 2).c H ps) :: scC.e g :: scD.e g :: PRow.ent 42 ⟨(g 6).a,(g 6).c,ws,r⟩ :: rowsR g pt rw rk)) F w:=cast (by kernel_rfl) hi
 clear hi
 have hgo:=uniR (c:=c) (L:=L) (H:=H) (ps:=ps) (d:=⟨cl,3,ke,ha,co,n,cm,fr,to_,ws,pt,rw,rk⟩) (la:=la) (F:=F) (g:=g) (A:=[mdRr 1 c (.o (.slice (some ⟨(g 3).b,0,none⟩) 1 1)) (.o (.slice (g 2).a H.length (g 2).c)) L.length,.sl 1 encT tN 3 L 56].map (SE.e g)++(.res (HL (g 2).a (g 2).c H ps) :: scC.e g :: scD.e g :: PRow.ent 42 ⟨(g 6).a,(g 6).c,ws,r⟩ :: rowsR g pt rw rk)) (M:=.res (HL (g 2).a (g 2).c H ps) :: scC.e g :: scD.e g :: PRow.ent 42 ⟨(g 6).a,(g 6).c,ws,r⟩ :: rowsR g pt rw rk) (fun _ _ h=>h) hall
 refine hgo ?_ w hi2
 rintro v post ⟨x,ν,hx,rfl,rfl⟩
 have hlen:x.L.length=L.length:=pubL_len hx
 have hview:∀m,m=L.length→View ((.res (HL (g 2).a (g 2).c H ps) :: scC.e g :: scD.e g :: PRow.ent 42 ⟨(g 6).a,(g 6).c,ws,r⟩ :: rowsR g pt rw rk)++[mdRr 2 c (.o (.slice (some ⟨(g 3).b,0,none⟩) 1 1)) (.o (.slice (g 2).a H.length (g 2).c)) m,.sl 2 encT tN 3 x.L 56].map (SE.e (mixR 2 g ν)))
   ([mdF 10 11 c m H.length,.sl 10 encT tN 3 x.L 56,.rs 11 (fun g=>HL (g 11).a (g 11).c H (ps++[⟨(g 6).a,(g 6).c,ws,r⟩])),scC,scD].map (SE.e (g2R g (ν 2) (g 2)))):=by
  intro m hm
  refine view_trans (view_part [0] (by kernel_rfl) (by kernel_rfl) (hl_open (a:=(g 2).a) (c:=(g 2).c) (H:=H) (ps:=ps))) ?_
  refine view_trans (view_part [9,2] (by kernel_rfl) (by kernel_rfl) (pv_add (t:=42) (ps:=ps) (p:=⟨(g 6).a,(g 6).c,ws,r⟩))) ?_
  refine view_trans (view_part [7,8] (by kernel_rfl) (by kernel_rfl) (hl_fold (a:=(g 2).a) (c:=(g 2).c) (H:=H) (ps:=ps++[⟨(g 6).a,(g 6).c,ws,r⟩]))) ?_
  exact view_pick [5,6,7,0,1] (by kernel_rfl)
 refine⟨⟨x.b,x.L,H,ps++[⟨(g 6).a,(g 6).c,ws,r⟩]⟩,g2R g (ν 2) (g 2), ?_,rfl,g2R_lt _ _ _, ?_⟩
 ·unfold StepR
  refine⟨fun(h:(3:Int)=0)=>by omega,fun(h:(3:Int)=1)=>by omega,fun(h:(3:Int)=2)=>by omega,fun _=>⟨_,rfl,hx,rfl,rfl⟩,fun(h:(3:Int)=4)=>by omega,fun(h:(3:Int)=5)=>by omega,fun(h:(3:Int)=6)=>by omega,fun(h:(3:Int)=7)=>by omega,fun(h:(3:Int)=8)=>by omega,fun(h:(3:Int)=9)=>by omega⟩
 ·have hv:=hview L.length rfl
  have e:(pR 10 11 c x.L H (ps++[⟨(g 6).a,(g 6).c,ws,r⟩])).map (SE.e (g2R g (ν 2) (g 2)))=[mdF 10 11 c L.length H.length,.sl 10 encT tN 3 x.L 56,.rs 11 (fun g=>HL (g 11).a (g 11).c H (ps++[⟨(g 6).a,(g 6).c,ws,r⟩])),scC,scD].map (SE.e (g2R g (ν 2) (g 2))):=by
   unfold pR
   rw [hlen]
   rfl
  show View _ ((pR 10 11 c x.L H (ps++[⟨(g 6).a,(g 6).c,ws,r⟩])).map (SE.e (g2R g (ν 2) (g 2))))
  rw [e]
  exact fun F' w' h'=>hv F' w' (cast (by kernel_rfl) h')
theorem t_DoR(c:Cfg)(hc:c.Ok)(L:TopL)(H:HanL)(ps:List PRow)(hL:LOk L ps)(hz:LSz c L)(hH:HOk H ps)(hl:L.length≤100)(hk1:H.length≤100)(d:DR)(hd:DOk d)(la:Bool)(F:Fr):
  CtF Tryz.prog F 14 (spR c L H ps d la):=by
 intro g
 obtain⟨⟨hk0,hk9,ha0,ha3,hn0,hn3,hws,hww,h6,h6n⟩,hrw,hrk⟩:=hd
 have hcase:d.ki=0∨d.ki=1∨d.ki=2∨d.ki=3∨d.ki=4∨d.ki=5∨d.ki=6∨d.ki=7∨d.ki=8∨d.ki=9:=by omega
 obtain⟨cl,ki,ke,ha,co,n,cm,fr,to_,ws,pt,rw,rk⟩:=d
 simp only at hk0 hk9 ha0 ha3 hn0 hn3 hws hww h6 h6n hrw hrk hcase
 rcases hcase with rfl | rfl | rfl | rfl | rfl | rfl | rfl | rfl | rfl | rfl
 ·refine uniR (M:=([hlR H ps,scC,scD,.sl 6 (Go.Sx.encI .u64) 0 1 ws 42,.sl 7 (Go.Sx.encI .i64) 0 1 pt 3,.sl 8 (Go.Sx.encI .u64) 0 1 rw 42,.sl 9 (Go.Sx.encI .i64) 0 1 rk 3]).map (SE.e g)) (fun _ _ h=>h) (t_zeroR c hc L (.slice (some ⟨(g 3).b,0,none⟩) 1 1) (.slice (g 2).a H.length (g 2).c) cl ke la (g 6).a (g 7).a ws.length (g 6).c pt.length (g 7).c (.slice (g 8).a rw.length (g 8).c) (.slice (g 9).a rk.length (g 9).c) ha co n cm fr to_ L.length rfl hl g) ?_
  rintro v post ⟨x,ν,hx,rfl,rfl⟩
  obtain rfl:x=false:=hx
  exact⟨⟨false,L,H,ps⟩,(g2R g (g 1) (g 2)),by simp [StepR],rfl,g2R_lt _ _ _,view_pick [7,8,0,1,2] (by kernel_rfl)⟩
 ·refine uniR (M:=([hlR H ps,scC,scD,.sl 6 (Go.Sx.encI .u64) 0 1 ws 42,.sl 7 (Go.Sx.encI .i64) 0 1 pt 3,.sl 8 (Go.Sx.encI .u64) 0 1 rw 42,.sl 9 (Go.Sx.encI .i64) 0 1 rk 3]).map (SE.e g)) (fun _ _ h=>h) (t_creR c hc L (.slice (some ⟨(g 3).b,0,none⟩) 1 1) (.slice (g 2).a H.length (g 2).c) cl ke la (g 6).a (g 7).a ws.length (g 6).c pt.length (g 7).c (.slice (g 8).a rw.length (g 8).c) (.slice (g 9).a rk.length (g 9).c) ha co n cm fr to_ L.length rfl hl g) ?_
  rintro v post ⟨x,ν,hx,rfl,rfl⟩
  exact⟨⟨x.b,x.L,H,ps⟩,(g2R g (ν 2) (g 2)),by simp only [StepR]; simp; exact hx,rfl,g2R_lt _ _ _,view_pick [7,8,0,1,2] (by kernel_rfl)⟩
 ·refine uniR (M:=([hlR H ps,scC,scD,.sl 6 (Go.Sx.encI .u64) 0 1 ws 42,.sl 7 (Go.Sx.encI .i64) 0 1 pt 3,.sl 8 (Go.Sx.encI .u64) 0 1 rw 42,.sl 9 (Go.Sx.encI .i64) 0 1 rk 3]).map (SE.e g)) (fun _ _ h=>h) (t_remR c hc L (.slice (some ⟨(g 3).b,0,none⟩) 1 1) (.slice (g 2).a H.length (g 2).c) cl ke la (g 6).a (g 7).a ws.length (g 6).c pt.length (g 7).c (.slice (g 8).a rw.length (g 8).c) (.slice (g 9).a rk.length (g 9).c) ha co n cm fr to_ L.length rfl hl g) ?_
  rintro v post ⟨x,ν,hx,rfl,rfl⟩
  exact⟨⟨x.b,x.L,H,ps⟩,(g2R g (ν 2) (g 2)),by simp only [StepR]; simp; exact hx,rfl,g2R_lt _ _ _,view_pick [7,8,0,1,2] (by kernel_rfl)⟩
 ·exact t_DoR3 c hc L H ps hl cl ke la ha co n cm fr to_ ws pt rw rk hws F g
 ·refine uniR (M:=([scC,scD,.sl 6 (Go.Sx.encI .u64) 0 1 ws 42,.sl 7 (Go.Sx.encI .i64) 0 1 pt 3,.sl 9 (Go.Sx.encI .i64) 0 1 rk 3]).map (SE.e g)) (view_pick [0,1,2,7,3,4,5,6,8] (by kernel_rfl)) (t_readR c hc L H ps hL hz (.slice (some ⟨(g 3).b,0,none⟩) 1 1) cl ke la (g 6).a (g 7).a ws.length (g 6).c pt.length (g 7).c (.slice (g 9).a rk.length (g 9).c) ha co n cm fr to_ rw L.length H.length rw.length rfl rfl hl (fun r=>if r=3 then g 8 else g r)) ?_
  rintro v post ⟨x,ν,hx,rfl,rfl⟩
  obtain rfl:x=readL c L ke rw co:=hx
  exact⟨⟨readL c L ke rw co,L,H,ps⟩,(g2R g (g 1) (g 2)),by simp [StepR],rfl,g2R_lt _ _ _,view_pick [5,6,7,0,1] (by kernel_rfl)⟩
 ·refine uniR (M:=([scC,scD,.sl 6 (Go.Sx.encI .u64) 0 1 ws 42,.sl 7 (Go.Sx.encI .i64) 0 1 pt 3,.sl 8 (Go.Sx.encI .u64) 0 1 rw 42,.sl 9 (Go.Sx.encI .i64) 0 1 rk 3]).map (SE.e g)) (fun _ _ h=>h) (t_pinP c hc L H ps (.slice (some ⟨(g 3).b,0,none⟩) 1 1) cl ke la (g 6).a (g 7).a ws.length (g 6).c pt.length (g 7).c (.slice (g 8).a rw.length (g 8).c) (.slice (g 9).a rk.length (g 9).c) ha co n cm fr to_ (by omega) L.length H.length rfl rfl hl hk1 g) ?_
  rintro v post ⟨x,ν,hx,rfl,rfl⟩
  exact⟨⟨x.b,L,x.H,ps⟩,(g2R g (g 1) (ν 3)),by simp only [StepR]; simp; exact hx,rfl,g2R_lt _ _ _,view_pick [6,7,8,0,1] (by kernel_rfl)⟩
 ·obtain⟨p0,p1,rfl,h00,h01,h10,h11⟩:=h6 rfl
  refine uniR (M:=([.sl 6 (Go.Sx.encI .u64) 0 1 ws 42,.sl 8 (Go.Sx.encI .u64) 0 1 rw 42,.sl 9 (Go.Sx.encI .i64) 0 1 rk 3]).map (SE.e g)) (view_pick [0,1,2,6,3,4,5,7,8] (by kernel_rfl)) (t_doFldR c hc L H ps hH cl ke la (g 6).a ws.length (g 6).c (.slice (g 8).a rw.length (g 8).c) (.slice (g 9).a rk.length (g 9).c) ha co n cm fr to_ p0 p1 (by omega) h10 L.length H.length rfl rfl hl hk1 (fun r=>if r=2 then g 7 else if r=5 then g 1 else if r=6 then g 2 else g r)) ?_
  rintro v post ⟨x,ν,hx,rfl,rfl⟩
  obtain rfl:x=doFldR H cl ha co n p0:=hx
  exact⟨⟨doFldR H cl ha co n p0,L,H,ps⟩,(g2R g (g 1) (g 2)),by simp [StepR],rfl,g2R_lt _ _ _,view_pick [3,4,5,6,7] (by kernel_rfl)⟩
 ·refine uniR (M:=([hlR H ps,scC,scD,.sl 6 (Go.Sx.encI .u64) 0 1 ws 42,.sl 7 (Go.Sx.encI .i64) 0 1 pt 3,.sl 8 (Go.Sx.encI .u64) 0 1 rw 42,.sl 9 (Go.Sx.encI .i64) 0 1 rk 3]).map (SE.e g)) (fun _ _ h=>h) (t_unpinR c hc L (.slice (some ⟨(g 3).b,0,none⟩) 1 1) (.slice (g 2).a H.length (g 2).c) cl ke la (g 6).a (g 7).a ws.length (g 6).c pt.length (g 7).c (.slice (g 8).a rw.length (g 8).c) (.slice (g 9).a rk.length (g 9).c) ha co n cm fr to_ L.length rfl hl g) ?_
  rintro v post ⟨x,ν,hx,rfl,rfl⟩
  obtain rfl:x=decide (co=0∨co=1):=hx
  exact⟨⟨decide (co=0∨co=1),L,H,ps⟩,(g2R g (g 1) (g 2)),by simp [StepR],rfl,g2R_lt _ _ _,view_pick [7,8,0,1,2] (by kernel_rfl)⟩
 ·refine uniR (M:=([hlR H ps,scC,scD,.sl 6 (Go.Sx.encI .u64) 0 1 ws 42,.sl 7 (Go.Sx.encI .i64) 0 1 pt 3,.sl 8 (Go.Sx.encI .u64) 0 1 rw 42]).map (SE.e g)) (view_pick [0,1,8,2,3,4,5,6,7] (by kernel_rfl)) (t_listR c hc L (.slice (some ⟨(g 3).b,0,none⟩) 1 1) (.slice (g 2).a H.length (g 2).c) cl ke la (g 6).a (g 7).a ws.length (g 6).c pt.length (g 7).c (.slice (g 8).a rw.length (g 8).c) rk rk.length rfl hrk ha co n cm fr to_ L.length rfl hl (fun r=>if r=2 then g 9 else g r)) ?_
  rintro v post ⟨x,ν,hx,rfl,rfl⟩
  obtain rfl:x=decide ((co=0∧L.map (·.1)=rk)∨co=17):=hx
  exact⟨⟨decide ((co=0∧L.map (·.1)=rk)∨co=17),L,H,ps⟩,(g2R g (g 1) (g 2)),by simp [StepR],rfl,g2R_lt _ _ _,view_pick [6,7,0,1,2] (by kernel_rfl)⟩
 ·refine uniR (M:=([hlR H ps,scC,scD,.sl 6 (Go.Sx.encI .u64) 0 1 ws 42,.sl 7 (Go.Sx.encI .i64) 0 1 pt 3,.sl 8 (Go.Sx.encI .u64) 0 1 rw 42,.sl 9 (Go.Sx.encI .i64) 0 1 rk 3]).map (SE.e g)) (fun _ _ h=>h) (t_scanR c hc L (.slice (some ⟨(g 3).b,0,none⟩) 1 1) (.slice (g 2).a H.length (g 2).c) cl ke la (g 6).a (g 7).a ws.length (g 6).c pt.length (g 7).c (.slice (g 8).a rw.length (g 8).c) (.slice (g 9).a rk.length (g 9).c) ha co n cm fr to_ L.length rfl hl g) ?_
  rintro v post ⟨x,ν,hx,rfl,rfl⟩
  obtain rfl:x=decide (co=0):=hx
  exact⟨⟨decide (co=0),L,H,ps⟩,(g2R g (g 1) (g 2)),by simp [StepR],rfl,g2R_lt _ _ _,view_pick [7,8,0,1,2] (by kernel_rfl)⟩
end Go.Proofs.YthijdhenekmojaaGreatDoor
/- The model and the document's: they hold the same (plain). -/
set_option linter.unusedSimpArgs false
namespace Go.Proofs.YthijdhenekmojaaGreatDoor
open Go.Sx
section
variable {κ β : Type} [DecidableEq κ]
theorem kget_nil(k : κ): kget ([]:List (κ×β)) k=none:=rfl
theorem kget_cons(x : κ×β)(l:List (κ×β))(k : κ): kget (x :: l) k=if x.1=k then some x.2 else kget l k:=by
 unfold kget
 rw [List.find?_cons]
 by_cases h:x.1=k
 ·rw [if_pos h,beq_iff_eq.2 h]; rfl
 ·rw [if_neg h,beq_eq_false_iff_ne.2 h]
theorem kget_append(l m:List (κ×β))(k : κ): kget (l++m) k=(kget l k).or (kget m k):=by
 induction l with
 | nil=>simp [kget_nil]
 | cons x l ih=>
  rw [List.cons_append,kget_cons,kget_cons]
  by_cases h:x.1=k
  ·simp [h]
  ·simp [h,ih]
theorem kget_none{l:List (κ×β)}{k : κ}: kget l k=none↔∀x∈l,x.1≠k:=by
 induction l with
 | nil=>simp [kget_nil]
 | cons x l ih=>
  rw [kget_cons]
  by_cases h:x.1=k
  ·simp [h]
  ·simp [h,ih]
theorem kget_mem'{l:List (κ×β)}{k : κ}{v : β}(h:kget l k=some v): (k,v)∈l:=by
 induction l with
 | nil=>simp [kget_nil] at h
 | cons x l ih=>
  rw [kget_cons] at h
  by_cases hx:x.1=k
  ·rw [if_pos hx] at h
   have:x=(k,v):=by
    cases x with
    | mk a b=>simp only at hx; simp only [Option.some.injEq] at h; rw [hx,h]
   rw [this]; exact List.mem_cons_self ..
  ·rw [if_neg hx] at h
   exact List.mem_cons_of_mem _ (ih h)
theorem kget_of_mem{l:List (κ×β)}(hn:(l.map (·.1)).Nodup){k : κ}{v : β}(h:(k,v)∈l): kget l k=some v:=by
 induction l with
 | nil=>simp at h
 | cons x l ih=>
  rw [List.map_cons,List.nodup_cons] at hn
  rw [kget_cons]
  rcases List.mem_cons.1 h with rfl | h
  ·simp
  ·have:x.1≠k:=fun e=>hn.1 (e▸List.mem_map_of_mem (f:=(·.1)) h)
   rw [if_neg this]
   exact ih hn.2 h
/-- what is told by all keys tells the rows, but for their order -/
theorem perm_of_kget{l m:List (κ×β)}(hl:(l.map (·.1)).Nodup)(hm:(m.map (·.1)).Nodup)(h:∀k,kget l k=kget m k): (l.map (·.1)).Perm (m.map (·.1)):=by
 rw [List.perm_ext_iff_of_nodup hl hm]
 intro k
 have key:∀ {l:List (κ×β)},(l.map (·.1)).Nodup→(k∈l.map (·.1)↔(kget l k).isSome=true):=by
  intro l hl
  constructor
  ·intro hk
   obtain⟨x,hx,rfl⟩:=List.mem_map.1 hk
   rw [kget_of_mem hl (v:=x.2) hx]; rfl
  ·intro hk
   obtain⟨v,hv⟩:=Option.isSome_iff_exists.1 hk
   exact List.mem_map.2 ⟨(k,v),kget_mem' hv,rfl⟩
 rw [key hl,key hm,h]
theorem kset_none{l:List (κ×β)}{k : κ}(h:kget l k=none)(v : β): kset l k v=l++[(k,v)]:=by
 unfold kset
 have:l.findIdx? (fun x=>x.1==k)=none:=by
  rw [List.findIdx?_eq_none_iff]
  intro x hx
  exact beq_eq_false_iff_ne.2 (kget_none.1 h x hx)
 rw [this]
theorem kset_cons(x : κ×β)(l:List (κ×β))(k : κ)(v : β): kset (x :: l) k v=if x.1=k then(k,v) :: l else x :: kset l k v:=by
 unfold kset
 rw [List.findIdx?_cons]
 by_cases h:x.1=k
 ·simp [h]
 ·rw [beq_eq_false_iff_ne.2 h]
  simp only [h,if_false,Bool.false_eq_true]
  cases l.findIdx? (fun x=>x.1==k) <;> simp
theorem kdel_cons(x : κ×β)(l:List (κ×β))(k : κ): kdel (x :: l) k=if x.1=k then l else x :: kdel l k:=by
 unfold kdel
 rw [List.findIdx?_cons]
 by_cases h:x.1=k
 ·simp [h]
 ·rw [beq_eq_false_iff_ne.2 h]
  simp only [h,if_false,Bool.false_eq_true]
  cases l.findIdx? (fun x=>x.1==k) <;> simp
theorem kget_kset(l:List (κ×β))(k k' : κ)(v : β): kget (kset l k v) k'=if k=k' then some v else kget l k':=by
 induction l with
 | nil=>simp [kset,kget_cons,kget_nil]
 | cons x l ih=>
  rw [kset_cons]
  by_cases h:x.1=k
  ·rw [if_pos h,kget_cons,kget_cons]
   by_cases h2:k=k'
   ·simp [h2]
   ·simp [h2,h]
  ·rw [if_neg h,kget_cons,kget_cons,ih]
   by_cases h3:x.1=k'
   ·have:¬k=k':=fun e=>h (h3.trans e.symm)
    simp [h3,this]
   ·simp [h3]
theorem kset_keys(l:List (κ×β))(k : κ)(v : β)(hn:(l.map (·.1)).Nodup): ((kset l k v).map (·.1)).Nodup:=by
 induction l with
 | nil=>simp [kset]
 | cons x l ih=>
  rw [List.map_cons,List.nodup_cons] at hn
  rw [kset_cons]
  by_cases h:x.1=k
  ·rw [if_pos h,List.map_cons,List.nodup_cons]
   rw [h] at hn
   exact hn
  ·rw [if_neg h,List.map_cons,List.nodup_cons]
   refine⟨?_,ih hn.2⟩
   intro hm
   obtain⟨y,hy,he⟩:=List.mem_map.1 hm
   have h1:kget (kset l k v) x.1=some y.2:=by
    have:=kget_of_mem (ih hn.2) (k:=x.1) (v:=y.2) (by rw [←he]; exact hy)
    exact this
   rw [kget_kset,if_neg (fun e=>h e.symm)] at h1
   exact hn.1 (List.mem_map.2 ⟨(x.1,y.2),kget_mem' h1,rfl⟩)
theorem kdel_sub(l:List (κ×β))(k : κ): ∀x∈kdel l k,x∈l:=by
 induction l with
 | nil=>simp [kdel]
 | cons x l ih=>
  rw [kdel_cons]
  by_cases h:x.1=k
  ·rw [if_pos h]; exact fun y hy=>List.mem_cons_of_mem _ hy
  ·rw [if_neg h]
   intro y hy
   rcases List.mem_cons.1 hy with rfl | hy
   ·exact List.mem_cons_self ..
   ·exact List.mem_cons_of_mem _ (ih y hy)
theorem kdel_keys(l:List (κ×β))(k : κ)(hn:(l.map (·.1)).Nodup): ((kdel l k).map (·.1)).Nodup:=by
 induction l with
 | nil=>simp [kdel]
 | cons x l ih=>
  rw [List.map_cons,List.nodup_cons] at hn
  rw [kdel_cons]
  by_cases h:x.1=k
  ·rw [if_pos h]; exact hn.2
  ·rw [if_neg h,List.map_cons,List.nodup_cons]
   refine⟨?_,ih hn.2⟩
   intro hm
   obtain⟨y,hy,he⟩:=List.mem_map.1 hm
   exact hn.1 (List.mem_map.2 ⟨y,kdel_sub l k y hy,he⟩)
theorem kget_kdel(l:List (κ×β))(k k' : κ)(hn:(l.map (·.1)).Nodup): kget (kdel l k) k'=if k=k' then none else kget l k':=by
 induction l with
 | nil=>simp [kdel,kget_nil]
 | cons x l ih=>
  rw [List.map_cons,List.nodup_cons] at hn
  rw [kdel_cons]
  by_cases h:x.1=k
  ·rw [if_pos h,kget_cons]
   by_cases h2:k=k'
   ·rw [if_pos h2]
    rw [kget_none]
    intro y hy e
    exact hn.1 (by rw [h,h2,←e]; exact List.mem_map_of_mem (f:=(·.1)) hy)
   ·rw [if_neg h2,if_neg (by rw [h]; exact h2)]
  ·rw [if_neg h,kget_cons,kget_cons,ih hn.2]
   by_cases h3:x.1=k'
   ·have:¬k=k':=fun e=>h (h3.trans e.symm)
    simp [h3,this]
   ·simp [h3]
end
end Go.Proofs.YthijdhenekmojaaGreatDoor
/- The model and the document's: topics (plain). -/
set_option linter.unusedSimpArgs false
namespace Go.Proofs.YthijdhenekmojaaGreatDoor
open Go.Sx
abbrev vX(x:Bool×PRow): Bool×List Int:=(x.1,x.2.xs)
structure Sim (T:TopM) (L:TopL):Prop where
 nd:(T.map (·.1)).Nodup
 so:L.Pairwise (fun x y=>x.1<y.1)
 eq:∀k,(kget T k).map vX=(kget L k).map vX
theorem sorted_nd{L:TopL}(h:L.Pairwise (fun x y=>x.1<y.1)): (L.map (·.1)).Nodup:=by
 rw [List.nodup_iff_pairwise_ne,List.pairwise_map]
 exact h.imp fun h=>by omega
theorem at_kget(L:TopL)(k:Int): (atL L k≥0∧kget L k=some (L.getD (atL L k).toNat tN).2∧(L.getD (atL L k).toNat tN).1=k∧L.findIdx? (fun x=>x.1==k)=some (atL L k).toNat)∨(atL L k<0∧kget L k=none):=by
 unfold atL
 cases h:L.findIdx? (fun x=>x.1==k) with
 | none=>
  right
  refine⟨by simp,kget_none.2 ?_⟩
  intro x hx
  rw [List.findIdx?_eq_none_iff] at h
  exact beq_eq_false_iff_ne.1 (h x hx)
 | some i=>
  left
  obtain⟨hi,h1,h2⟩:=List.findIdx?_eq_some_iff_getElem.1 h
  have e:L.getD i tN=L[i]:=by simp [hi]
  refine⟨by simp, ?_, ?_,by simp⟩
  ·simp only [Int.toNat_natCast]
   rw [e]
   unfold kget
   have:L.find? (fun x=>x.1==k)=some L[i]:=by
    rw [List.find?_eq_some_iff_getElem]
    exact⟨h1,i,hi,rfl,fun j hj=>by have:=h2 j hj; simpa using this⟩
   rw [this]; rfl
  ·simp only [Int.toNat_natCast]
   rw [e]
   exact beq_iff_eq.1 h1
theorem rem_kdel{L:TopL}{k:Int}(h:atL L k≥0): []++L.take (atL L k).toNat++L.drop (atL L k+1).toNat=kdel L k:=by
 rcases at_kget L k with ⟨h1,_,_,h4⟩ | ⟨h1,_⟩
 ·unfold kdel
  rw [h4]
  simp only [List.nil_append]
  rw [List.eraseIdx_eq_take_drop_succ]
  have:(atL L k+1).toNat=(atL L k).toNat+1:=by omega
  rw [this]
 ·omega
theorem pub_kset{L:TopL}{k:Int}{p:PRow}(h:atL L k≥0): ([]++L).set (atL L k).toNat ((fun y:Int×Bool×PRow=>(y.1,y.2.1,p)) (([]++L).getD (atL L k).toNat tN))=kset L k ((L.getD (atL L k).toNat tN).2.1,p):=by
 rcases at_kget L k with ⟨h1,_,h3,h4⟩ | ⟨h1,_⟩
 ·unfold kset
  rw [h4]
  simp only [List.nil_append]
  rw [h3]
 ·omega
theorem kget_ins{L:TopL}{k:Int}{v:Bool×PRow}(hn:kget L k=none)(i:Nat)(k':Int): kget ((L.take i++[(k,v)])++L.drop i) k'=if k=k' then some v else kget L k':=by
 rw [kget_append,kget_append,kget_cons,kget_nil]
 have e:kget L k'=(kget (L.take i) k').or (kget (L.drop i) k'):=by rw [←kget_append,List.take_append_drop]
 by_cases h:k=k'
 ·subst h
  rw [if_pos rfl,if_pos rfl]
  rw [hn] at e
  have:kget (L.take i) k=none:=by
   cases hk:kget (L.take i) k with
   | none=>rfl
   | some v=>rw [hk] at e; simp at e
  rw [this]; rfl
 ·rw [if_neg h,if_neg h,e]
  cases kget (L.take i) k' <;> rfl
theorem ins_sorted{L:TopL}{k:Int}{v:Bool×PRow}(hs:L.Pairwise (fun x y=>x.1<y.1))(hn:kget L k=none){i:Nat}(h1:∀x∈L.take i,x.1<k)(h2:∀x,L[i]? = some x→¬x.1<k): ((L.take i++[(k,v)])++L.drop i).Pairwise (fun x y=>x.1<y.1):=by
 have hs':=hs
 rw [←List.take_append_drop i L,List.pairwise_append] at hs'
 obtain⟨a1,a2,a3⟩:=hs'
 have h3:∀x∈L.drop i,k<x.1:=by
  intro x hx
  have hne:=kget_none.1 hn x (List.mem_of_mem_drop hx)
  obtain⟨j,hj,rfl⟩:=List.getElem_of_mem hx
  have hlen:i+j<L.length:=by simp at hj; omega
  have hi:i<L.length:=by omega
  have h0:¬(L[i]).1<k:=h2 _ (by simp [hi])
  rw [List.getElem_drop] at hne ⊢
  by_cases hj0:j=0
  ·subst hj0
   simp only [Nat.add_zero] at hne ⊢
   omega
  ·have:=List.pairwise_iff_getElem.1 hs i (i+j) hi hlen (by omega)
   omega
 rw [List.pairwise_append,List.pairwise_append]
 refine⟨⟨a1,List.pairwise_singleton .., ?_⟩,a2, ?_⟩
 ·intro x hx y hy
  rw [List.mem_singleton.1 hy]
  exact h1 x hx
 ·intro x hx y hy
  rcases List.mem_append.1 hx with hx | hx
  ·exact a3 x hx y hy
  ·rw [List.mem_singleton.1 hx]
   exact h3 y hy
theorem set_sorted{L:TopL}{k:Int}{v:Bool×PRow}(hs:L.Pairwise (fun x y=>x.1<y.1))(h:kget L k≠none): (kset L k v).Pairwise (fun x y=>x.1<y.1):=by
 have e:(kset L k v).map (·.1)=L.map (·.1):=by
  clear hs
  induction L with
  | nil=>exact absurd rfl h
  | cons x l ih=>
   rw [kset_cons]
   by_cases hx:x.1=k
   ·rw [if_pos hx]; simp [hx]
   ·rw [if_neg hx,List.map_cons,List.map_cons,ih (by rw [kget_cons,if_neg hx] at h; exact h)]
 have h1:(L.map (·.1)).Pairwise (· < ·):=List.pairwise_map.2 hs
 rw [←e] at h1
 exact List.pairwise_map.1 h1
theorem del_sorted{L:TopL}{k:Int}(hs:L.Pairwise (fun x y=>x.1<y.1)): (kdel L k).Pairwise (fun x y=>x.1<y.1):=by
 unfold kdel
 split
 ·exact hs.sublist (List.eraseIdx_sublist ..)
 ·exact hs
theorem Sim.some{T:TopM}{L:TopL}(h:Sim T L)(k:Int): (kget T k).isSome=(kget L k).isSome:=by
 have:=congrArg Option.isSome (h.eq k)
 simpa using this
theorem Sim.len{T:TopM}{L:TopL}(h:Sim T L): T.length=L.length:=by
 have hT:((T.map fun x=>(x.1,vX x.2)).map (·.1)).Nodup:=by simpa [Function.comp_def] using h.nd
 have hp:(T.map (·.1)).Perm (L.map (·.1)):=by
  rw [List.perm_ext_iff_of_nodup h.nd (sorted_nd h.so)]
  intro k
  have key:∀ {l:TopM},(l.map (·.1)).Nodup→(k∈l.map (·.1)↔(kget l k).isSome=true):=by
   intro l hl
   constructor
   ·intro hk
    obtain⟨x,hx,rfl⟩:=List.mem_map.1 hk
    rw [kget_of_mem hl (v:=x.2) hx]; rfl
   ·intro hk
    obtain⟨v,hv⟩:=Option.isSome_iff_exists.1 hk
    exact List.mem_map.2 ⟨(k,v),kget_mem' hv,rfl⟩
  rw [key h.nd,key (sorted_nd h.so),h.some]
 have:=hp.length_eq
 simpa using this
end Go.Proofs.YthijdhenekmojaaGreatDoor
/- The model and the document's: what is created, removed, published (plain). -/
set_option linter.unusedSimpArgs false
namespace Go.Proofs.YthijdhenekmojaaGreatDoor
open Go.Sx
theorem Sim.keys{T:TopM}{L:TopL}(h:Sim T L): keysOf T=L.map (·.1):=by
 have hp:(T.map (·.1)).Perm (L.map (·.1)):=by
  rw [List.perm_ext_iff_of_nodup h.nd (sorted_nd h.so)]
  intro k
  have key:∀ {l:TopM},(l.map (·.1)).Nodup→(k∈l.map (·.1)↔(kget l k).isSome=true):=by
   intro l hl
   constructor
   ·intro hk
    obtain⟨x,hx,rfl⟩:=List.mem_map.1 hk
    rw [kget_of_mem hl (v:=x.2) hx]; rfl
   ·intro hk
    obtain⟨v,hv⟩:=Option.isSome_iff_exists.1 hk
    exact List.mem_map.2 ⟨(k,v),kget_mem' hv,rfl⟩
  rw [key h.nd,key (sorted_nd h.so),h.some]
 unfold keysOf
 have hle:∀a b:Int,leI a b=true↔a≤b:=by intro a b; simp [leI]
 refine List.Perm.eq_of_pairwise (le:=fun a b=>leI a b=true) ?_ ?_ ?_ ((List.mergeSort_perm _ _).trans hp)
 ·intro a b _ _ h1 h2
  rw [hle] at h1 h2
  omega
 ·refine List.pairwise_mergeSort ?_ ?_ _
  ·intro a b c h1 h2; rw [hle] at *; omega
  ·intro a b; simp only [Bool.or_eq_true,hle]; omega
 ·exact(List.pairwise_map.2 h.so).imp fun {a b} h=>by rw [hle]; omega
theorem Sim.at_some{T:TopM}{L:TopL}(h:Sim T L)(k:Int): (kget T k).isSome=decide (atL L k≥0):=by
 rw [h.some]
 rcases at_kget L k with ⟨h1,h2,_⟩ | ⟨h1,h2⟩
 ·rw [h2,decide_eq_true h1]; rfl
 ·rw [h2,decide_eq_false (by omega)]; rfl
theorem Sim.at_get{T:TopM}{L:TopL}(h:Sim T L){k:Int}(ha:atL L k≥0): vX ((kget T k).getD (false,.nil))=vX (L.getD (atL L k).toNat tN).2:=by
 rcases at_kget L k with ⟨h1,h2,_⟩ | ⟨h1,h2⟩
 ·have:=h.eq k
  rw [h2] at this
  cases hk:kget T k with
  | none=>rw [hk] at this; simp at this
  | some v=>rw [hk] at this; simpa using this
 ·omega
theorem sim_create{c:Cfg}{T:TopM}{L:TopL}(h:Sim T L)(hl:(L.length:Int)≤c.topics){ke:Int}{la:Bool}{co:Int}{x:RL}(hx:creR c L ke la co x):
  (createM c T ke la co).b=x.b∧Sim (createM c T ke la co).T x.L∧(x.L.length:Int)≤c.topics:=by
 unfold creR at hx
 unfold createM
 by_cases hm:mayB ke=false
 ·rw [if_pos hm] at hx ⊢
  subst hx
  exact⟨rfl,h,hl⟩
 ·rw [if_neg hm] at hx ⊢
  have hs:=h.at_some ke
  have hlen:=h.len
  by_cases hg:co=0∧atL L ke<0∧(L.length:Int)<c.topics
  ·rw [if_pos hg] at hx
   obtain⟨hb,i,hi,h1,h2,he⟩:=hx
   have hTn:kget T ke=none:=by
    rw [decide_eq_false (by omega)] at hs
    cases hk:kget T ke with
    | none=>rfl
    | some v=>rw [hk] at hs; cases hs
   have hLn:kget L ke=none:=by
    rcases at_kget L ke with ⟨h3,_⟩ | ⟨_,h3⟩
    ·omega
    ·exact h3
   rw [if_pos hg.1,if_neg (by rw [hs,decide_eq_false (by omega)]; exact fun q=>q.elim (fun q=>by cases q) (fun q=>by omega))]
   refine⟨hb.symm,⟨kset_keys _ _ _ h.nd, ?_, ?_⟩, ?_⟩
   ·rw [he]; exact ins_sorted h.so hLn h1 h2
   ·intro k
    rw [he,kget_ins hLn,kget_kset]
    by_cases hk:ke=k
    ·rw [if_pos hk,if_pos hk]
    ·rw [if_neg hk,if_neg hk]; exact h.eq k
   ·rw [he]
    simp only [List.length_append,List.length_take,List.length_drop,List.length_cons,List.length_nil]
    omega
  ·rw [if_neg hg] at hx
   subst hx
   rw [hs]
   by_cases h0:co=0
   ·subst h0
    rw [if_pos rfl,if_pos (by
     by_cases ha:atL L ke≥0
     ·exact .inl (decide_eq_true ha)
     ·exact .inr (by omega))]
    exact⟨by simp,h,hl⟩
   ·rw [if_neg h0]
    by_cases h14:co=14
    ·subst h14
     rw [if_pos rfl]
     exact⟨by simp,h,hl⟩
    ·rw [if_neg h14]
     by_cases h15:co=15
     ·subst h15
      rw [if_pos rfl]
      refine⟨?_,h,hl⟩
      show(!decide (atL L ke≥0)&&((T.length:Int)==c.topics)) = _
      rw [hlen]
      by_cases ha:atL L ke≥0
      ·simp [ha]; omega
      ·have:atL L ke<0:=by omega
       simp [ha,this]
     ·rw [if_neg h15]
      refine⟨?_,h,hl⟩
      simp [h14,h15]
theorem sim_remove{T:TopM}{L:TopL}(h:Sim T L){ke co:Int}{x:RL}(hx:remR L ke co x):
  (removeM T ke co).b=x.b∧Sim (removeM T ke co).T x.L∧x.L.length≤L.length:=by
 unfold remR at hx
 unfold removeM
 by_cases hm:mayB ke=false
 ·rw [if_pos hm] at hx ⊢
  subst hx
  exact⟨rfl,h,Nat.le_refl _⟩
 ·rw [if_neg hm] at hx ⊢
  have hs:=h.at_some ke
  by_cases hg:co=0∧atL L ke≥0
  ·rw [if_pos hg] at hx
   subst hx
   rw [if_pos (by rw [hs]; exact⟨decide_eq_true hg.2,hg.1⟩),rem_kdel hg.2]
   refine⟨rfl,⟨kdel_keys _ _ h.nd,del_sorted h.so, ?_⟩, ?_⟩
   ·intro k
    rw [kget_kdel _ _ _ h.nd,kget_kdel _ _ _ (sorted_nd h.so)]
    by_cases hk:ke=k
    ·rw [if_pos hk,if_pos hk]
    ·rw [if_neg hk,if_neg hk]; exact h.eq k
   ·show(kdel L ke).length≤L.length
    unfold kdel
    split
    ·exact(List.eraseIdx_sublist ..).length_le
    ·exact Nat.le_refl _
  ·rw [if_neg hg] at hx
   subst hx
   rw [hs,if_neg (by rintro⟨q1,q2⟩; exact hg ⟨q2,of_decide_eq_true q1⟩)]
   by_cases h12:decide (atL L ke≥0)=false∧co=12
   ·rw [if_pos h12]
    have:=of_decide_eq_false h12.1
    refine⟨?_,h,Nat.le_refl _⟩
    rw [h12.2,decide_eq_true (show atL L ke<0 by omega)]; rfl
   ·rw [if_neg h12]
    refine⟨?_,h,Nat.le_refl _⟩
    show(co==17)=((co==12&&decide (atL L ke<0))||co==17)
    have:(co==12&&decide (atL L ke<0))=false:=by
     rw [Bool.and_eq_false_iff]
     by_cases hc:co=12
     ·right
      exact decide_eq_false (fun q=>h12 ⟨decide_eq_false (by omega),hc⟩)
     ·left; exact beq_eq_false_iff_ne.2 hc
    rw [this,Bool.false_or]
end Go.Proofs.YthijdhenekmojaaGreatDoor
/- The model and the document's: what is published, read, pinned; fields (plain). -/
set_option linter.unusedSimpArgs false
namespace Go.Proofs.YthijdhenekmojaaGreatDoor
open Go.Sx
theorem sim_fit{c:Cfg}{T:TopM}{L:TopL}(h:Sim T L)(ke n:Int): ((kget T ke).isSome&&fitT c ((kget T ke).getD (false,.nil)).1 n)=fitL c L ke n:=by
 unfold fitL
 rw [h.at_some]
 by_cases ha:atL L ke≥0
 ·have:=congrArg Prod.fst (h.at_get ha)
  simp only [vX] at this
  rw [this]
 ·rw [decide_eq_false ha]; rfl
theorem sim_pub{c:Cfg}{T:TopM}{L:TopL}(h:Sim T L){ps:List PRow}{ke co:Int}{ws:List Int}{p:PRow}(hp:p.xs=ws){x:RQ}{y:RL}(hx:doPubR c T ps ke ws co x)(hy:pubL c L ke p co y):
  x.b=y.b∧Sim x.T y.L∧y.L.length=L.length:=by
 subst hp
 have hlen:=pubL_len hy
 unfold doPubR at hx
 unfold pubL at hy
 by_cases hm:mayB ke=false∨p.xs.length=0
 ·rw [if_pos hm] at hx hy
  subst hx; subst hy
  exact⟨rfl,h,rfl⟩
 ·rw [if_neg hm] at hx hy
  obtain⟨hb,hT⟩:=hx
  have hf:=sim_fit (c:=c) h ke p.xs.length
  unfold pubK' at hT
  unfold pubB' at hb
  rw [hf] at hT hb
  have hs:=h.at_some ke
  by_cases hg:co=0∧fitL c L ke p.xs.length=true
  ·rw [if_pos hg] at hy
   have ha:atL L ke≥0:=by
    have:=hg.2
    unfold fitL at this
    simp only [Bool.and_eq_true,decide_eq_true_eq] at this
    exact this.1
   rw [if_pos (by rw [hg.2,decide_eq_true hg.1]; rfl)] at hT
   obtain⟨q,hq,hT,_⟩:=hT
   rw [if_pos hg.1,hg.2] at hb
   rw [pub_kset ha] at hy
   subst hy
   refine⟨hb,⟨?_, ?_, ?_⟩,hlen⟩
   ·rw [hT]; exact kset_keys _ _ _ h.nd
   ·refine set_sorted h.so ?_
    rcases at_kget L ke with ⟨_,h2,_⟩ | ⟨h1,_⟩
    ·rw [h2]; simp
    ·omega
   ·intro k
    rw [hT,kget_kset,kget_kset]
    by_cases hk:ke=k
    ·rw [if_pos hk,if_pos hk]
     have:=congrArg Prod.fst (h.at_get ha)
     simp only [vX] at this
     simp only [Option.map_some,vX,hq,this]
    ·rw [if_neg hk,if_neg hk]; exact h.eq k
  ·rw [if_neg hg] at hy
   subst hy
   have hk:(decide (co=0)&&fitL c L ke p.xs.length)=false:=by
    rw [Bool.and_eq_false_iff]
    by_cases h0:co=0
    ·right
     cases hq:fitL c L ke p.xs.length with
     | false=>rfl
     | true=>exact absurd ⟨h0,hq⟩ hg
    ·left; exact decide_eq_false h0
   rw [hk] at hT
   simp only [Bool.false_eq_true,if_false] at hT
   refine⟨?_,by rw [hT.1]; exact h,rfl⟩
   rw [hb]
   by_cases h0:co=0
   ·subst h0
    have hq:fitL c L ke p.xs.length=false:=by simpa using hk
    rw [if_pos rfl,hq]
    simp
   ·rw [if_neg h0]
    by_cases h12:co=12
    ·subst h12
     rw [if_pos rfl,hs]
     by_cases ha:atL L ke≥0
     ·simp [ha] <;> omega
     ·have:atL L ke<0:=by omega
      simp [ha,this]
    ·rw [if_neg h12]
     by_cases h21:co=21
     ·subst h21
      rw [if_pos rfl,hs]
      simp
     ·rw [if_neg h21]
      rw [Bool.eq_iff_iff]
      simp [h12,h21]
      omega
theorem sim_read{c:Cfg}{T:TopM}{L:TopL}(h:Sim T L)(ke co:Int)(ws:List Int): readD c T ke ws co=readL c L ke ws co:=by
 unfold readD readL
 by_cases hm:mayB ke=false
 ·rw [if_pos hm,if_pos hm]
 ·rw [if_neg hm,if_neg hm]
  unfold readB
  rw [h.at_some]
  by_cases ha:atL L ke≥0
  ·have hg:=h.at_get ha
   have h1:=congrArg Prod.fst hg
   have h2:=congrArg Prod.snd hg
   simp only [vX] at h1 h2
   rw [h1,h2,decide_eq_true ha]
   have hna:¬atL L ke<0:=by omega
   generalize (L.getD (atL L ke).toNat tN).2.1=lg
   generalize (L.getD (atL L ke).toNat tN).2.2.xs=xs
   by_cases h0:co=0
   ·rw [if_pos h0,if_pos h0]
    by_cases hl:((xs.length:Nat):Int)>0
    ·have e:sizeB c lg xs=sizeL c lg xs.length:=by
      unfold sizeB sizeL
      rw [decide_eq_true hl]
      cases lg <;> simp
     rw [decide_eq_true hl]
     unfold readS
     rw [e]
     rw [Bool.eq_iff_iff]
     simp [and_assoc]
    ·rw [decide_eq_false hl]; simp
   ·rw [if_neg h0,if_neg h0]
    by_cases h12:co=12
    ·subst h12; simp [hna]
    ·rw [if_neg h12]
     by_cases h20:co=20
     ·subst h20; simp
     ·rw [if_neg h20,Bool.eq_iff_iff]
      simp [h12,h20]
      omega
  ·have hna:atL L ke<0:=by omega
   rw [decide_eq_false ha]
   by_cases h0:co=0
   ·rw [if_pos h0,if_pos h0]; simp
   ·rw [if_neg h0,if_neg h0]
    by_cases h12:co=12
    ·subst h12; simp [hna]
    ·rw [if_neg h12]
     by_cases h20:co=20
     ·subst h20; simp
     ·rw [if_neg h20,Bool.eq_iff_iff]
      simp [h12,h20]
      omega
abbrev SimH(H:HanM)(G:HanL): Prop := ∀k,(kget H k).map (·.xs)=(kget G k).map (·.xs)
theorem fnd_kget(G:HanL)(a b:Int): (fndL G a b).map (·.2)=kget G (a,b):=by
 unfold fndL kget
 have e:(fun x:(Int×Int)×PRow=>x.1.1==a&&x.1.2==b)=(fun x => @BEq.beq _ instBEqOfDecidableEq x.1 (a,b)):=by
  funext x
  obtain⟨⟨u,v⟩,y⟩:=x
  rw [Bool.eq_iff_iff]
  simp [Prod.ext_iff]
 rw [e]
theorem sim_fld{H:HanM}{G:HanL}(h:SimH H G)(cl ha co n p0:Int): doFldO H cl ha co n p0=doFldR G cl ha co n p0:=by
 unfold doFldO doFldR
 by_cases h1:co=1
 ·rw [if_pos h1,decide_eq_true h1]; rfl
 ·rw [if_neg h1,decide_eq_false h1,Bool.false_or]
  unfold fldVO
  have:=h (cl,ha)
  rw [←fnd_kget G] at this
  cases hk:kget H (cl,ha) with
  | none=>
   rw [hk] at this
   cases hf:fndL G cl ha with
   | none=>rfl
   | some v=>rw [hf] at this; cases this
  | some p=>
   rw [hk] at this
   cases hf:fndL G cl ha with
   | none=>rw [hf] at this; cases this
   | some v=>
    rw [hf] at this
    simp only [Option.map_some,Option.some.injEq] at this
    show fldV p.xs p0 co n=fldV v.2.xs p0 co n
    rw [this]
end Go.Proofs.YthijdhenekmojaaGreatDoor
/- The model and the document's: what is pinned; what stays (plain). -/
set_option linter.unusedSimpArgs false
namespace Go.Proofs.YthijdhenekmojaaGreatDoor
open Go.Sx
theorem sim_pin{T:TopM}{L:TopL}(h:Sim T L){H:HanM}{G:HanL}(hH:SimH H G){ke cl co n:Int}{x:RH}{y:RHL}(hx:doPinR T H ke cl co n x)(hy:pinL L G cl ke n co y): x.b=y.b∧SimH x.H y.H:=by
 unfold doPinR at hx
 unfold pinL at hy
 by_cases hm:mayB ke=false
 ·rw [if_pos hm] at hx hy
  subst hx; subst hy
  exact⟨rfl,hH⟩
 ·rw [if_neg hm] at hx hy
  obtain⟨hb,hHx⟩:=hx
  unfold pinB at hb
  rw [h.at_some] at hb hHx
  by_cases ha:atL L ke≥0
  ·have hg:=h.at_get ha
   have h1:=congrArg Prod.fst hg
   have h2:=congrArg Prod.snd hg
   simp only [vX] at h1 h2
   have hna:¬atL L ke<0:=by omega
   generalize hq:(kget T ke).getD (false,.nil)=q at *
   generalize hz:(L.getD (atL L ke).toNat tN).2=z at *
   rw [h1] at hb hHx
   rw [h2] at hb hHx
   rw [decide_eq_true ha] at hb hHx
   obtain⟨lg,p⟩:=z
   simp only at hb hHx hy h1 h2
   by_cases hgo:co=0∧lg=true∧((p.xs.length:Nat):Int)>0
   ·rw [if_pos ⟨hgo.1,ha,hgo.2.1,hgo.2.2⟩] at hy
    obtain⟨rfl,rfl,hl⟩:=hgo
    subst hy
    have hl':decide (((p.xs.length:Nat):Int)>0)=true:=decide_eq_true hl
    rw [hl'] at hb hHx
    refine⟨by rw [hb]; rfl, ?_⟩
    intro k
    rw [hHx]
    simp only [decide_true,Bool.and_self,if_true]
    show Option.map _ (kget (kset H (cl,n) q.2) k)=Option.map _ (kget (((cl,n),p) :: G) k)
    rw [kget_kset,kget_cons]
    by_cases hk:(cl,n)=k
    ·rw [if_pos hk,if_pos hk]
     simp only [Option.map_some,h2]
    ·rw [if_neg hk,if_neg hk]; exact hH k
   ·rw [if_neg (fun w=>hgo ⟨w.1,w.2.2.1,w.2.2.2⟩)] at hy
    subst hy
    have hf:(decide (co=0)&&(true&&lg&&decide (((p.xs.length:Nat):Int)>0)))=false:=by
     cases hw:(decide (co=0)&&(true&&lg&&decide (((p.xs.length:Nat):Int)>0))) with
     | false=>rfl
     | true=>
      simp only [Bool.and_eq_true,decide_eq_true_eq,Bool.true_and] at hw
      exact absurd ⟨hw.1,hw.2.1,hw.2.2⟩ hgo
    rw [hf] at hHx
    simp only [Bool.false_eq_true,if_false] at hHx
    refine⟨?_,by rw [hHx]; exact hH⟩
    rw [hb]
    by_cases h0:co=0
    ·subst h0
     rw [if_pos rfl]
     have hf':(true&&lg&&decide (((p.xs.length:Nat):Int)>0))=false:=by simpa using hf
     rw [hf']
     simp
    ·rw [if_neg h0]
     by_cases h12:co=12
     ·subst h12; simp [hna]
     ·rw [if_neg h12]
      by_cases h24:co=24
      ·subst h24; simp [ha]
      ·rw [if_neg h24]
       by_cases h20:co=20
       ·subst h20
        rw [if_pos rfl,Bool.eq_iff_iff]
        simp [ha]
       ·rw [if_neg h20,Bool.eq_iff_iff]
        simp [h12,h24,h20]
        omega
  ·have hna:atL L ke<0:=by omega
   rw [decide_eq_false ha] at hb hHx
   rw [if_neg (fun w=>ha w.2.1)] at hy
   subst hy
   simp only [Bool.false_and,Bool.and_false,Bool.false_eq_true,if_false] at hHx
   refine⟨?_,by rw [hHx]; exact hH⟩
   rw [hb]
   by_cases h0:co=0
   ·subst h0; simp [ha]
   ·rw [if_neg h0]
    by_cases h12:co=12
    ·subst h12; simp [hna]
    ·rw [if_neg h12]
     by_cases h24:co=24
     ·subst h24; simp [ha]
     ·rw [if_neg h24]
      by_cases h20:co=20
      ·subst h20; simp [ha]
      ·rw [if_neg h20,Bool.eq_iff_iff]
       simp [h12,h24,h20]
       omega
end Go.Proofs.YthijdhenekmojaaGreatDoor
/- The model and the document's: step by step (plain). -/
set_option linter.unusedSimpArgs false
namespace Go.Proofs.YthijdhenekmojaaGreatDoor
open Go.Sx
theorem kset_sub{κ β : Type}[DecidableEq κ](l:List (κ×β))(k : κ)(v : β): ∀x∈kset l k v,x∈l∨x=(k,v):=by
 induction l with
 | nil=>intro x hx; right; simpa [kset] using hx
 | cons y l ih=>
  rw [kset_cons]
  intro x hx
  by_cases h:y.1=k
  ·rw [if_pos h] at hx
   rcases List.mem_cons.1 hx with hx | hx
   ·exact .inr hx
   ·exact .inl (List.mem_cons_of_mem _ hx)
  ·rw [if_neg h] at hx
   rcases List.mem_cons.1 hx with hx | hx
   ·exact .inl (hx▸List.mem_cons_self ..)
   ·exact(ih x hx).imp (List.mem_cons_of_mem _) id
structure Inv (c:Cfg) (T:TopM) (H:HanM) (ps:List PRow) (L:TopL) (G:HanL) (qs:List PRow):Prop where
 sim:Sim T L
 simh:SimH H G
 len:(L.length:Int)≤c.topics
 lk:∀x∈L,1≤x.1∧x.1≤2147483647
 lok:LOk L qs
 lsz:LSz c L
 lw:∀x∈L,WRng x.2.2.xs
 hok:HOk G qs
 pool:PoolOk T H ps
theorem WRng.nil: WRng []:=fun i=>by simp
theorem Inv.tok{c:Cfg}{T:TopM}{H:HanM}{ps:List PRow}{L:TopL}{G:HanL}{qs:List PRow}(h:Inv c T H ps L G qs)(hc:c.Ok): TOkS c T:=by
 have key:∀k,(∃v,kget L k=some v∧vX ((kget T k).getD (false,.nil))=vX v)∨kget T k=none:=by
  intro k
  have he:=h.sim.eq k
  cases hT:kget T k with
  | none=>exact .inr rfl
  | some u=>
   rw [hT] at he
   cases hL:kget L k with
   | none=>rw [hL] at he; cases he
   | some v=>rw [hL] at he; exact .inl ⟨v,rfl,by simpa using he⟩
 have hz:∀k v,kget L k=some v→SzOk c v.1 v.2.xs:=fun k v hv=>h.lsz _ (kget_mem' hv)
 have hc':=hc
 simp only [Cfg.Ok] at hc
 refine⟨?_, ?_, ?_⟩
 ·intro k
  rcases key k with ⟨v,hv,he⟩ | hn
  ·have h2:=congrArg Prod.snd he
   simp only [vX] at h2
   rw [h2]
   have:=(hz k v hv).1
   omega
  ·rw [hn]; simp [PRow.nil]
 ·intro k hl
  rcases key k with ⟨v,hv,he⟩ | hn
  ·have h1:=congrArg Prod.fst he
   have h2:=congrArg Prod.snd he
   simp only [vX] at h1 h2
   rw [h1] at hl
   rw [h2]
   exact(hz k v hv).2.1 hl
  ·rw [hn]; simp [PRow.nil]; omega
 ·intro k hl h0
  rcases key k with ⟨v,hv,he⟩ | hn
  ·have h1:=congrArg Prod.fst he
   have h2:=congrArg Prod.snd he
   simp only [vX] at h1 h2
   rw [h1] at hl
   rw [h2] at h0 ⊢
   rcases (hz k v hv).2.2 hl with q | q | q
   ·omega
   ·exact .inl q.1
   ·exact .inr q.1
  ·rw [hn] at hl; cases hl
theorem Inv.inT{c:Cfg}{T:TopM}{H:HanM}{ps:List PRow}{L:TopL}{G:HanL}{qs:List PRow}(h:Inv c T H ps L G qs): ∀x∈T,InK .i64 x.1:=by
 intro x hx
 have h1:=kget_of_mem h.sim.nd (k:=x.1) (v:=x.2) hx
 have h2:=h.sim.some x.1
 rw [h1] at h2
 obtain⟨v,hv⟩:=Option.isSome_iff_exists.1 h2.symm
 have:=h.lk _ (kget_mem' hv)
 simp only at this
 simp only [InK]
 omega
theorem Inv.hokm{c:Cfg}{T:TopM}{H:HanM}{ps:List PRow}{L:TopL}{G:HanL}{qs:List PRow}(h:Inv c T H ps L G qs): HOkM H ps:=by
 intro k p hp
 have he:=h.simh k
 rw [hp] at he
 cases hG:kget G k with
 | none=>rw [hG] at he; cases he
 | some v=>
  rw [hG] at he
  have e:p.xs=v.xs:=by simpa using he
  have hv:=h.hok _ (kget_mem' hG)
  exact⟨h.pool.2 _ (kget_mem' hp),by rw [e]; exact hv.2.1,by rw [e]; exact hv.2.2.2⟩
theorem HOk.mono{G:HanL}{qs rs:List PRow}(h:HOk G qs): HOk G (qs++rs):=fun x hx=>by
 obtain⟨h1,h2⟩:=h x hx
 exact⟨h1.imp id (List.mem_append_left _),h2⟩
theorem LOk.mono{L:TopL}{qs rs:List PRow}(h:LOk L qs): LOk L (qs++rs):=fun x hx=>by
 obtain⟨h1,h2⟩:=h x hx
 exact⟨h1.imp id (List.mem_append_left _),h2⟩
theorem szok_fit{c:Cfg}(hc:c.Ok){lg:Bool}{xs:List Int}(hl:xs.length≤9)(hf:fitT c lg xs.length=true): SzOk c lg xs:=by
 simp only [Cfg.Ok] at hc
 refine⟨by omega, ?_, ?_⟩
 ·intro h
  subst h
  simpa [fitT] using hf
 ·intro h
  subst h
  right
  simp only [fitT,if_true,decide_eq_true_eq] at hf
  unfold fitsC at hf ⊢
  split at hf
  ·omega
  ·rename_i h1
   rw [if_neg h1]
   split at hf
   ·rename_i h2
    rw [if_pos h2]
    exact .inl ⟨rfl,by omega⟩
   ·rename_i h2
    rw [if_neg h2]
    split at hf
    ·rename_i h3
     rw [if_pos h3]
     exact .inr ⟨rfl,by omega⟩
    ·omega
end Go.Proofs.YthijdhenekmojaaGreatDoor
/- The model and the document's: one op (plain). -/
set_option linter.unusedSimpArgs false
namespace Go.Proofs.YthijdhenekmojaaGreatDoor
open Go.Sx
theorem may_rng{ke:Int}(h:¬mayB ke=false): 1≤ke∧ke≤2147483647:=by
 simp only [mayB] at h
 simpa using h
theorem inv_create{c:Cfg}(hc:c.Ok){T:TopM}{H:HanM}{ps:List PRow}{L:TopL}{G:HanL}{qs:List PRow}(h:Inv c T H ps L G qs){ke co:Int}{la:Bool}{x:RL}(hx:creR c L ke la co x):
  (createM c T ke la co).b=x.b∧Inv c (createM c T ke la co).T H ps x.L G qs:=by
 obtain⟨h1,h2,h3⟩:=sim_create h.sim h.len hx
 have hc0:=hc
 simp only [Cfg.Ok] at hc
 have hsub:∀y∈x.L,y∈L∨(y=(ke,la,.nil)∧1≤ke∧ke≤2147483647):=by
  intro y hy
  unfold creR at hx
  by_cases hm:mayB ke=false
  ·rw [if_pos hm] at hx; subst hx; exact .inl hy
  ·rw [if_neg hm] at hx
   split at hx
   ·obtain⟨_,i,_,_,_,he⟩:=hx
    rw [he] at hy
    rcases List.mem_append.1 hy with hy | hy
    ·rcases List.mem_append.1 hy with hy | hy
     ·exact .inl (List.mem_of_mem_take hy)
     ·exact .inr ⟨List.mem_singleton.1 hy,may_rng hm⟩
    ·exact .inl (List.mem_of_mem_drop hy)
   ·subst hx; exact .inl hy
 have hT:∀y∈(createM c T ke la co).T,y∈T∨y=(ke,la,.nil):=by
  intro y hy
  unfold createM at hy
  split at hy
  ·exact .inl hy
  ·split at hy
   ·split at hy
    ·exact .inl hy
    ·exact kset_sub _ _ _ y hy
   ·split at hy
    ·exact .inl hy
    ·split at hy <;> exact .inl hy
 refine⟨h1,h2,h.simh,h3, ?_, ?_, ?_, ?_,h.hok, ?_,h.pool.2⟩
 ·intro y hy
  rcases hsub y hy with hy | ⟨rfl,q⟩
  ·exact h.lk y hy
  ·exact q
 ·intro y hy
  rcases hsub y hy with hy | ⟨rfl,q⟩
  ·exact h.lok y hy
  ·exact⟨.inl rfl,by simp [PRow.nil]⟩
 ·intro y hy
  rcases hsub y hy with hy | ⟨rfl,q⟩
  ·exact h.lsz y hy
  ·exact⟨by simp [PRow.nil],fun _=>by simp [PRow.nil]; omega,fun _=>.inl rfl⟩
 ·intro y hy
  rcases hsub y hy with hy | ⟨rfl,q⟩
  ·exact h.lw y hy
  ·exact WRng.nil
 ·intro y hy
  rcases hT y hy with hy | rfl
  ·exact h.pool.1 y hy
  ·exact .inl rfl
theorem inv_remove{c:Cfg}{T:TopM}{H:HanM}{ps:List PRow}{L:TopL}{G:HanL}{qs:List PRow}(h:Inv c T H ps L G qs){ke co:Int}{x:RL}(hx:remR L ke co x):
  (removeM T ke co).b=x.b∧Inv c (removeM T ke co).T H ps x.L G qs:=by
 obtain⟨h1,h2,h3⟩:=sim_remove h.sim hx
 have hsub:∀y∈x.L,y∈L:=by
  intro y hy
  unfold remR at hx
  split at hx
  ·subst hx; exact hy
  ·split at hx
   ·subst hx
    rcases List.mem_append.1 hy with hy | hy
    ·exact List.mem_of_mem_take (by simpa using hy)
    ·exact List.mem_of_mem_drop hy
   ·subst hx; exact hy
 have hT:∀y∈(removeM T ke co).T,y∈T:=by
  intro y hy
  unfold removeM at hy
  split at hy
  ·exact hy
  ·split at hy
   ·exact kdel_sub _ _ y hy
   ·split at hy <;> exact hy
 have hlen:=h.len
 exact⟨h1,h2,h.simh,by omega,fun y hy=>h.lk y (hsub y hy),fun y hy=>h.lok y (hsub y hy),fun y hy=>h.lsz y (hsub y hy),fun y hy=>h.lw y (hsub y hy),h.hok,fun y hy=>h.pool.1 y (hT y hy),h.pool.2⟩
theorem inv_pub{c:Cfg}(hc:c.Ok){T:TopM}{H:HanM}{ps:List PRow}{L:TopL}{G:HanL}{qs:List PRow}(h:Inv c T H ps L G qs){ke co:Int}{ws:List Int}{p:PRow}(hp:p.xs=ws)(hl:ws.length≤9)(hw:WRng ws){x:RQ}{y:RL}(hx:doPubR c T ps ke ws co x)(hy:pubL c L ke p co y):
  x.b=y.b∧Inv c x.T H x.ps y.L G (qs++[p]):=by
 obtain⟨h1,h2,h3⟩:=sim_pub h.sim hp hx hy
 have hlen:=h.len
 have hsub:∀z∈y.L,z∈L∨∃e,e∈L∧z=(e.1,e.2.1,p)∧fitT c e.2.1 p.xs.length=true:=by
  intro z hz
  unfold pubL at hy
  split at hy
  ·subst hy; exact .inl hz
  ·split at hy
   ·rename_i hg
    subst hy
    simp only [List.nil_append] at hz
    rcases List.mem_or_eq_of_mem_set hz with hz | hz
    ·exact .inl hz
    ·right
     have hf:=hg.2
     unfold fitL at hf
     simp only [Bool.and_eq_true,decide_eq_true_eq] at hf
     have hat:=at_lt L ke
     have hlt:(atL L ke).toNat<L.length:=by omega
     have e:L.getD (atL L ke).toNat tN=L[(atL L ke).toNat]:=by simp [hlt]
     rw [e] at hz hf
     exact⟨_,List.getElem_mem hlt,hz,hf.2⟩
   ·subst hy; exact .inl hz
 have hpool:PoolOk x.T H x.ps:=by
  unfold doPubR at hx
  split at hx
  ·subst hx; exact h.pool
  ·obtain⟨_,hx⟩:=hx
   split at hx
   ·obtain⟨q,_,hT,hps⟩:=hx
    rw [hT,hps]
    refine⟨?_,fun z hz=>(h.pool.2 z hz).imp id (List.mem_append_left _)⟩
    intro z hz
    rcases kset_sub _ _ _ z hz with hz | rfl
    ·exact(h.pool.1 z hz).imp id (List.mem_append_left _)
    ·exact .inr (by simp)
   ·rw [hx.1,hx.2]; exact h.pool
 refine⟨h1,h2,h.simh,by omega, ?_, ?_, ?_, ?_,h.hok.mono,hpool⟩
 ·intro z hz
  rcases hsub z hz with hz | ⟨e,he,rfl,_⟩
  ·exact h.lk z hz
  ·exact h.lk e he
 ·intro z hz
  rcases hsub z hz with hz | ⟨e,he,rfl,_⟩
  ·exact h.lok.mono z hz
  ·exact⟨.inr (by simp),by simp only; rw [hp]; omega⟩
 ·intro z hz
  rcases hsub z hz with hz | ⟨e,he,rfl,hf⟩
  ·exact h.lsz z hz
  ·exact szok_fit hc (by rw [hp]; exact hl) hf
 ·intro z hz
  rcases hsub z hz with hz | ⟨e,he,rfl,_⟩
  ·exact h.lw z hz
  ·simp only; rw [hp]; exact hw
theorem inv_pin{c:Cfg}{T:TopM}{H:HanM}{ps:List PRow}{L:TopL}{G:HanL}{qs:List PRow}(h:Inv c T H ps L G qs){ke cl co n:Int}{x:RH}{y:RHL}(hx:doPinR T H ke cl co n x)(hy:pinL L G cl ke n co y):
  x.b=y.b∧Inv c T x.H ps L y.H qs∧y.H.length≤G.length+1:=by
 obtain⟨h1,h2⟩:=sim_pin h.sim h.simh hx hy
 have hsub:(∀z∈y.H,z∈G∨∃e,e∈L∧z.2=e.2.2∧0<e.2.2.xs.length)∧y.H.length≤G.length+1:=by
  unfold pinL at hy
  split at hy
  ·subst hy; exact⟨fun z hz=>.inl hz,by simp⟩
  ·split at hy
   ·rename_i hg
    subst hy
    refine⟨?_,by simp⟩
    intro z hz
    rcases List.mem_append.1 hz with hz | hz
    ·right
     have hat:=at_lt L ke
     have hlt:(atL L ke).toNat<L.length:=by omega
     have e:L.getD (atL L ke).toNat tN=L[(atL L ke).toNat]:=by simp [hlt]
     rw [e] at hz hg
     refine⟨_,List.getElem_mem hlt,by rw [List.mem_singleton.1 hz],by have:=hg.2.2.2; omega⟩
    ·exact .inl hz
   ·subst hy; exact⟨fun z hz=>.inl hz,by simp⟩
 have hpool:PoolOk T x.H ps:=by
  refine⟨h.pool.1, ?_⟩
  unfold doPinR at hx
  split at hx
  ·subst hx; exact h.pool.2
  ·obtain⟨_,hx⟩:=hx
   split at hx
   ·rename_i hg
    rw [hx]
    intro z hz
    rcases kset_sub _ _ _ z hz with hz | rfl
    ·exact h.pool.2 z hz
    ·cases hk:kget T ke with
     | none=>exact .inl (by simp)
     | some v=>exact h.pool.1 _ (kget_mem' hk)
   ·rw [hx]; exact h.pool.2
 refine⟨h1,⟨h.sim,h2,h.len,h.lk,h.lok,h.lsz,h.lw, ?_,hpool⟩,hsub.2⟩
 intro z hz
 rcases hsub.1 z hz with hz | ⟨e,he,hz,h0⟩
 ·exact h.hok z hz
 ·rw [hz]
  have hl:=h.lok e he
  exact⟨hl.1,h.lw e he,h0,by omega⟩
end Go.Proofs.YthijdhenekmojaaGreatDoor
/- The model and the document's: a step of both (plain). -/
set_option linter.unusedSimpArgs false
namespace Go.Proofs.YthijdhenekmojaaGreatDoor
open Go.Sx
theorem wrng_of{ws:List Int}(h:∀w∈ws,0≤w∧w≤4294967295): WRng ws:=by
 intro i
 by_cases hi:i<ws.length
 ·have e:ws.getD i 0=ws[i]:=by simp [hi]
  rw [e]
  exact h _ (List.getElem_mem hi)
 ·have e:ws.getD i 0=0:=by simp [hi]
  rw [e]; omega
theorem inv_step{c:Cfg}(hc:c.Ok){T:TopM}{H:HanM}{ps:List PRow}{L:TopL}{G:HanL}{qs:List PRow}(h:Inv c T H ps L G qs){d:DR}(hd:DOk d){la:Bool}{x:RO}{y:RR}(hx:StepO c T H ps la d x)(hy:StepR c L G qs la d y):
  x.b=y.b∧Inv c x.T x.H x.ps y.L y.H y.ps∧y.H.length≤G.length+1:=by
 obtain⟨⟨hk0,hk9,ha0,ha3,hn0,hn3,hws,hww,h6,h6n⟩,hrw,hrk⟩:=hd
 have hcase:d.ki=0∨d.ki=1∨d.ki=2∨d.ki=3∨d.ki=4∨d.ki=5∨d.ki=6∨d.ki=7∨d.ki=8∨d.ki=9:=by omega
 obtain⟨x0,x1,x2,x3,x4,x5,x6,x7,x8,x9⟩:=hx
 obtain⟨y0,y1,y2,y3,y4,y5,y6,y7,y8,y9⟩:=hy
 rcases hcase with k | k | k | k | k | k | k | k | k | k
 ·have a:=x0 k; have b:=y0 k
  subst a; subst b
  exact⟨rfl,h,Nat.le_succ _⟩
 ·have a:=x1 k; have b:=y1 k
  subst a
  obtain⟨yb,yL,yH,yp⟩:=y
  obtain⟨b1,b2,b3⟩:=b
  simp only at b2 b3
  subst b2; subst b3
  obtain⟨q1,q2⟩:=inv_create hc h b1
  exact⟨q1,q2,Nat.le_succ _⟩
 ·have a:=x2 k; have b:=y2 k
  subst a
  obtain⟨yb,yL,yH,yp⟩:=y
  obtain⟨b1,b2,b3⟩:=b
  simp only at b2 b3
  subst b2; subst b3
  obtain⟨q1,q2⟩:=inv_remove h b1
  exact⟨q1,q2,Nat.le_succ _⟩
 ·have a:=x3 k; have b:=y3 k
  obtain⟨xb,xT,xH,xp⟩:=x
  obtain⟨yb,yL,yH,yp⟩:=y
  obtain⟨a1,a2⟩:=a
  obtain⟨p,hp,b1,b2,b3⟩:=b
  simp only at a1 b2 b3
  subst a1; subst b2; subst b3
  obtain⟨q1,q2⟩:=inv_pub hc h hp hws (wrng_of hww) a2 b1
  exact⟨q1,q2,Nat.le_succ _⟩
 ·have a:=x4 k; have b:=y4 k
  subst a; subst b
  exact⟨sim_read h.sim _ _ _,h,Nat.le_succ _⟩
 ·have a:=x5 k; have b:=y5 k
  obtain⟨xb,xT,xH,xp⟩:=x
  obtain⟨yb,yL,yH,yp⟩:=y
  obtain⟨a1,a2,a3⟩:=a
  obtain⟨b1,b2,b3⟩:=b
  simp only at a1 a2 b2 b3
  subst a1; subst a2; subst b2; subst b3
  exact inv_pin h a3 b1
 ·obtain⟨p0,p1,hp,a⟩:=x6 k
  obtain⟨r0,r1,hr,b⟩:=y6 k
  rw [hp] at hr
  simp only [List.cons.injEq,and_true] at hr
  obtain⟨e0,e1⟩:=hr
  subst e0
  subst a; subst b
  exact⟨sim_fld h.simh _ _ _ _ _,h,Nat.le_succ _⟩
 ·have a:=x7 k; have b:=y7 k
  subst a; subst b
  exact⟨rfl,h,Nat.le_succ _⟩
 ·have a:=x8 k; have b:=y8 k
  subst a; subst b
  refine⟨?_,h,Nat.le_succ _⟩
  show decide _ = decide _
  rw [h.sim.keys]
  rw [decide_eq_decide]
  constructor
  ·rintro(⟨u,v⟩ | u)
   ·exact .inl ⟨u,v.symm⟩
   ·exact .inr u
  ·rintro(⟨u,v⟩ | u)
   ·exact .inl ⟨u,v.symm⟩
   ·exact .inr u
 ·have a:=x9 k; have b:=y9 k
  subst a; subst b
  exact⟨rfl,h,Nat.le_succ _⟩
theorem inv_new{c:Cfg}(hc:c.Ok): Inv c [] [] [] [] [] []:=by
 simp only [Cfg.Ok] at hc
 exact⟨⟨by simp,by simp,fun _=>rfl⟩,fun _=>rfl,by simp; omega,fun _ h=>(by cases h),fun _ h=>(by cases h),fun _ h=>(by cases h),fun _ h=>(by cases h),fun _ h=>(by cases h),⟨fun _ h=>(by cases h),fun _ h=>(by cases h)⟩⟩
end Go.Proofs.YthijdhenekmojaaGreatDoor
/- Rows compared, of the two models' pools. -/
set_option linter.unusedSimpArgs false
set_option maxRecDepth 100000
set_option maxHeartbeats 0
namespace Go.Proofs.YthijdhenekmojaaGreatDoor
open Go.Sx
theorem t_sameRR(xs ys:List Int)(z y:Sx.Rest)(n m:Nat)(hn:xs.length=n)(hm:m≤ys.length)(hl:xs.length≤1000000): Ct Tryz.prog 19 (sB [.s (.s 0 n),.s (.s 1 m)] [.rd 0 (Go.Sx.encI .u64) 0 1 xs 42 z,.rd 1 (Go.Sx.encI .u64) 0 1 ys 42 y] 2 (decide (ys.take m=xs)) [.rd 0 (Go.Sx.encI .u64) 0 1 xs 42 z,.rd 1 (Go.Sx.encI .u64) 0 1 ys 42 y]):=by
 subst hn
 refine cX 26 xlI Tryz.func19 fun g F => ?_
 refine xB ((↑xs.length:Int) != (↑m:Int)) (fun h1 => ?_) (fun h1 => ?_)
 ·skip
  replace h1:=ntT h1
  replace h1:=decF h1
  exact xR (false) ((decide_eq_false (fun h=>by have:=congrArg List.length h; simp at this; omega)).symm)
 ·skip
  replace h1:=ntF h1
  replace h1:=decT h1
  refine xLoop xlI Tryz.func19 [0,1,0,1,1] [.b 0,.c [1,1,1]] [0,1,5] [0,1] (fun i:Nat=>[(0,.slice (g 0).a xs.length (g 0).c),(1,.slice (g 1).a m (g 1).c),(5,.int .i64 i)]) (fun _=>[(0,.i 0),(1,.i 1)]) (fun _=>[.rd (g 0).a (g 0).c (Go.Sx.encI .u64) 0 1 xs 42 z,.rd (g 1).a (g 1).c (Go.Sx.encI .u64) 0 1 ys 42 y]) (fun _=>⟨[(0,[]),(1,[])],2⟩) (fun i=>i≤xs.length∧ys.take i=xs.take i) (fun i=>xs.length-i) 0 ⟨by omega,rfl⟩ (fun i J hI hJ => ?_)
  refine xB (decide ((↑i:Int)<(↑xs.length:Int))) (fun h2 => ?_) (fun h2 => ?_)
  ·skip
   replace h2:=decT h2
   refine xO (xs.length≤xs.length∧(0:Int)≤(↑i:Int)∧(↑i:Int)<(↑xs.length:Int)) (by omega) ?_
   refine xO ((↑i:Int).toNat<xs.length) (by omega) ?_
   refine xO (m≤ys.length∧(0:Int)≤(↑i:Int)∧(↑i:Int)<(↑m:Int)) (by omega) ?_
   refine xO ((↑i:Int).toNat<ys.length) (by omega) ?_
   refine xB (xs.getD i 0 != ys.getD i 0) (fun h3 => ?_) (fun h3 => ?_)
   ·skip
    replace h3:=ntT h3
    replace h3:=decF h3
    exact xR (false) ((decide_eq_false (take_ne (i:=i) (by omega) (by omega) (Ne.symm (by assumption)))).symm)
   ·skip
    replace h3:=ntF h3
    replace h3:=decT h3
    refine xO (InK IntKind.i64 (↑i+1)) (by simp only [InK] at *; omega) ?_
    exact xJ hJ (i+1) (by omega) ⟨by omega,take_step hI.2 (by omega) (by omega) (Eq.symm (by assumption))⟩
  ·skip
   replace h2:=decF h2
   exact xR (true) ((decide_eq_true (by have hi:i=m:=(by omega); subst hi; rw [hI.2,List.take_of_length_le (by omega)])).symm)
theorem t_sameHL(xs:List Int)(z:Sx.Rest)(G:HanL)(qs:List PRow)(p:PRow)(hp:p=PRow.nil∨p∈qs)(n:Nat)(hn:xs.length=n)(hl:xs.length≤1000000):
  Ct Tryz.prog 19 (sB [.s (.s 0 n),.s (.o (.slice p.a p.xs.length p.c))] [.rd 0 (Go.Sx.encI .u64) 0 1 xs 42 z,hlR G qs] 3 (decide (p.xs=xs)) [.rd 0 (Go.Sx.encI .u64) 0 1 xs 42 z,hlR G qs]):=by
 intro g
 have hin:=t_sameRR xs p.xs z p.r n p.xs.length hn (Nat.le_refl _) hl (fun | 0=>g 0 | _=>⟨0,p.a,p.c⟩)
 rw [List.take_of_length_le (Nat.le_refl _)] at hin
 refine ctr_fr (M:=[.sl (g 2).a (g 2).c encH hN 3 G 101,.res (PoolX 42 qs p)]) ?_ hin ?_
 ·refine view_trans (view_part [1] (by kernel_rfl) (by kernel_rfl) (hl_open (a:=(g 2).a) (c:=(g 2).c) (H:=G) (ps:=qs))) ?_
  refine view_trans (view_part [2] (by kernel_rfl) (by kernel_rfl) (pv_open (t:=42) (ps:=qs) (p:=p) hp)) ?_
  exact view_pick [0,3,1,2] (by kernel_rfl)
 ·rintro v post ⟨x,ν,hx,rfl,rfl⟩
  refine⟨[.rd 0 (Go.Sx.encI .u64) 0 1 xs 42 z,hlR G qs].map (SE.e g), ?_,x,ν,hx,rfl,rfl⟩
  refine view_trans (view_part [1,3] (by kernel_rfl) (by kernel_rfl) (pv_close (t:=42) (ps:=qs) (p:=p))) ?_
  refine view_trans (view_part [0,2] (by kernel_rfl) (by kernel_rfl) (hl_fold (a:=(g 2).a) (c:=(g 2).c) (H:=G) (ps:=qs))) ?_
  exact view_pick [0,1] (by kernel_rfl)
theorem t_dB(ki ke co n cl cm bf af:Int)(ws ks:List Int)(a0 a1:Option Addr)(c0 c1:Nat)(la ty fa fi:Bool)(hw:ws.length≤maxLen)(hk:ks.length≤maxLen)(F:Fr)(hr0:RowF F a0 .i64 ws)(hr1:RowF F a1 .i64 ks)
  (c:Cfg) (sv:Value) (L:TopL) (H:HanL) (ps:List PRow) (hL:LOk L ps) (hl:L.length≤100):CtF Tryz.prog F 12 (dB ki ke co n cl cm bf af ws ks a0 a1 c0 c1 la ty fa fi c sv L H ps):=by
 by_cases h6:(ki.tmod 10+10).tmod 10=6
 ·exact t_dB6 ki ke co n cl cm bf af ws ks a0 a1 c0 c1 la ty fa fi hw hk F hr0 hr1 c sv L H ps hL hl h6
 ·exact t_dB0 ki ke co n cl cm bf af ws ks a0 a1 c0 c1 la ty fa fi hw hk F hr0 hr1 c sv L H ps hL hl h6
end Go.Proofs.YthijdhenekmojaaGreatDoor
/- The model: what is read, if it isn't told to be there. -/
set_option linter.unusedSimpArgs false
set_option maxRecDepth 100000
set_option maxHeartbeats 0
namespace Go.Proofs.YthijdhenekmojaaGreatDoor
open Go.Sx
def readN(T:TopM)(ke:Int)(co:Int): Bool:=
 if mayB ke=false then co==1 else
 if co=12 then !(kget T ke).isSome else if co=20 then(kget T ke).isSome&&((((kget T ke).getD (false,.nil)).2.xs.length:Int)==0) else decide (co=19∨co=17)
theorem t_readN(c:Cfg)(hc:c.Ok)(T:TopM)(mt:Nat)(sv hv:Value)(cl ke:Int)(la:Bool)(wo pa rw rk:Value)(ha co n cm fr to_:Int)(hco:co≠0):
  Ct Tryz.prog 13 (⟨[.s (.p 0 0),.g (dS cl 4 ke la (.o wo) ha (.o pa) co (.o rw) (.o rk) n cm fr to_)],[mdl c (.o sv) (.o hv) mt,topR mt T],2,
   fun x=>x=readN T ke co,fun x=>[.s (.bo x)],fun x=>[mdl c (.o sv) (.o hv) mt,topR mt T]⟩:Sp Bool):=by
 refine cX 148 xbI Tryz.func13 fun g F => ?_
 refine xN fun b1 => ?_
 refine xC Tryz.call31 (t_start (c) (by omega) (ke)) fun xn2 n2 hxn2 => ?_
 refine xB (decide (xn2<0)) (fun h3 => ?_) (fun h3 => ?_)
 ·skip
  replace h3:=decT h3
  exact xR (co==1) (by have hm:=hxn2.1 (by assumption); simp [readN,hm])
 ·skip
  replace h3:=decF h3
  refine xA ?_ ?_
  ·skip
   refine xMg 1 (mt) (T) (evT) kI (ke) (false,PRow.nil) true ?_
   refine xN fun b4 => ?_
   refine xN fun b5 => ?_
   refine xN fun b6 => ?_
   refine xF (co==0) (by first | (simp; done) | (simp; omega)) ?_
   refine xB (co==12) (fun h7 => ?_) (fun h7 => ?_)
   ·skip
    replace h7:=decT h7
    exact xR (!(kget T ke).isSome) (by have hm:=may_of hxn2 (by assumption); simp [readN,hm, *])
   ·skip
    replace h7:=decF h7
    refine xB (co==20) (fun h8 => ?_) (fun h8 => ?_)
    ·skip
     replace h8:=decT h8
     refine xB ((kget T ke).isSome) (fun h9 => ?_) (fun h9 => ?_)
     ·skip
      exact xR ((↑((kget T ke).getD (false,PRow.nil)).snd.xs.length:Int)==(0:Int)) (by have hm:=may_of hxn2 (by assumption); simp [readN,hm, *])
     ·skip
      exact xR (false) (by have hm:=may_of hxn2 (by assumption); simp [readN,hm, *])
    ·skip
     replace h8:=decF h8
     refine xB (co==19) (fun h10 => ?_) (fun h10 => ?_)
     ·skip
      replace h10:=decT h10
      exact xR (true) (by have hm:=may_of hxn2 (by assumption); simp [readN,hm, *])
     ·skip
      replace h10:=decF h10
      refine xB (co==17) (fun h11 => ?_) (fun h11 => ?_)
      ·skip
       replace h11:=decT h11
       exact xR (true) (by have hm:=may_of hxn2 (by assumption); simp [readN,hm, *])
      ·skip
       replace h11:=decF h11
       exact xR (false) (by have hm:=may_of hxn2 (by assumption); simp [readN,hm, *])
  ·skip
   refine xN fun b12 => ?_
   refine xMg 1 (mt) (T) (evT) kI (ke) (false,PRow.nil) true ?_
   refine xN fun b13 => ?_
   refine xN fun b14 => ?_
   refine xF (co==0) (by first | (simp; done) | (simp; omega)) ?_
   refine xB (co==12) (fun h15 => ?_) (fun h15 => ?_)
   ·skip
    replace h15:=decT h15
    exact xR (!(kget T ke).isSome) (by have hm:=may_of hxn2 (by assumption); simp [readN,hm, *])
   ·skip
    replace h15:=decF h15
    refine xB (co==20) (fun h16 => ?_) (fun h16 => ?_)
    ·skip
     replace h16:=decT h16
     refine xB ((kget T ke).isSome) (fun h17 => ?_) (fun h17 => ?_)
     ·skip
      exact xR ((↑((kget T ke).getD (false,PRow.nil)).snd.xs.length:Int)==(0:Int)) (by have hm:=may_of hxn2 (by assumption); simp [readN,hm, *])
     ·skip
      exact xR (false) (by have hm:=may_of hxn2 (by assumption); simp [readN,hm, *])
    ·skip
     replace h16:=decF h16
     refine xB (co==19) (fun h18 => ?_) (fun h18 => ?_)
     ·skip
      replace h18:=decT h18
      exact xR (true) (by have hm:=may_of hxn2 (by assumption); simp [readN,hm, *])
     ·skip
      replace h18:=decF h18
      refine xB (co==17) (fun h19 => ?_) (fun h19 => ?_)
      ·skip
       replace h19:=decT h19
       exact xR (true) (by have hm:=may_of hxn2 (by assumption); simp [readN,hm, *])
      ·skip
       replace h19:=decF h19
       exact xR (false) (by have hm:=may_of hxn2 (by assumption); simp [readN,hm, *])
end Go.Proofs.YthijdhenekmojaaGreatDoor
/- The chapter's example. -/
set_option linter.unusedSimpArgs false
set_option maxRecDepth 100000
set_option maxHeartbeats 0
namespace Go.Proofs.YthijdhenekmojaaGreatDoor
open Go.Sx
theorem aw1{t:Int}(h:1≤t∧t≤4): createM (cf t) [] 5 false 0=⟨true,[(5,false,.nil)]⟩:=by
 unfold createM
 rw [if_neg (by decide),if_pos rfl,if_neg]
 ·rfl
 ·rintro(h1 | h1)
  ·cases h1
  ·simp [cf] at h1; omega
theorem t_awake: Ct Tryz.prog 7 (sB [] [] 0 true []):=by
 refine cX 30 xaI Tryz.func7 fun g F => ?_
 refine xC Tryz.call9 (t_config (1)) fun xn1 n1 hxn1 => ?_
 refine xN fun b2 => ?_
 refine xN fun b3 => ?_
 refine xC Tryz.call8 (t_new (cf xn1) (cf_ok (by assumption))) fun xn5 n5 hxn5 => ?_
 refine xC Tryz.call13 (t_readN (cf xn1) (cf_ok (by assumption)) ([]) (xn5.mt) (Value.slice (some {block:=b3,off:=0}) 1 1) (Value.map (some xn5.mh)) (0) (5) (false) (Value.slice none 0 0) (Value.slice none 0 0) (Value.slice none 0 0) (Value.slice none 0 0) (0) (12) (0) (0) (0) (0) (by omega)) fun xn8 n8 hxn8 => ?_
 subst hxn8
 refine xC Tryz.call13 (t_create (cf xn1) (cf_ok (by assumption)) ([]) (xn5.mt) (Value.slice (some {block:=b3,off:=0}) 1 1) (Value.map (some xn5.mh)) (0) (5) (false) (Value.slice none 0 0) (Value.slice none 0 0) (Value.slice none 0 0) (Value.slice none 0 0) (0) (0) (0) (0) (0) (0)) fun xn12 n12 hxn12 => ?_
 subst hxn12
 refine xC Tryz.call13 (t_readN (cf xn1) (cf_ok (by assumption)) ((createM (cf xn1) [] (5:Int) false (0:Int)).2) (xn5.mt) (Value.slice (some {block:=b3,off:=0}) 1 1) (Value.map (some xn5.mh)) (0) (5) (false) (Value.slice none 0 0) (Value.slice none 0 0) (Value.slice none 0 0) (Value.slice none 0 0) (0) (12) (0) (0) (0) (0) (by omega)) fun xn15 n15 hxn15 => ?_
 subst hxn15
 refine xT (readN [] 5 12) rfl ?_
 refine xT ((createM (cf xn1) [] 5 false 0).b) (by rw [aw1 hxn1]) ?_
 exact xR (!readN (createM (cf xn1) [] 5 false 0).T 5 12) (by rw [aw1 hxn1]; rfl)
end Go.Proofs.YthijdhenekmojaaGreatDoor
/- The model: what a topic is. -/
set_option linter.unusedSimpArgs false
set_option maxRecDepth 100000
set_option maxHeartbeats 0
namespace Go.Proofs.YthijdhenekmojaaGreatDoor
open Go.Sx
structure TpT where
 lg:Bool
 xs:List Int
 is:Bool
 z:Sx.Rest
theorem t_topic(c:Cfg)(T:TopM)(H:HanM)(ps:List PRow)(hp:PoolOk T H ps)(hsz:∀k,((((kget T k).getD (false,.nil)).2.xs.length:Nat):Int)≤96)(mt mh:Nat)(sv:Value)(ke:Int):
  Ct Tryz.prog 18 (⟨[.s (.p 0 0),.s (.i .i64 ke)],[mdl2 c (.o sv) mt mh,topR mt T,hpR mh H ps],3,
   fun x=>x.lg=((kget T ke).getD (false,.nil)).1∧x.xs=((kget T ke).getD (false,.nil)).2.xs∧x.is=(kget T ke).isSome,fun x=>[.s (.bo x.lg),.s (.s 3 x.xs.length),.s (.bo x.is)],fun x=>[mdl2 c (.o sv) mt mh,topR mt T,hpR mh H ps,.rd 3 (Sx.encI .u64) 0 1 x.xs 42 x.z]⟩:Sp TpT):=by
 have hsz':=hsz ke
 refine cXv 25 xaI Tryz.func18 _ ⟨[(0,(cfgS c++[SV.o sv,SV.mb 1 mt,SV.mb 2 mh]).map (SV.g id)),(1,[]),(2,[]),(4,[])],5⟩ (fun g=>hp_at (te:=42) (mh:=mh) (H:=H) (ps:=ps) 2) fun g F => ?_
 refine xMp 1 3 (mt) (T) (evT) 42 kI (ke) (false,PRow.nil) true (·.2) (ps) (fun x=>.l [.l [.n,.i x],.n]) (pool_row hp _) ?_
 refine xN fun b1 => ?_
 refine xC Tryz.call46 (t_cloneR (((kget T ke).getD (false,PRow.nil)).snd.xs) (((kget T ke).getD (false,PRow.nil)).snd.r) (((kget T ke).getD (false,PRow.nil)).snd.xs.length) (by omega) (by omega)) fun xn2 n2 hxn2 => ?_
 refine xEnd [2,3,5] [.res (KMap mh ekP PRow.v (H)),.res (PoolX 42 (ps) (((kget T ke).getD (false,PRow.nil)).snd)),PRow.ent 42 (((kget T ke).getD (false,PRow.nil)).snd)] 2 (HP 42 mh (H) (ps)) pv_end0 ?_
 exact xR ({lg:=((kget T ke).getD (false,PRow.nil)).fst,xs:=((kget T ke).getD (false,PRow.nil)).snd.xs,is:=(kget T ke).isSome,z:=xn2}) ⟨rfl,rfl,rfl⟩
end Go.Proofs.YthijdhenekmojaaGreatDoor
/- ModelPlays: its config, its script. -/
set_option linter.unusedSimpArgs false
set_option maxRecDepth 100000
set_option maxHeartbeats 0
namespace Go.Proofs.YthijdhenekmojaaGreatDoor
open Go.Sx
/-- how many topics there are, by a number -/
def tOf(n:Int): Int:=1+IntKind.i64.wrap ↑(BitVec.ofInt IntKind.i64.bits n &&& BitVec.ofInt IntKind.i64.bits 3).toNat
theorem tOf_rng(n:Int): 1≤tOf n∧tOf n≤4:=by
 have:=and3 n
 unfold tOf
 omega
theorem t_configE(n:Int): Ct Tryz.prog 9 (sU [.s (.i .i64 n)] [] 0 [.g (cfgS (cf (tOf n)))] []):=by
 refine cX 8 xaI Tryz.func9 fun g F => ?_
 refine xN fun b1 => ?_
 refine xO (InK IntKind.i64 (1+IntKind.i64.wrap ↑(BitVec.ofInt IntKind.i64.bits n &&& BitVec.ofInt IntKind.i64.bits 3).toNat)) (by have:=and3 n; simp only [InK]; omega) ?_
 refine xN fun b2 => ?_
 refine xN fun b3 => ?_
 refine xN fun b4 => ?_
 exact xR () trivial
/-- an op of the script -/
structure OpD where
 ki:Int
 ke:Int
 co:Int
 n:Int
 cl:Int
 cm:Int
 bf:Int
 af:Int
 ws:List Int
 ks:List Int
 a0:Option Addr
 a1:Option Addr
 c0:Nat
 c1:Nat
 la:Bool
 ty:Bool
 fa:Bool
 fi:Bool
def encO(q:OpD): List Value:=[.int .i64 q.ki,.int .i64 q.ke,.int .i64 q.co,.int .i64 q.n,.int .i64 q.cl,.int .i64 q.cm,.int .i64 q.bf,.int .i64 q.af,.slice q.a0 q.ws.length q.c0,.slice q.a1 q.ks.length q.c1,.bool q.la,.bool q.ty,.bool q.fa,.bool q.fi]
theorem sizedO: Sized encO 14:=fun _=>rfl
def dO: OpD:=⟨0,0,0,0,0,0,0,0,[],[],none,none,0,0,false,false,false,false⟩
/-- the script, with the rows within, is the frame's -/
structure ScrF (F:Fr) (a:Option Addr) (qs:List OpD):Prop where
 row:RowE F a encO 14 qs
 ws:∀q∈qs,RowF F q.a0 .i64 q.ws∧q.ws.length≤maxLen
 ks:∀q∈qs,RowF F q.a1 .i64 q.ks∧q.ks.length≤maxLen
theorem ScrF.mono{F F':Fr}{a:Option Addr}{qs:List OpD}(hF:∀p∈F.f,p∈F'.f)(h:ScrF F a qs): ScrF F' a qs:=
 ⟨h.row.mono hF,fun q hq=>⟨(h.ws q hq).1.mono hF,(h.ws q hq).2⟩,fun q hq=>⟨(h.ks q hq).1.mono hF,(h.ks q hq).2⟩⟩
/-- done, of an element of the script -/
theorem t_dQ(q:OpD)(F:Fr)(h0:RowF F q.a0 .i64 q.ws)(h0l:q.ws.length≤maxLen)(h1:RowF F q.a1 .i64 q.ks)(h1l:q.ks.length≤maxLen)(c:Cfg)(sv:Value)(L:TopL)(H:HanL)(ps:List PRow)(hL:LOk L ps)(hl:L.length≤100):
  CtF Tryz.prog F 12 (dB q.ki q.ke q.co q.n q.cl q.cm q.bf q.af q.ws q.ks q.a0 q.a1 q.c0 q.c1 q.la q.ty q.fa q.fi c sv L H ps):=
 t_dB _ _ _ _ _ _ _ _ _ _ _ _ _ _ _ _ _ _ h0l h1l F h0 h1 c sv L H ps hL hl
end Go.Proofs.YthijdhenekmojaaGreatDoor
/- ModelPlays: the walk. -/
set_option linter.unusedSimpArgs false
set_option maxRecDepth 100000
set_option maxHeartbeats 0
namespace Go.Proofs.YthijdhenekmojaaGreatDoor
open Go.Sx
def xv: Cx:=⟨[10],[],[],[]⟩
theorem xvI: Inl Tryz.prog xv:=inl_ok ⟨Tryz.call10,trivial⟩ trivial
theorem t_newP(n:Int): Ct Tryz.prog 8 (⟨[.g (cfgS (cf (tOf n))),.s (.sp 0 1 1)],[schA,schB],2,fun _=>True,fun _=>[.s (.p 2 0)],fun x=>[schA,schB,.pts 2 (cfgS (cf (tOf n))++[.sp 0 1 1,.mb 3 x.mt,.mb 4 x.mh]) 81,.rs 3 fun _=>KMap x.mt ekI evT [],.rs 4 fun _=>HP 42 x.mh [] []]⟩:Sp NwT):=t_new (cf (tOf n)) (cf_ok (tOf_rng n))
theorem t_newRP(n:Int): Ct Tryz.prog 11 (⟨[.g (cfgS (cf (tOf n))),.s (.sp 0 1 1)],[schA,schB],2,fun _=>True,fun _=>[.s (.p 2 0)],fun _=>[schA,schB,.pts 2 (cfgS (cf (tOf n))++[.sp 0 1 1,.o (.slice none 0 0),.o (.slice none 0 0)]) 60]⟩:Sp Unit):=t_newR (tOf n) (tOf_rng n)
/-- the script, with the rows within, is the frame's; so is what errors are of -/
structure Pl.HF (a0:Option Addr) (qs:List OpD) (F:Fr):Prop where
 s:ScrF F a0 qs
 h:Go.Proofs.YthijdhenekmojaaGreatDoor.HF F
theorem Pl.HF.mono{a0:Option Addr}{qs:List OpD}{F F':Fr}(h:Pl.HF a0 qs F)(hF:∀p∈F.f,p∈F'.f): Pl.HF a0 qs F':=⟨h.s.mono hF,h.h.mono hF⟩
abbrev mS(c:Cfg)(L:TopL)(H:HanL)(ps:List PRow): List SE:=[mdH 1 2 c (.sp 3 1 1) L.length H.length,.sl 1 encT tN 3 L 56,hlR H ps]
abbrev dS4(ki ke co n cl cm bf af:Int)(ws ks:List Int)(a0 a1:Option Addr)(c0 c1:Nat)(la ty fa fi:Bool)(c:Cfg)(L:TopL)(H:HanL)(ps:List PRow): Sp DR:=
 ⟨[.g (opF ki ke co n cl cm bf af ws ks a0 a1 c0 c1 la ty fa fi),.s (.p 0 0)],mS c L H ps,4,DOk,
  fun x=>[.g [.i .i64 x.cl,.i .i64 x.ki,.i .i64 x.ke,.bo la,.s 4 x.ws.length,.i .i64 x.ha,.s 5 x.pt.length,.i .i64 x.co,.s 6 x.rw.length,.s 7 x.rk.length,.i .u64 x.n,.i .i64 x.cm,.i .i64 x.fr,.i .i64 x.to_]],
  fun x=>mS c L H ps++[.sl 4 (Go.Sx.encI .u64) 0 1 x.ws 42,.sl 5 (Go.Sx.encI .i64) 0 1 x.pt 3,.sl 6 (Go.Sx.encI .u64) 0 1 x.rw 42,.sl 7 (Go.Sx.encI .i64) 0 1 x.rk 3]⟩
theorem p_done(a0:Option Addr)(qs:List OpD)(i:Nat)(hi:i<qs.length)(c:Cfg)(L:TopL)(H:HanL)(ps:List PRow)(hL:LOk L ps)(hl:L.length≤100)(F:Fr)(hF:Pl.HF a0 qs F):
  CtF Tryz.prog F 12 (dS4 (qs.getD i dO).ki (qs.getD i dO).ke (qs.getD i dO).co (qs.getD i dO).n (qs.getD i dO).cl (qs.getD i dO).cm (qs.getD i dO).bf (qs.getD i dO).af (qs.getD i dO).ws (qs.getD i dO).ks (qs.getD i dO).a0 (qs.getD i dO).a1 (qs.getD i dO).c0 (qs.getD i dO).c1 (qs.getD i dO).la (qs.getD i dO).ty (qs.getD i dO).fa (qs.getD i dO).fi c L H ps):=by
 have hm:qs.getD i dO∈qs:=by
  have e:qs.getD i dO=qs[i]:=by simp [hi]
  rw [e]
  exact List.getElem_mem hi
 intro g w hw
 refine(t_dQ _ F (hF.s.ws _ hm).1 (hF.s.ws _ hm).2 (hF.s.ks _ hm).1 (hF.s.ks _ hm).2 c (.slice (some ⟨(g 3).b,0,none⟩) 1 1) L H ps hL hl g w hw).mono ?_
 rintro e w' ⟨v,L',he,⟨x,ν,hx,rfl,rfl⟩,hin⟩
 exact⟨_,_,he,⟨x,fun i => ν (i-1),hx,rfl,rfl⟩,hin⟩
theorem p_DoO(a0:Option Addr)(rs:List OpD)(c:Cfg)(hc:c.Ok)(T:TopM)(H:HanM)(ps:List PRow)(L:TopL)(G:HanL)(qs:List PRow)(hi:Inv c T H ps L G qs)(hT:T.length≤1000000)(mt mh:Nat)(d:DR)(hd:DOk d)(la:Bool)(F:Fr)(hF:Pl.HF a0 rs F):
  CtF Tryz.prog F 13 (spO c T H ps mt mh d la):=t_DoO c hc T H ps (hi.tok hc) hi.pool hi.inT hT hi.hokm mt mh d hd la F hF.h
theorem p_DoR(a0:Option Addr)(rs:List OpD)(c:Cfg)(hc:c.Ok)(T:TopM)(K:HanM)(rr:List PRow)(L:TopL)(H:HanL)(ps:List PRow)(hi:Inv c T K rr L H ps)(hl:L.length≤100)(hk1:H.length≤100)(d:DR)(hd:DOk d)(la:Bool)(F:Fr)(hF:Pl.HF a0 rs F):
  CtF Tryz.prog F 14 (spR c L H ps d la):=t_DoR c hc L H ps hi.lok hi.lsz hi.hok hl hk1 d hd la F
structure PlS where
 i:Nat
 T:TopM
 H:HanM
 ps:List PRow
 L:TopL
 G:HanL
 qs:List PRow
 La:Option Addr
 Lc:Nat
 Ga:Option Addr
 Gc:Nat
abbrev oL(c:Cfg)(m s t mt mh:Nat)(T:TopM)(H:HanM)(ps:List PRow): List Ent:=
 [schC,schD,mdl3 c mt mh,topR mt T,hpR mh H ps].map (SE.e fun r=>[(⟨m,none,0⟩:Rf),⟨0,none,0⟩,⟨0,none,0⟩,⟨0,none,0⟩,⟨s,none,0⟩,⟨t,none,0⟩].getD r ⟨0,none,0⟩)
abbrev rL(c:Cfg)(m s t:Nat)(La:Option Addr)(Lc:Nat)(Ga:Option Addr)(Gc:Nat)(L:TopL)(G:HanL)(qs:List PRow): List Ent:=
 [scC,scD,mdF 1 2 c L.length G.length,.sl 1 encT tN 3 L 56,.rs 2 fun g=>HL (g 2).a (g 2).c G qs].map (SE.e fun r=>[(⟨m,none,0⟩:Rf),⟨0,La,Lc⟩,⟨0,Ga,Gc⟩,⟨s,none,0⟩,⟨t,none,0⟩].getD r ⟨0,none,0⟩)
abbrev PlI(c:Cfg)(s:PlS): Prop:=Inv c s.T s.H s.ps s.L s.G s.qs∧s.i≤60∧s.G.length≤s.i∧s.T.length≤1000000∧s.L.length≤100
theorem pl_next{c:Cfg}(hc:c.Ok){s:PlS}(hI:PlI c s)(hi:s.i<60){d:DR}(hd:DOk d){la:Bool}{x:RO}{y:RR}(hx:StepO c s.T s.H s.ps la d x)(hy:StepR c s.L s.G s.qs la d y):
  x.b=y.b∧keysOf x.T=y.L.map (·.1)∧Inv c x.T x.H x.ps y.L y.H y.ps∧x.T.length≤8∧y.L.length≤8∧y.H.length≤s.i+1∧(keysOf x.T).length≤8∧∀La Lc Ga Gc,PlI c ⟨s.i+1,x.T,x.H,x.ps,y.L,y.H,y.ps,La,Lc,Ga,Gc⟩:=by
 obtain⟨h1,h2,h3⟩:=inv_step hc hI.1 hd hx hy
 have hk:=h2.sim.keys
 have hl:y.L.length≤8:=by
  have:=h2.len
  simp only [Cfg.Ok] at hc
  omega
 have ht:x.T.length=y.L.length:=by
  have h:=congrArg List.length hk
  simp only [keysOf,List.length_mergeSort,List.length_map] at h
  exact h
 have hg:=hI.2.2.1
 refine⟨h1,hk,h2,by omega,hl,by omega,by rw [hk]; simp; exact hl,fun _ _ _ _=>⟨h2,by show s.i+1≤60; omega,by show y.H.length≤s.i+1; omega,by show x.T.length≤1000000; omega,by show y.L.length≤100; omega⟩⟩
/-- the search of a topic's row -/
structure FdS where
 j:Nat
 has:Bool
 x:Int×Bool×PRow
abbrev FdI(L:TopL)(k:Int)(r:FdS): Prop:=r.j≤L.length∧((r.has=false∧r.x=tN∧∀y∈L.take r.j,y.1≠k)∨(r.has=true∧r.x∈L∧r.x.1=k))
theorem fd_yes{L:TopL}{k:Int}{r:FdS}(h:r.j<L.length)(he:(L.getD r.j tN).1=k): FdI L k ⟨r.j+1,true,L.getD r.j tN⟩:=by
 refine⟨h,.inr ⟨rfl, ?_,he⟩⟩
 have e:L.getD r.j tN=L[r.j]:=by simp [h]
 show L.getD r.j tN∈L
 rw [e]
 exact List.getElem_mem h
theorem fd_no{L:TopL}{k:Int}{r:FdS}(hI:FdI L k r)(h:r.j<L.length)(he:¬(L.getD r.j tN).1=k): FdI L k ⟨r.j+1,r.has,r.x⟩:=by
 refine⟨h, ?_⟩
 rcases hI.2 with ⟨h1,h2,h3⟩ | h1
 ·refine .inl ⟨h1,h2, ?_⟩
  intro y hy
  show y.1≠k
  have e:L[r.j]? = some (L.getD r.j tN):=by simp [h]
  have hy:y∈L.take (r.j+1):=hy
  rw [List.take_add_one,e] at hy
  rcases List.mem_append.1 hy with hy | hy
  ·exact h3 y hy
  ·have:y=L.getD r.j tN:=by simpa using hy
   rw [this]; exact he
 ·exact .inr h1
theorem fd_end{T:TopM}{L:TopL}(hs:Sim T L){k:Int}{r:FdS}(hI:FdI L k r)(hj:¬r.j<L.length){t:TpT}(ht:t.lg=((kget T k).getD (false,.nil)).1∧t.xs=((kget T k).getD (false,.nil)).2.xs∧t.is=(kget T k).isSome):
  t.is=r.has∧t.lg=r.x.2.1∧t.xs=r.x.2.2.xs:=by
 have he:=hs.eq k
 rcases hI.2 with ⟨h1,h2,h3⟩ | ⟨h1,h2,h3⟩
 ·rw [List.take_of_length_le (by omega)] at h3
  have hn:kget L k=none:=kget_none.2 h3
  rw [hn] at he
  cases hT:kget T k with
  | some v=>rw [hT] at he; cases he
  | none=>
   rw [hT] at ht
   refine⟨by rw [ht.2.2,h1]; rfl,by rw [ht.1,h2]; rfl,by rw [ht.2.1,h2]; rfl⟩
 ·have hg:kget L k=some r.x.2:=kget_of_mem (sorted_nd hs.so) (by rw [←h3]; exact h2)
  rw [hg] at he
  cases hT:kget T k with
  | none=>rw [hT] at he; cases he
  | some v=>
   rw [hT] at he ht
   have he:vX v=vX r.x.2:=by simpa using he
   have e1:=congrArg Prod.fst he
   have e2:=congrArg Prod.snd he
   exact⟨by rw [ht.2.2,h1]; rfl,by rw [ht.1]; exact e1,by rw [ht.2.1]; exact e2⟩
theorem fd_row{L:TopL}{k:Int}{r:FdS}(hI:FdI L k r){ps:List PRow}(hL:LOk L ps): r.x.2.2=PRow.nil∨r.x.2.2∈ps:=by
 rcases hI.2 with ⟨_,h2,_⟩ | ⟨_,h2,_⟩
 ·rw [h2]; exact .inl rfl
 ·exact(hL _ h2).1
theorem tp_len{T:TopM}{L:TopL}{ps:List PRow}(hs:Sim T L)(hL:LOk L ps)(k:Int): ((((kget T k).getD (false,.nil)).2.xs.length:Nat):Int)≤96:=by
 have he:=hs.eq k
 cases hT:kget T k with
 | none=>simp [PRow.nil]
 | some v=>
  rw [hT] at he
  cases hLk:kget L k with
  | none=>rw [hLk] at he; cases he
  | some u=>
   rw [hLk] at he
   have he:vX v=vX u:=by simpa using he
   have e2:=congrArg Prod.snd he
   have:=(hL _ (kget_mem' hLk)).2
   have e3:v.2.xs.length=u.2.xs.length:=congrArg List.length e2
   show((v.2.xs.length:Nat):Int)≤96
   rw [e3]
   have h4:u.2.xs.length≤96:=this
   omega
theorem t_loop(n:Int)(rs:List OpD)(a0:Option Addr)(c0:Nat)(hq:rs.length≤maxLen)(F:Fr)(hF:Pl.HF a0 rs F)(g:Nat→Rf)(c:Cfg)(hc:c.Ok)(m1 s1 t1 mt mh m2 s2 t2:Nat):
  Go Tryz.prog Tryz.f3 (Tryz.f3.body.getD .skip) 121 F (RetR F (Some_ ((⟨[.s (.i .i64 n),.s (.o (.slice a0 rs.length c0))],[],0,fun b=>b=true,fun b=>[.s (.bo b)],fun _=>[]⟩:Sp Bool).Q g))) [.c [0,1,0,1,1,1,1,1],.b 0,.c [1,1,1,1,1,1]]
   [(1,.slice a0 rs.length c0),(5,.bool true),(6,.pointer (some ⟨m1,0,none⟩)),(7,.pointer (some ⟨m2,0,none⟩)),(8,.int .i64 0)]
   (oL c m1 s1 t1 mt mh [] [] []++rL c m2 s2 t2 none 0 none 0 [] [] []):=by
 refine xG xvI [(6,.i 2),(7,.i 7)] ⟨[(0,[.i 1]),(1,[.c,.c,.c,.c]),(2,[.n,.n,.n,.n,.n,.n,.n,.n,.n,.i 0,.i 3,.i 4]),(3,[]),(4,[]),(5,[.i 6]),(6,[.c,.c,.c,.c]),(7,[.n,.n,.n,.n,.n,.n,.n,.n,.n,.i 5,.i 8,.i 9]),(8,[]),(9,[])],20⟩ Tryz.func3 ?_
 refine xLoop xvI Tryz.func3 [0,1,0,1,1,1,1,1] [.b 0,.c [1,1,1,1,1,1]] [1,5,6,7,8] [0,1,2,3,4,5,6,7,8,9] (fun s:PlS=>[(1,.slice a0 rs.length c0),(5,.bool true),(6,.pointer (some ⟨m1,0,none⟩)),(7,.pointer (some ⟨m2,0,none⟩)),(8,.int .i64 s.i)]) (fun _=>[(6,.i 2),(7,.i 7)]) (fun s=>oL c m1 s1 t1 mt mh s.T s.H s.ps++rL c m2 s2 t2 s.La s.Lc s.Ga s.Gc s.L s.G s.qs) (fun _=>⟨[(0,[.i 1]),(1,[.c,.c,.c,.c]),(2,[.n,.n,.n,.n,.n,.n,.n,.n,.n,.i 0,.i 3,.i 4]),(3,[]),(4,[]),(5,[.i 6]),(6,[.c,.c,.c,.c]),(7,[.n,.n,.n,.n,.n,.n,.n,.n,.n,.i 5,.i 8,.i 9]),(8,[]),(9,[])],20⟩) (PlI c) (fun s=>60-s.i) ⟨0,[],[],[],[],[],[],none,0,none,0⟩ ⟨inv_new hc,by simp,by simp,by simp,by simp⟩ (fun s J hI hJ => ?_)
 refine xB (decide ((↑s.i:Int)<(↑rs.length:Int))) (fun h1 => ?_) (fun h1 => ?_)
 ·skip
  replace h1:=decT h1
  refine xB (decide ((↑s.i:Int)<(60:Int))) (fun h2 => ?_) (fun h2 => ?_)
  ·skip
   replace h2:=decT h2
   refine xIxE hF.s.row rs.length c0 .i64 (↑s.i) (show rs.length≤rs.length∧(0:Int)≤↑s.i∧(↑s.i:Int)<((rs.length:Nat):Int) by omega) ?_
   refine xLdE hF.s.row sizedO s.i dO (by omega) ?_
   refine xCy [⟨m2,none,0⟩,⟨0,s.La,s.Lc⟩,⟨0,s.Ga,s.Gc⟩,⟨s2,none,0⟩] [7,8,9] (Tg.l [Tg.n,Tg.n,Tg.n,Tg.n,Tg.i 30,Tg.n,Tg.i 31,Tg.n,Tg.i 32,Tg.i 33,Tg.n,Tg.n,Tg.n,Tg.n]) ⟨[(0,[.i 1]),(1,[.c,.c,.c,.c]),(2,[.n,.n,.n,.n,.n,.n,.n,.n,.n,.i 0,.i 3,.i 4]),(3,[]),(4,[]),(5,[.i 6]),(6,[.c,.c,.c,.c]),(7,[.n,.n,.n,.n,.n,.n,.n,.n,.n,.i 5,.i 8,.i 9]),(8,[]),(9,[]),(30,[]),(31,[]),(32,[]),(33,[])],70⟩ Tryz.call12 (fun F' h=>p_done _ (rs) (s.i) (by omega) (c) (s.L) (s.G) (s.7) hI.1.lok hI.2.2.2.2 F' (hF.mono h)) fun xn3 n3 hxn3 => ?_
   refine xN fun b4 => ?_
   refine xCy [⟨m1,none,0⟩,⟨0,none,0⟩,⟨0,none,0⟩,⟨0,none,0⟩,⟨s1,none,0⟩,⟨t1,none,0⟩,⟨0,(n3 4).a,(n3 4).c⟩,⟨0,(n3 5).a,(n3 5).c⟩,⟨0,(n3 6).a,(n3 6).c⟩,⟨0,(n3 7).a,(n3 7).c⟩] [2,3,4,0,1,10,11,12,13] (Tg.n) ⟨[(5,[.i 6]),(6,[.c,.c,.c,.c]),(7,[.n,.n,.n,.n,.n,.n,.n,.n,.n,.i 5,.i 8,.i 9]),(8,[]),(9,[]),(70,[.n,.n,.n,.n,.i 30,.n,.i 31,.n,.i 32,.i 33,.n,.n,.n,.n]),(2,[.n,.n,.n,.n,.n,.n,.n,.n,.n,.i 0,.i 3,.i 4]),(3,[]),(4,[]),(0,[.i 1]),(1,[.c,.c,.c,.c]),(30,[]),(31,[]),(32,[]),(33,[])],112⟩ Tryz.call13 (fun F' h=>p_DoO _ _ (c) (by omega) (s.2) (s.3) (s.4) _ _ _ hI.1 hI.2.2.2.1 (mt) (mh) (xn3) (by omega) ((rs.getD s.i dO).la) F' (hF.mono h)) fun xn6 n6 hxn6 => ?_
   refine xCy [⟨m2,none,0⟩,⟨0,s.La,s.Lc⟩,⟨0,s.Ga,s.Gc⟩,⟨s2,none,0⟩,⟨t2,none,0⟩,⟨0,none,0⟩,⟨0,(n3 4).a,(n3 4).c⟩,⟨0,(n3 5).a,(n3 5).c⟩,⟨0,(n3 6).a,(n3 6).c⟩,⟨0,(n3 7).a,(n3 7).c⟩] [2,3,4,0,1,11,12,13,14] (Tg.n) ⟨[(70,[.n,.n,.n,.n,.i 30,.n,.i 31,.n,.i 32,.i 33,.n,.n,.n,.n]),(2,[.n,.n,.n,.n,.n,.n,.n,.n,.n,.i 0,.i 3,.i 4]),(3,[]),(4,[]),(0,[.i 1]),(1,[.c,.c,.c,.c]),(7,[.n,.n,.n,.n,.n,.n,.n,.n,.n,.i 5,.i 113,.i 114]),(113,[]),(114,[]),(5,[.i 6]),(6,[.c,.c,.c,.c])],153⟩ Tryz.call14 (fun F' h=>p_DoR _ _ (c) (by omega) _ _ _ (s.L) (s.G) (s.7) hI.1 hI.2.2.2.2 (by omega) (xn3) (by omega) ((rs.getD s.i dO).la) F' (hF.mono h)) fun xn9 n9 hxn9 => ?_
   have hst:=pl_next hc hI (by omega) hxn3 hxn6 hxn9
   refine xCy [⟨m1,none,0⟩,⟨0,none,0⟩,⟨0,none,0⟩] [1,2] (Tg.i 154) ⟨[(70,[.n,.n,.n,.n,.i 30,.n,.i 31,.n,.i 32,.i 33,.n,.n,.n,.n]),(4,[]),(0,[.i 1]),(1,[.c,.c,.c,.c]),(7,[.n,.n,.n,.n,.n,.n,.n,.n,.n,.i 5,.i 113,.i 114]),(113,[]),(114,[]),(5,[.i 6]),(6,[.c,.c,.c,.c]),(2,[.n,.n,.n,.n,.n,.n,.n,.n,.n,.n,.i 3,.i 4]),(3,[]),(154,[])],194⟩ Tryz.call16 (fun F' h=>(t_keys (c) (xn6.2) (mt) (mh) (Value.slice (some {block:=s1,off:=0}) 1 1) hst.2.2.1.inT (Nat.le_trans hst.2.2.2.1 (by omega))).fr) fun xn13 n13 hxn13 => ?_
   subst hxn13
   refine xCy [⟨m2,none,0⟩,⟨0,(n9 10).a,(n9 10).c⟩,⟨0,(n9 11).a,(n9 11).c⟩] [4,5] (Tg.i 194) ⟨[(70,[.n,.n,.n,.n,.i 30,.n,.i 31,.n,.i 32,.i 33,.n,.n,.n,.n]),(4,[]),(0,[.i 1]),(1,[.c,.c,.c,.c]),(114,[]),(5,[.i 6]),(6,[.c,.c,.c,.c]),(2,[.n,.n,.n,.n,.n,.n,.n,.n,.n,.n,.i 3,.i 4]),(3,[]),(154,[]),(7,[.n,.n,.n,.n,.n,.n,.n,.n,.n,.n,.i 113,.i 114]),(113,[]),(194,[])],234⟩ Tryz.call17 (fun F' h=>(t_keysB (c) (xn9.L) (Value.slice (some {block:=s2,off:=0}) 1 1) (List.length xn9.L) (List.length xn9.H) (by simp [hst.1]) (by omega)).fr) fun xn18 n18 hxn18 => ?_
   subst hxn18
   refine xCy [⟨0,(n13 3).a,(n13 3).c⟩,⟨0,(n18 3).a,(n18 3).c⟩] [9,12] (Tg.n) ⟨[(70,[.n,.n,.n,.n,.i 30,.n,.i 31,.n,.i 32,.i 33,.n,.n,.n,.n]),(4,[]),(0,[.i 1]),(1,[.c,.c,.c,.c]),(114,[]),(5,[.i 6]),(6,[.c,.c,.c,.c]),(2,[.n,.n,.n,.n,.n,.n,.n,.n,.n,.n,.i 3,.i 4]),(3,[]),(7,[.n,.n,.n,.n,.n,.n,.n,.n,.n,.n,.i 113,.i 114]),(113,[]),(154,[]),(194,[])],274⟩ Tryz.call15 (fun F' h=>(t_same10 (keysOf xn6.T) (List.map (fun x=>x.fst) xn9.L) ((keysOf xn6.T).length) ((List.map (fun x=>x.fst) xn9.L).length) (by simp [hst.1]) (by simp [hst.1]) (by omega)).fr) fun xn24 n24 hxn24 => ?_
   subst hxn24
   refine xF (!xn6.b==xn9.b) (by simp [hst.1]) ?_
   refine xF (!decide (List.take (List.map (fun x=>x.fst) xn9.L).length (List.map (fun x=>x.fst) xn9.L)=keysOf xn6.T)) (by rw [List.take_length,hst.2.1]; simp) ?_
   refine xW0 _ (view_idx [2,3,7,8,1,5,6,9,10,0,11,4] (by kernel_rfl)) (xLoop xvI Tryz.func3 [0,1,1,1,1,1,0,0,1,0,0,1,0,1,1,1,1,1] [.b 2,.b 1,.c [1,1,0,0,1,0,1,1,1,1,1],.j J,.b 0,.c [1,1,1,1,1,1]] [1,5,6,7,8,12] [0,1,2,3,4,5,6,7,8,11] (fun k:Int=>[(1,.slice a0 rs.length c0),(5,.bool true),(6,.pointer (some ⟨m1,0,none⟩)),(7,.pointer (some ⟨m2,0,none⟩)),(8,.int .i64 s.i),(12,.int .i64 k)]) (fun _=>[(6,.i 2),(7,.i 7)]) (fun _=>oL c m1 s1 t1 mt mh xn6.T xn6.H xn6.ps++rL c m2 s2 t2 (n9 10).a (n9 10).c (n9 11).a (n9 11).c xn9.L xn9.H xn9.ps) (fun _=>⟨[(0,[.i 1]),(1,[.c,.c,.c,.c]),(2,[.n,.n,.n,.n,.n,.n,.n,.n,.n,.i 0,.i 3,.i 4]),(3,[]),(4,[]),(5,[.i 6]),(6,[.c,.c,.c,.c]),(7,[.n,.n,.n,.n,.n,.n,.n,.n,.n,.i 5,.i 8,.i 9]),(8,[]),(9,[])],20⟩) (fun k => -1≤k∧k≤7) (fun k=>(7-k).toNat) (-1) (by omega) (fun k J2 hK hJ2 => ?_)) sc_st
   refine xB (decide (k<7)) (fun h25 => ?_) (fun h25 => ?_)
   ·skip
    replace h25:=decT h25
    refine xCy [⟨m1,none,0⟩,⟨0,none,0⟩,⟨0,none,0⟩] [2,3,4] ((Tg.l [Tg.n,Tg.i 23,Tg.n])) ⟨[(0,[.i 1]),(1,[.c,.c,.c,.c]),(5,[.i 6]),(6,[.c,.c,.c,.c]),(7,[.n,.n,.n,.n,.n,.n,.n,.n,.n,.i 5,.i 8,.i 9]),(8,[]),(9,[]),(2,[.n,.n,.n,.n,.n,.n,.n,.n,.n,.n,.i 3,.i 4]),(3,[]),(4,[]),(23,[])],63⟩ Tryz.call18 (fun F' h=>(t_topic (c) (xn6.2) (xn6.3) (xn6.4) hst.2.2.1.pool (tp_len hst.2.2.1.sim hst.2.2.1.lok) (mt) (mh) (Value.slice (some {block:=s1,off:=0}) 1 1) (k)).fr) fun xn32 n32 hxn32 => ?_
    refine xN fun b33 => ?_
    refine xW0 _ (view_idx [0,1,7,8,9,2,3,4,5,6,10,11] (by kernel_rfl)) (xLoop xvI Tryz.func3 [0,1,0,1,1,1,0,0,1,0,0,1,1,1,1,1,0,0,1,0,0,1,0,1,1,1,1,1] [.b 4,.c [1,1,1,1,0,0,1,0,0,1,1,1,1,1,0,0,1,0,0,1,0,1,1,1,1,1],.b 3,.c [1,1,0,0,1,1,1,1,1,0,0,1,0,0,1,0,1,1,1,1,1],.j J2,.b 2,.b 1,.c [1,1,0,0,1,0,1,1,1,1,1],.j J,.b 0,.c [1,1,1,1,1,1]] [1,5,6,7,8,12,13,14,15,16,17,18] [0,1,2,3,4,5,6,7,8,9,10,11] (fun r:FdS=>[(1,.slice a0 rs.length c0),(5,.bool true),(6,.pointer (some ⟨m1,0,none⟩)),(7,.pointer (some ⟨m2,0,none⟩)),(8,.int .i64 s.i),(12,.int .i64 k),(13,.bool xn32.lg),(14,.slice (n32 3).a xn32.xs.length (n32 3).c),(15,.bool xn32.is),(16,.pointer (some ⟨b33,0,none⟩)),(17,.bool r.has),(18,.int .i64 r.j)]) (fun _=>[(6,.i 2),(7,.i 7),(14,.i 10),(16,.i 11)]) (fun r=>oL c m1 s1 t1 mt mh xn6.T xn6.H xn6.ps++rL c m2 s2 t2 (n9 10).a (n9 10).c (n9 11).a (n9 11).c xn9.L xn9.H xn9.ps++[.rd (n32 3).a (n32 3).c (Go.Sx.encI .u64) 0 1 xn32.xs 42 xn32.z,.pts b33 (encT r.x) 56]) (fun _=>⟨[(0,[.i 1]),(1,[.c,.c,.c,.c]),(2,[.n,.n,.n,.n,.n,.n,.n,.n,.n,.i 0,.i 3,.i 4]),(3,[]),(4,[]),(5,[.i 6]),(6,[.c,.c,.c,.c]),(7,[.n,.n,.n,.n,.n,.n,.n,.n,.n,.i 5,.i 8,.i 9]),(8,[]),(9,[]),(10,[]),(11,[.n,.n,.n])],20⟩) (FdI xn9.L k) (fun r=>xn9.L.length-r.j) ⟨0,false,tN⟩ ⟨by simp,.inl ⟨rfl,rfl,by simp⟩⟩ (fun r J3 hR hJ3 => ?_)) sc_st
    refine xB (decide ((↑r.j:Int)<(↑(List.length xn9.L):Int))) (fun h34 => ?_) (fun h34 => ?_)
    ·skip
     replace h34:=decT h34
     refine xO (List.length xn9.L≤List.length xn9.L∧(0:Int)≤(↑r.j:Int)∧(↑r.j:Int)<(↑(List.length xn9.L):Int)) (by omega) ?_
     refine xFs 8 ((n9 10).a) ((n9 10).c) (encT) (tN) 3 (xn9.L) 56 (r.j) 0 false 1 [Value.int IntKind.i64 (List.getD xn9.L r.j tN).fst] .n (show r.j<(xn9.L).length by omega) rfl rfl (by simp) ?_
     refine xB ((List.getD xn9.L r.j tN).fst==k) (fun h35 => ?_) (fun h35 => ?_)
     ·skip
      replace h35:=decT h35
      refine xO (List.length xn9.L≤List.length xn9.L∧(0:Int)≤(↑r.j:Int)∧(↑r.j:Int)<(↑(List.length xn9.L):Int)) (by omega) ?_
      refine xO ((↑r.j:Int).toNat<List.length xn9.L) (by omega) ?_
      refine xO (InK IntKind.i64 (↑r.j+1)) (by simp only [InK] at *; omega) ?_
      first | exact xJ hJ3 ⟨r.j+1,true,xn9.L.getD r.j tN⟩ (by show xn9.L.length-(r.j+1)<xn9.L.length-r.j; omega) (fd_yes (by omega) (by assumption)) | exact xJ hJ3 ⟨r.j+1,r.has,r.x⟩ (by show xn9.L.length-(r.j+1)<xn9.L.length-r.j; omega) (fd_no hR (by omega) (by assumption))
     ·skip
      replace h35:=decF h35
      refine xO (InK IntKind.i64 (↑r.j+1)) (by simp only [InK] at *; omega) ?_
      first | exact xJ hJ3 ⟨r.j+1,true,xn9.L.getD r.j tN⟩ (by show xn9.L.length-(r.j+1)<xn9.L.length-r.j; omega) (fd_yes (by omega) (by assumption)) | exact xJ hJ3 ⟨r.j+1,r.has,r.x⟩ (by show xn9.L.length-(r.j+1)<xn9.L.length-r.j; omega) (fd_no hR (by omega) (by assumption))
    ·skip
     replace h34:=decF h34
     have hfd:=fd_end hst.2.2.1.sim hR (by omega) hxn32
     refine xCy [⟨0,(n32 3).a,(n32 3).c⟩,⟨0,none,0⟩,⟨0,(n9 11).a,(n9 11).c⟩] [10,9] Tg.n ⟨[(0,[.i 1]),(1,[.c,.c,.c,.c]),(2,[.n,.n,.n,.n,.n,.n,.n,.n,.n,.i 0,.i 3,.i 4]),(3,[]),(4,[]),(5,[.i 6]),(6,[.c,.c,.c,.c]),(7,[.n,.n,.n,.n,.n,.n,.n,.n,.n,.i 5,.i 8,.i 9]),(8,[]),(11,[.n,.n,.n]),(10,[]),(9,[])],60⟩ Tryz.call19 (fun F' h=>(t_sameHL xn32.xs xn32.z xn9.H xn9.ps r.x.2.2 (fd_row hR hst.2.2.1.lok) xn32.xs.length rfl (by have h:=tp_len hst.2.2.1.sim hst.2.2.1.lok k; rw [hxn32.2.1]; omega)).fr) fun xn40 n40 hxn40 => ?_
     refine xF (!xn32.is==r.has) (by simp [hfd.1]) ?_
     refine xF (!xn32.lg==r.x.snd.fst) (by simp [hfd.2.1]) ?_
     refine xF (!xn40) (by rw [hxn40,hfd.2.2]; simp) ?_
     refine xO (InK IntKind.i64 (k+1)) (by simp only [InK] at *; omega) ?_
     exact xJ hJ2 (k+1) (by show(7-(k+1)).toNat<(7-k).toNat; omega) (by omega)
   ·skip
    replace h25:=decF h25
    refine xO (InK IntKind.i64 (↑s.i+1)) (by simp only [InK] at *; omega) ?_
    exact xJ hJ ⟨s.i+1,xn6.T,xn6.H,xn6.ps,xn9.L,xn9.H,xn9.ps,(n9 10).a,(n9 10).c,(n9 11).a,(n9 11).c⟩ (by show 60-(s.i+1)<60-s.i; omega) (hst.2.2.2.2.2.2.2 _ _ _ _)
  ·skip
   replace h2:=decF h2
   exact xR (true) rfl
 ·skip
  replace h1:=decF h1
  exact xR (true) rfl
end Go.Proofs.YthijdhenekmojaaGreatDoor
/- ModelPlays: the walk, whole. -/
set_option linter.unusedSimpArgs false
set_option maxRecDepth 100000
set_option maxHeartbeats 0
namespace Go.Proofs.YthijdhenekmojaaGreatDoor
open Go.Sx
theorem view_hl0{L:List Ent}: View L (L++[.sl none 0 encT tN 3 [] 56,.res (HL none 0 [] [])]):=by
 refine view_trans (view_nil encT tN 3 56 sizedT) ?_
 refine view_trans (view_nil encH hN 3 101 sizedH) ?_
 rintro F w ⟨f,hf,hfit,h⟩
 obtain⟨f1,f2,rfl,h1,h2⟩:=dens_append.1 hf
 obtain⟨f3,f4,rfl,h3,h4⟩:=dens_append.1 h1
 refine⟨f3++f4++f2, ?_,hfit,h⟩
 rw [List.append_assoc]
 refine dens_append.2 ⟨f3,f4++f2,rfl,h3, ?_⟩
 obtain⟨x1,x2,rfl,hx1,hx2⟩:=h4
 obtain rfl:x2=[]:=hx2
 refine⟨x1,f2,by simp,hx1,f2,[],by simp, ?_,rfl⟩
 obtain⟨y1,y2,rfl,hy1,hy2⟩:=h2
 obtain rfl:y2=[]:=hy2
 exact⟨y1,[],rfl,hy1,[],[],rfl,⟨[],rfl,.refl _⟩,rfl⟩
theorem t_plays(n:Int)(rs:List OpD)(a0:Option Addr)(c0:Nat)(hq:rs.length≤maxLen)(F:Fr)(hF:Pl.HF a0 rs F):
  CtF Tryz.prog F 3 (⟨[.s (.i .i64 n),.s (.o (.slice a0 rs.length c0))],[],0,fun b=>b=true,fun b=>[.s (.bo b)],fun _=>[]⟩:Sp Bool):=by
 refine cF 121 xvI Tryz.func3 fun g => ?_
 refine xCy [] [] (Tg.n) ⟨[],40⟩ Tryz.call7 (fun F' h=>(t_awake).fr) fun xn1 n1 hxn1 => ?_
 subst hxn1
 refine xCy [] [] (Tg.n) ⟨[],82⟩ Tryz.call9 (fun F' h=>(t_configE (n)).fr) fun _ n3 _ => ?_
 refine xN fun b4 => ?_
 refine xN fun b5 => ?_
 refine xCy [⟨b5,none,0⟩,⟨b4,none,0⟩] [1,0] (Tg.i 84) ⟨[(83,[.i 82]),(82,[.c,.c,.c,.c]),(84,[.n,.n,.n,.n,.n,.n,.n,.n,.n,.i 83,.i 85,.i 86]),(85,[]),(86,[])],124⟩ Tryz.call8 (fun F' h=>(t_newP (n)).fr) fun xn8 n8 hxn8 => ?_
 refine xCy [] [] (Tg.n) ⟨[(83,[.i 82]),(82,[.c,.c,.c,.c]),(84,[.n,.n,.n,.n,.n,.n,.n,.n,.n,.i 83,.i 85,.i 86]),(85,[]),(86,[])],164⟩ Tryz.call9 (fun F' h=>(t_configE (n)).fr) fun _ n10 _ => ?_
 refine xN fun b11 => ?_
 refine xN fun b12 => ?_
 refine xCy [⟨b12,none,0⟩,⟨b11,none,0⟩] [6,5] (Tg.i 167) ⟨[(83,[.i 82]),(82,[.c,.c,.c,.c]),(84,[.n,.n,.n,.n,.n,.n,.n,.n,.n,.i 83,.i 85,.i 86]),(85,[]),(86,[]),(166,[.i 165]),(165,[.c,.c,.c,.c]),(167,[.n,.n,.n,.n,.n,.n,.n,.n,.n,.i 166,.n,.n])],207⟩ Tryz.call11 (fun F' h=>(t_newRP (n)).fr) fun _ n16 _ => ?_
 refine xW0 _ view_hl0 ?_ sc_st
 exact xGo [1,5,6,7,8] [0,1,2,3,4,5,6,7,8,9] _ _ _ (t_loop n rs a0 c0 hq F hF g (cf (tOf n)) (cf_ok (tOf_rng n)) (n8 2).b b5 b4 xn8.mt xn8.mh (n16 2).b b12 b11)
end Go.Proofs.YthijdhenekmojaaGreatDoor
/- ModelPlays: its script, as it is handed in. -/
set_option linter.unusedSimpArgs false
set_option maxRecDepth 100000
namespace Go.Proofs.YthijdhenekmojaaGreatDoor
open Go.Sx Go.ChangeShapes Go.WideShapes Go.RowKit
section
variable {H:Type} {enc:TypeId×Value→H} {w:World} {base:Nat} {held:Bool}
theorem cell_int{f:Nat}{c:Value}{x:DataW H×List MemPlace}(h:DataW.trod enc Tryz.prog w base (fun _=>true) held f 3 [c]=some x): ∃n,c = .int .i64 n:=by
 obtain⟨n,hn,_⟩:=DataW.trod_int Tryz.underlying3 h
 simp only [List.cons.injEq,and_true] at hn
 exact⟨n,hn⟩
theorem cell_bool{f:Nat}{c:Value}{x:DataW H×List MemPlace}(h:DataW.trod enc Tryz.prog w base (fun _=>true) held f 4 [c]=some x): ∃b,c = .bool b:=by
 obtain⟨n,hn,_⟩:=DataW.trod_bool Tryz.underlying4 h
 simp only [List.cons.injEq,and_true] at hn
 exact⟨n,hn⟩
set_option maxRecDepth 100000 in
theorem cell_row{f:Nat}{c:Value}{x:DataW H×List MemPlace}(h:DataW.trod enc Tryz.prog w base (fun _=>true) held f 38 [c]=some x): ∃(a:Option Addr) (cp:Nat) (xs:List Int),c = .slice a xs.length cp∧xs.length≤maxLen∧RowW w a .i64 xs:=
 open_rowW Tryz.underlying38 (by kernel_rfl) (by kernel_rfl) h
theorem open_elem{fuel:Nat}{l:List Value}{x:DataW H×List MemPlace}(hx:DataW.trod enc Tryz.prog w base (fun _=>true) held fuel 48 l=some x)(hl:l.length=14):
  ∃q:OpD,l=encO q∧(q.ws.length≤maxLen∧q.ks.length≤maxLen)∧RowW w q.a0 .i64 q.ws∧RowW w q.a1 .i64 q.ks:=by
 obtain⟨xs,n,_,_,hlen,hxl,hf⟩:=DataW.trod_struct Tryz.underlying48 hx
 match l,hl with
 | [v0,v1,v2,v3,v4,v5,v6,v7,v8,v9,v10,v11,v12,v13],_=>
  have hx:∀i,i<14→∃x,xs[i]? = some x:=fun i hi=>⟨xs[i]'(by rw [hxl]; exact hi),List.getElem?_eq_getElem _⟩
  obtain⟨_,e0⟩:=hx 0 (by decide)
  obtain⟨_,e1⟩:=hx 1 (by decide)
  obtain⟨_,e2⟩:=hx 2 (by decide)
  obtain⟨_,e3⟩:=hx 3 (by decide)
  obtain⟨_,e4⟩:=hx 4 (by decide)
  obtain⟨_,e5⟩:=hx 5 (by decide)
  obtain⟨_,e6⟩:=hx 6 (by decide)
  obtain⟨_,e7⟩:=hx 7 (by decide)
  obtain⟨_,e8⟩:=hx 8 (by decide)
  obtain⟨_,e9⟩:=hx 9 (by decide)
  obtain⟨_,e10⟩:=hx 10 (by decide)
  obtain⟨_,e11⟩:=hx 11 (by decide)
  obtain⟨_,e12⟩:=hx 12 (by decide)
  obtain⟨_,e13⟩:=hx 13 (by decide)
  obtain⟨_,rfl⟩:=cell_int ((hf 0 _ rfl).trans e0)
  obtain⟨_,rfl⟩:=cell_int ((hf 1 _ rfl).trans e1)
  obtain⟨_,rfl⟩:=cell_int ((hf 2 _ rfl).trans e2)
  obtain⟨_,rfl⟩:=cell_int ((hf 3 _ rfl).trans e3)
  obtain⟨_,rfl⟩:=cell_int ((hf 4 _ rfl).trans e4)
  obtain⟨_,rfl⟩:=cell_int ((hf 5 _ rfl).trans e5)
  obtain⟨_,rfl⟩:=cell_int ((hf 6 _ rfl).trans e6)
  obtain⟨_,rfl⟩:=cell_int ((hf 7 _ rfl).trans e7)
  obtain⟨a0,c0,ws,rfl,hw,hr0⟩:=cell_row ((hf 8 _ rfl).trans e8)
  obtain⟨a1,c1,ks,rfl,hk,hr1⟩:=cell_row ((hf 9 _ rfl).trans e9)
  obtain⟨_,rfl⟩:=cell_bool ((hf 10 _ rfl).trans e10)
  obtain⟨_,rfl⟩:=cell_bool ((hf 11 _ rfl).trans e11)
  obtain⟨_,rfl⟩:=cell_bool ((hf 12 _ rfl).trans e12)
  obtain⟨_,rfl⟩:=cell_bool ((hf 13 _ rfl).trans e13)
  exact⟨⟨_,_,_,_,_,_,_,_,ws,ks,a0,a1,c0,c1,_,_,_,_⟩,rfl,⟨hw,hk⟩,hr0,hr1⟩
theorem open_script{fuel:Nat}{v:Value}{x:DataW H×List MemPlace}(h:DataW.trod enc Tryz.prog w base (fun _=>true) held fuel 22 [v]=some x):
  ∃(a:Option Addr) (c:Nat) (qs:List OpD),v = .slice a qs.length c∧qs.length≤maxLen∧ScrF (allF w) a qs:=by
 rcases Deep.open_slice (e:=48) Tryz.underlying22 h with ⟨h1,_⟩ | ⟨a,len,cap,m,n,D,Pl,h1,hb,hl,hm,hmm,_,hi⟩
 ·simp only [List.cons.injEq,and_true] at h1
  subst h1
  exact⟨none,0,[],rfl,by simp,.inl rfl,fun q hq=>(by cases hq),fun q hq=>(by cases hq)⟩
 ·simp only [List.cons.injEq,and_true] at h1
  subst h1
  simp only [if_true] at hmm
  subst hmm
  have hs:Tryz.prog.cellsOf 48=14:=by kernel_rfl
  rw [hs] at hi
  have hq:∀i,i<len→∃q:OpD,(∀j u,(encO q)[j]? = some u→w.cell? (a.add (i*14+j))=some u)∧(q.ws.length≤maxLen∧q.ks.length≤maxLen)∧RowW w q.a0 .i64 q.ws∧RowW w q.a1 .i64 q.ks:=by
   intro i hin
   obtain⟨cs',hc,htt⟩:=hi i (by omega)
   obtain⟨_,hcl,hat⟩:=World.cells?_some hc
   obtain⟨q,rfl,h2⟩:=open_elem htt hcl
   refine⟨q, ?_,h2⟩
   intro j u hu
   have hj:j<14:=by
    have:=(List.getElem?_eq_some_iff.1 hu).1
    rwa [hcl] at this
   rw [←hu,←hat j hj,Go.Deep.add_add]
  let qs:List OpD:=(List.range len).pmap (fun i hi=>Classical.choose (hq i hi)) (fun i hi=>List.mem_range.1 hi)
  have hql:qs.length=len:=by simp [qs]
  have hget:∀i (hi:i<len),qs[i]? = some (Classical.choose (hq i hi)):=by
   intro i hi
   simp [qs,hi]
  have hall:∀q∈qs,(q.ws.length≤maxLen∧q.ks.length≤maxLen)∧RowW w q.a0 .i64 q.ws∧RowW w q.a1 .i64 q.ks:=by
   intro q hqm
   obtain⟨i,hi,rfl⟩:=List.getElem_of_mem hqm
   have hi':i<len:=by omega
   have e:=hget i hi'
   rw [List.getElem?_eq_getElem hi] at e
   simp only [Option.some.injEq] at e
   rw [e]
   exact(Classical.choose_spec (hq i hi')).2
  refine⟨some a,m,qs,by rw [hql],by omega, ?_,fun q hqm=>⟨(hall q hqm).2.1.frame,(hall q hqm).1.1⟩,fun q hqm=>⟨(hall q hqm).2.2.frame,(hall q hqm).1.2⟩⟩
  by_cases h0:len=0
  ·exact .inl (List.eq_nil_of_length_eq_zero (by omega))
  ·have h00:0<len:=by omega
   have hfirst:=(Classical.choose_spec (hq 0 h00)).1 0 _ rfl
   obtain⟨b,off,spot⟩:=a
   have hblk:∃arr bt fz,w.heap[b]? = some (.cells arr bt fz)∧spot=none:=by
    have hbb:(Addr.add ⟨b,off,spot⟩ (0*14+0)).block=b∧(Addr.add ⟨b,off,spot⟩ (0*14+0)).spot=spot:=by simp [Addr.add]
    unfold World.cell? at hfirst
    rw [hbb.1,hbb.2] at hfirst
    split at hfirst
    ·rename_i arr bt fz hh
     refine⟨arr,bt,fz,hh, ?_⟩
     cases spot with
     | none=>rfl
     | some _=>simp at hfirst
    ·simp at hfirst
   obtain⟨arr,bt,fz,hh,rfl⟩:=hblk
   refine .inr ⟨b,off,arr,bt,fz,rfl,mem_others.2 ⟨(Array.getElem?_eq_some_iff.1 hh).1,by simp,hh⟩, ?_⟩
   intro j q hj i u hu
   have hjl:j<len:=by
    have:=(List.getElem?_eq_some_iff.1 hj).1
    omega
   rw [hget j hjl] at hj
   simp only [Option.some.injEq] at hj
   subst hj
   have:=(Classical.choose_spec (hq j hjl)).1 i u hu
   rw [addr_add] at this
   simp only [World.cell?,hh,Option.isSome_none,Bool.false_eq_true,if_false] at this
   exact this
end
end Go.Proofs.YthijdhenekmojaaGreatDoor

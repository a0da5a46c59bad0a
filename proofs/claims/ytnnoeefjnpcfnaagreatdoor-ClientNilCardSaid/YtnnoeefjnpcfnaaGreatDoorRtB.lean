/- Walks: what functions of the program and of the document compute, part 2 of those on which ClientNil rests. -/
import Derived.Test.YtnnoeefjnpcfnaaGreatDoorRtA

set_option linter.unusedVariables false
set_option linter.unusedSimpArgs false
/- A client as one thing. -/
set_option maxRecDepth 100000
namespace Go.Proofs.YtnnoeefjnpcfnaaGreatDoor
open Go.Sx
/-- which entries a client has -/
def Frm(c:Cfg)(k:Ck)(E:List SE): Prop:=match k.part with
 | .idle => ∃v,E=clI c k v
 | .find S=>E=clFd c k S 11
 | .list S=>E=clLs c k S 11 14
 | .create S=>E=clCr c k S 11
 | .remove S=>E=clRm c k S 11
 | .write S=>E=clSw c k S 11
 | .sread S=>E=clSr c k S 11 12
 | .pub tp ep ws S=>(match S.ph with
  | 1=>E=clP1 c k tp ep ws S 11 15
  | 2=>E=clP2 c k tp ep ws S 11 15
  | 3=>E=clP3 c k tp ep ws S 11 15
  | 4=>E=clP4 c k tp ep ws S 11 15
  | _=>E=clP5 c k tp ep ws S 11 15)
 | .lread tp ep S=>(match S.ph with
  | 1=>E=clR1 c k tp ep S 11 16
  | 2 => ∃G,S.gu=some G∧E=clR2 c k S.slot G 11 16
  | 3 => ∃G ev,S.gu=some G∧E=clR3 c k S.slot G ev S.words.length (szK c (clsOf c G.block)) (.s 25 S.words.length) [.sl 25 (encI .u64) 0 1 S.words 54] 11 16 22
  | _ => ∃G ev,S.gu=some G∧E=clR4 c k S.slot G ev S.code (.s 25 S.words.length) [.sl 25 (encI .u64) 0 1 S.words 54] 11 16 22)
 | .pin tp ep S=>(match S.ph with
  | 1=>E=clN1 c k tp ep S.cl 11 14
  | 2 => ∃G,S.gu=some G∧E=clN2 c k tp ep S.slot S.cl G 11 14 15
  | _ => ∃G ev,S.gu=some G∧E=clN3 c k tp ep S.slot S.code S.cl G ev 11 14 15 16)
 | .field W=>(match W.ph with
  | 1=>E=clF1 c k W 11
  | _ => ∃W0:Fl,W0.from_ = W.from_∧W0.size=W.size∧((W.last=0∧E=clF2 c k W0 W.path W.ask 11 15)∨(W.last=3∧∃v,E=clF3 c k W0 W.ask 11 15 v)))
 | .rel S=>E=clRl c k S.at_ k.hd.toNat 11
 | .scan S => ∃mt M,S.named=kget M∧(match S.give with
  | none=>E=clSn c k S.slot mt M S.left S.kept S.given 11 .np []
  | some G=>E=clSn c k S.slot mt M S.left S.kept S.given 11 (.p 30 0) [gvE c G 30])
/-- a client at a block -/
def CliR(c:Cfg)(k:Ck)(b:Nat): Res:=fun f => ∃E g,Frm c k E∧(g 2).b=b∧∀u,dens (E.map (SE.e (mixR 2 u g))) f
abbrev STEP: Nat:=14
/-- a step, entry by entry ahead of it, as one thing behind it -/
def BxW(F:Fr)(A:Ar)(E:List SE)(c:Cfg)(k':Ck)(A':Ar)(d:Bool): Prop := ∀g w,In ((ARp A 0 1++E).map (SE.e g)) F w→
 Calls Tryz.prog STEP #[.pointer (some ⟨(g 2).b,0,none⟩),.pointer (some ⟨(g 0).b,0,none⟩)] w fun e w'=>e = .returned (.bool d)∧In ((ARp A' 0 1).map (SE.e g)++[.res (CliR c k' (g 2).b)]) F w'
/-- these entries are that client -/
def Cls(c:Cfg)(k':Ck)(E':List SE): Prop := ∀h:Nat→Rf,∃E'' h'',Frm c k' E'' ∧h'' 2=h 2∧∀u f,dens (E'.map (SE.e h)) f→dens (E''.map (SE.e (mixR 2 u h''))) f
abbrev stX(c:Cfg)(k:Ck)(A:Ar)(b:Nat)(k':Ck)(A':Ar)(d:Bool): Sp Unit:=
 ⟨[.s (.pb 2 b 0),.s (.p 0 0)],ARp A 0 1++[.rs 2 fun _=>CliR c k b],3,fun _=>True,fun _=>[.s (.bo d)],fun _=>ARp A' 0 1++[.rs 2 fun _=>CliR c k' b]⟩
theorem bx{F:Fr}{c:Cfg}{k k':Ck}{A A':Ar}{d:Bool}(h:∀E,Frm c k E→BxW F A E c k' A' d)(b:Nat): CtF Tryz.prog F STEP (stX c k A b k' A' d):=by
 intro g w hi
 have hi':In ((ARp A 0 1).map (SE.e g)++[.res (CliR c k b)]) F w:=hi
 obtain⟨f,hf,hfit,hr⟩:=hi'
 obtain⟨f1,f2,rfl,h1,h2⟩:=dens_append.1 hf
 obtain⟨fc,f3,rfl,⟨E,g',hE,hb,hd⟩,h3⟩:=h2
 obtain rfl:f3=[]:=h3
 subst hb
 have hin:In ((ARp A 0 1++E).map (SE.e (mixR 2 g g'))) F w:=by
  rw [List.map_append]
  exact⟨f1++fc,dens_append.2 ⟨f1,fc,rfl,h1,hd g⟩,by simpa using hfit,hr⟩
 refine(h E hE _ w hin).mono ?_
 rintro e w' ⟨rfl,hw⟩
 exact⟨_,_,rfl,⟨(),g,trivial,rfl,rfl⟩,hw⟩
theorem bx_more{F:Fr}{c:Cfg}{k':Ck}{A A':Ar}{E E':List SE}(hS:CtF Tryz.prog F STEP (stS A E A' E' .no))(hc:Cls c k' E'): BxW F A E c k' A' false:=by
 intro g w hi
 refine(hS g w hi).mono ?_
 rintro e w' ⟨v,L',rfl,⟨x,ν,_,rfl,rfl⟩,hw⟩
 refine⟨rfl, ?_⟩
 obtain⟨E'' ,h'',h1,h2,h3⟩:=hc (mixR 40 g ν)
 have hw':In ((ARp A' 0 1++E').map (SE.e (mixR 40 g ν))) F w':=hw
 rw [List.map_append] at hw'
 obtain⟨f,hf,hfit,hr⟩:=hw'
 obtain⟨f1,f2,rfl,h4,h5⟩:=dens_append.1 hf
 refine⟨f1++(f2++[]),dens_append.2 ⟨f1,f2++[],rfl,h4,f2,[],rfl,⟨E'' ,h'',h1, ?_,fun u=>h3 u f2 h5⟩,rfl⟩,by simpa using hfit,hr⟩
 rw [h2]; rfl
theorem bx_done{F:Fr}{c:Cfg}{k':Ck}{A A':Ar}{E:List SE}{E':Value→List SE}(hS:CtF Tryz.prog F STEP (stV A E A' E'))(hc:∀v,Cls c k' (E' v)): BxW F A E c k' A' true:=by
 intro g w hi
 refine(hS g w hi).mono ?_
 rintro e w' ⟨v,L',rfl,⟨x,ν,_,rfl,rfl⟩,hw⟩
 refine⟨rfl, ?_⟩
 obtain⟨E'' ,h'',h1,h2,h3⟩:=hc x (mixR 40 g ν)
 have hw':In ((ARp A' 0 1++E' x).map (SE.e (mixR 40 g ν))) F w':=hw
 rw [List.map_append] at hw'
 obtain⟨f,hf,hfit,hr⟩:=hw'
 obtain⟨f1,f2,rfl,h4,h5⟩:=dens_append.1 hf
 refine⟨f1++(f2++[]),dens_append.2 ⟨f1,f2++[],rfl,h4,f2,[],rfl,⟨E'' ,h'',h1, ?_,fun u=>h3 u f2 h5⟩,rfl⟩,by simpa using hfit,hr⟩
 rw [h2]; rfl
/-- rows that are none -/
theorem dens_nils{L:List Ent}{f:Ft}(h:dens L f): dens (L++[.sl none 0 (encI .u64) 0 1 [] 54,.sl none 0 (encI .i64) 0 1 [] 3]) f:=
 dens_append.2 ⟨f,[],by simp,h,[],[],rfl,⟨sizedI _,.inl ⟨rfl,rfl,rfl,rfl⟩⟩,[],[],rfl,⟨sizedI _,.inl ⟨rfl,rfl,rfl,rfl⟩⟩,rfl⟩
/-- other names of places -/
def tb: List (Nat×Nat)→Nat→Nat
 | [],r=>r
 | (a,b) :: l,r=>bif Nat.beq a r then b else tb l r
/-- it has ended, and tells no words -/
theorem cls_Z{c:Cfg}{k:Ck}{v:Value}{R:Rr}(hk:k.part = .idle)(h7:k.res.ws=[])(h8:k.res.ks=[]): Cls c k (clZ c k v R):=by
 intro h
 refine⟨clI c k v,fun r=>bif Nat.beq r 7 then⟨0,none,0⟩ else bif Nat.beq r 8 then⟨0,none,0⟩ else h (tb [(5,R.a),(6,R.b),(9,R.c),(10,R.d)] r), ?_,rfl, ?_⟩
 ·simp only [Frm,hk]; exact⟨v,rfl⟩
 ·intro u f hf
  have:=dens_nils hf
  simp only [clI,clS,clW,w7,w8,h7,h8]
  exact this
end Go.Proofs.YtnnoeefjnpcfnaaGreatDoor
/- A client is made; what it tells when it is not busy. -/
set_option linter.unusedSimpArgs false
set_option maxRecDepth 100000
set_option maxHeartbeats 0
namespace Go.Proofs.YtnnoeefjnpcfnaaGreatDoor
open Go.Sx
abbrev newE(c:Cfg)(id:Int): SE:=.pts 2 (cfgS c++[.sp 0 1 1,.i .i64 id,.i .i64 0,.i .i64 0,.no,.ns,.i .i64 0,.ns,.ni,.nf,.i .i64 0,
 .i .i64 0,.ns,.ns,.i .u64 0,.i .i64 0,.i .i64 0,.ns,.ns,.i .u64 0,.i .i64 0,.np,.ns,.no,.ns]) 98
theorem t_NewE(c:Cfg)(hc:c.Ok)(id:Int)(h:0≤id∧id<c.clients): Ct Tryz.prog 34 (sU [.g (cfgS c),.s (.sp 0 1 1),.s (.i .i64 id)] [schA 0 1,schB 1] 2 [.s (.p 2 0)] [newE c id,schA 0 1,schB 1]):=by
 refine cX 30 xqI Tryz.func34 fun g F => ?_
 refine xN fun b1 => ?_
 refine xC Tryz.call48 (t_check (c) hc) fun _ n2 _ => ?_
 refine xC Tryz.call62 (t_schk) fun _ n4 _ => ?_
 refine xF (decide (id<0)) (by first | (simp; done) | (simp; omega)) ?_
 refine xF (decide (id≥c.clients)) (by first | (simp; done) | (simp; omega)) ?_
 refine xN fun b5 => ?_
 exact xR () trivial
theorem t_NewB(c:Cfg)(hc:c.Ok)(id:Int)(h:id<0∨c.clients≤id): Ct Tryz.prog 34 (sU [.g (cfgS c),.s (.sp 0 1 1),.s (.i .i64 id)] [schA 0 1,schB 1] 2 [.s .np] [schA 0 1,schB 1]):=by
 refine cX 30 xqI Tryz.func34 fun g F => ?_
 refine xN fun b1 => ?_
 refine xC Tryz.call48 (t_check (c) hc) fun _ n2 _ => ?_
 refine xC Tryz.call62 (t_schk) fun _ n4 _ => ?_
 refine xB (decide (id<0)) (fun h5 => ?_) (fun h5 => ?_)
 ·skip
  replace h5:=decT h5
  exact xR () trivial
 ·skip
  replace h5:=decF h5
  refine xT (decide (id≥c.clients)) (by first | (simp; done) | (simp; omega)) ?_
  exact xR () trivial
theorem t_NewN(c:Cfg)(hc:c.Ok)(id:Int): Ct Tryz.prog 34 (sU [.g (cfgS c),.s .ns,.s (.i .i64 id)] [] 0 [.s .np] []):=by
 refine cX 30 xxI Tryz.func34 fun g F => ?_
 refine xN fun b1 => ?_
 refine xN fun b2 => ?_
 refine xN fun b3 => ?_
 refine xN fun b4 => ?_
 refine xN fun b5 => ?_
 refine xN fun b6 => ?_
 refine xN fun b7 => ?_
 refine xB (decide (c.topics<1)) (fun h8 => ?_) (fun h8 => ?_)
 ·skip
  replace h8:=decT h8
  exact xR () trivial
 ·skip
  replace h8:=decF h8
  refine xB (decide (c.topics>8)) (fun h9 => ?_) (fun h9 => ?_)
  ·skip
   replace h9:=decT h9
   exact xR () trivial
  ·skip
   replace h9:=decF h9
   refine xB (decide (c.small<4)) (fun h10 => ?_) (fun h10 => ?_)
   ·skip
    replace h10:=decT h10
    exact xR () trivial
   ·skip
    replace h10:=decF h10
    refine xB (decide (c.small>32)) (fun h11 => ?_) (fun h11 => ?_)
    ·skip
     replace h11:=decT h11
     exact xR () trivial
    ·skip
     replace h11:=decF h11
     refine xB (decide (c.slots<1)) (fun h12 => ?_) (fun h12 => ?_)
     ·skip
      replace h12:=decT h12
      exact xR () trivial
     ·skip
      replace h12:=decF h12
      refine xB (decide (c.slots>8)) (fun h13 => ?_) (fun h13 => ?_)
      ·skip
       replace h13:=decT h13
       exact xR () trivial
      ·skip
       replace h13:=decF h13
       refine xB (decide (c.clients<1)) (fun h14 => ?_) (fun h14 => ?_)
       ·skip
        replace h14:=decT h14
        exact xR () trivial
       ·skip
        replace h14:=decF h14
        refine xB (decide (c.clients>8)) (fun h15 => ?_) (fun h15 => ?_)
        ·skip
         replace h15:=decT h15
         exact xR () trivial
        ·skip
         replace h15:=decF h15
         refine xB (decide (c.retry<1)) (fun h16 => ?_) (fun h16 => ?_)
         ·skip
          replace h16:=decT h16
          exact xR () trivial
         ·skip
          replace h16:=decF h16
          refine xB (decide (c.retry>8)) (fun h17 => ?_) (fun h17 => ?_)
          ·skip
           replace h17:=decT h17
           exact xR () trivial
          ·skip
           replace h17:=decF h17
           refine xB (decide (c.s0<4)) (fun h18 => ?_) (fun h18 => ?_)
           ·skip
            replace h18:=decT h18
            exact xR () trivial
           ·skip
            replace h18:=decF h18
            refine xB (decide (c.s0>96)) (fun h19 => ?_) (fun h19 => ?_)
            ·skip
             replace h19:=decT h19
             exact xR () trivial
            ·skip
             replace h19:=decF h19
             refine xB (decide (c.n0<0)) (fun h20 => ?_) (fun h20 => ?_)
             ·skip
              replace h20:=decT h20
              exact xR () trivial
             ·skip
              replace h20:=decF h20
              refine xB (decide (c.n0>12)) (fun h21 => ?_) (fun h21 => ?_)
              ·skip
               replace h21:=decT h21
               exact xR () trivial
              ·skip
               replace h21:=decF h21
               refine xB (decide (c.s1<4)) (fun h22 => ?_) (fun h22 => ?_)
               ·skip
                replace h22:=decT h22
                exact xR () trivial
               ·skip
                replace h22:=decF h22
                refine xB (decide (c.s1>96)) (fun h23 => ?_) (fun h23 => ?_)
                ·skip
                 replace h23:=decT h23
                 exact xR () trivial
                ·skip
                 replace h23:=decF h23
                 refine xB (decide (c.n1<0)) (fun h24 => ?_) (fun h24 => ?_)
                 ·skip
                  replace h24:=decT h24
                  exact xR () trivial
                 ·skip
                  replace h24:=decF h24
                  refine xB (decide (c.n1>12)) (fun h25 => ?_) (fun h25 => ?_)
                  ·skip
                   replace h25:=decT h25
                   exact xR () trivial
                  ·skip
                   replace h25:=decF h25
                   refine xB (!decide (c.s1>c.s0)) (fun h26 => ?_) (fun h26 => ?_)
                   ·skip
                    replace h26:=ntT h26
                    replace h26:=decF h26
                    exact xR () trivial
                   ·skip
                    replace h26:=ntF h26
                    replace h26:=decT h26
                    exact xR () trivial
theorem t_NewZ(id:Int): Ct Tryz.prog 34 (sU [.g [.l .i64 0,.l .i64 0,.l .i64 0,.l .i64 0,.l .i64 0,.l .i64 0,.l .i64 0,.l .i64 0,.l .i64 0],.s (.sp 0 1 1),.s (.i .i64 id)] [schA 0 1,schB 1] 2 [.s .np] [schA 0 1,schB 1]):=by
 refine cX 30 xxI Tryz.func34 fun g F => ?_
 refine xN fun b1 => ?_
 refine xN fun b2 => ?_
 refine xN fun b3 => ?_
 refine xN fun b4 => ?_
 refine xN fun b5 => ?_
 refine xN fun b6 => ?_
 refine xN fun b7 => ?_
 exact xR () trivial
theorem dens_snoc{L:List Ent}{x:Ent}{f:Ft}(hx:x.den [])(h:dens L f): dens (L++[x]) f:=dens_append.2 ⟨f,[],by simp,h,[],[],rfl,hx,rfl⟩
def newCk(id:Int): Ck:=⟨id,0,0,false,[],0,[],0,Rz.z,0,0,0,[],false,[],.idle⟩
theorem t_New(c:Cfg)(hc:c.Ok)(id:Int)(h:0≤id∧id<c.clients): Ct Tryz.prog 34 (⟨[.g (cfgS c),.s (.sp 0 1 1),.s (.i .i64 id)],[schA 0 1,schB 1],2,fun _=>True,fun nb=>[.s (.pb 2 nb 0)],fun nb=>[.rs 2 fun _=>CliR c (newCk id) nb]⟩:Sp Nat):=by
 intro g F w hi
 refine(t_NewE c hc id h g F w hi).mono ?_
 rintro e w' ⟨v,L',rfl,⟨x,ν,_,rfl,rfl⟩,hw⟩
 refine⟨_,_,rfl,⟨(ν 2).b,ν,trivial,rfl,rfl⟩, ?_⟩
 obtain⟨f,hf,hfit,hr⟩:=hw
 refine⟨f++[],⟨f,[],rfl,⟨clI c (newCk id) .nilFunc,fun r=>bif Nat.beq r 3 then g 0 else bif Nat.beq r 4 then g 1 else bif Nat.beq r 2 then ν 2 else⟨0,none,0⟩,⟨.nilFunc,rfl⟩,rfl, ?_⟩,rfl⟩,by simpa using hfit,hr⟩
 intro u
 have h1:∀(k:IntKind) (t:TypeId),Ent.den (.sl none 0 (encI k) 0 1 [] t) []:=fun k t=>⟨sizedI _,.inl ⟨rfl,rfl,rfl,rfl⟩⟩
 have h2:Ent.den (.sl none 0 encHd dHd 3 [] 77) []:=⟨sized_hd,.inl ⟨rfl,rfl,rfl,rfl⟩⟩
 exact dens_snoc (h1 .i64 3) (dens_snoc (h1 .u64 54) (dens_snoc h2 (dens_snoc (h1 .i64 3) (dens_snoc (h1 .i64 3) (dens_snoc (h1 .u64 54) hf)))))
/-- what is told of it -/
theorem t_ResE(c:Cfg)(k:Ck)(v:Value)(h1:k.res.ws.length≤1000000)(h2:k.res.ks.length≤1000000): Ct Tryz.prog 19 (sU [.s (.p 2 0)] (clI c k v) 40
  [.g [.i .i64 k.res.code,.s 41 k.res.ws.length,.s 42 k.res.ks.length,.i .u64 k.res.n,.i .i64 k.res.cm]] (clI c k v++[.sl 41 (encI .u64) 0 1 k.res.ws 54,.sl 42 (encI .i64) 0 1 k.res.ks 3])):=by
 refine cX 20 xqI Tryz.func19 fun g F => ?_
 refine xN fun b1 => ?_
 refine xN fun b2 => ?_
 refine xCy [⟨0,(g 7).a,(g 7).c⟩] [7] (Tg.i 43) ⟨[(2,[.n,.n,.n,.n,.n,.n,.n,.n,.n,.i 3,.n,.n,.n,.n,.i 5,.n,.i 6,.c,.n,.n,.n,.i 7,.i 8,.n,.n,.n,.c,.c,.n,.n,.c,.i 9,.n,.i 10]),(3,[.i 4]),(4,[.c,.c,.c,.c,.c,.c]),(5,[]),(6,[]),(9,[]),(10,[]),(8,[]),(40,[.c,.c,.c,.c,.c]),(41,[.n,.i 7,.i 8,.n,.n]),(7,[]),(43,[])],83⟩ Tryz.call51 (fun F' h=>(t_cloneU (k.res.ws) h1).fr) fun _ n3 _ => ?_
 refine xCy [⟨0,(g 8).a,(g 8).c⟩] [7] (Tg.i 83) ⟨[(2,[.n,.n,.n,.n,.n,.n,.n,.n,.n,.i 3,.n,.n,.n,.n,.i 5,.n,.i 6,.c,.n,.n,.n,.i 7,.i 8,.n,.n,.n,.c,.c,.n,.n,.c,.i 9,.n,.i 10]),(3,[.i 4]),(4,[.c,.c,.c,.c,.c,.c]),(5,[]),(6,[]),(9,[]),(10,[]),(40,[.c,.c,.c,.c,.c]),(41,[.n,.i 7,.i 8,.n,.n]),(7,[]),(43,[]),(8,[]),(83,[])],123⟩ Tryz.call52 (fun F' h=>(t_cloneI (k.res.ks) h2).fr) fun _ n5 _ => ?_
 exact xR () trivial
end Go.Proofs.YtnnoeefjnpcfnaaGreatDoor
/- The chapter's example: its config, its arena, its schema. -/
set_option maxRecDepth 100000
set_option maxHeartbeats 0
namespace Go.Proofs.YtnnoeefjnpcfnaaGreatDoor
open Go.Sx
def c0: Cfg:=⟨1,5,1,3,6,0,14,0,1⟩
theorem c0_ok: c0.Ok:=by simp only [Cfg.Ok,c0]; omega
abbrev cfgL0: List SV:=[.l .i64 1,.l .i64 5,.l .i64 1,.l .i64 3,.l .i64 6,.l .i64 0,.l .i64 14,.l .i64 0,.l .i64 1]
theorem t_cfg0: Ct Tryz.prog 33 (sU [.g [.l .i64 0,.l .i64 0,.l .i64 0,.l .i64 0,.l .i64 0]] [] 0 [.g cfgL0] []):=by
 refine cX 23 xxI Tryz.func33 fun g F => ?_
 refine xN fun b1 => ?_
 refine xN fun b2 => ?_
 refine xN fun b3 => ?_
 refine xN fun b4 => ?_
 refine xN fun b5 => ?_
 exact xR () trivial
theorem t_sch: Ct Tryz.prog 35 (sU [] [] 0 [.s (.sp 0 1 1)] [schA 0 1,schB 1]):=by
 refine cX 6 xxI Tryz.func35 fun g F => ?_
 refine xN fun b1 => ?_
 refine xN fun b2 => ?_
 exact xR () trivial
def A0: Ar:=((⟨none,0,18,List.replicate 18 0,0,0,0,0,false⟩:Ar).store 0 7597137583116413295).store 1 (1+5*128+1*16384+3*2097152+1*268435456+6*34359738368+0+14*562949953421312+0)
theorem t_Make0: Ct Tryz.prog 38 (sU [.g cfgL0] [] 0 [.s (.p 0 0),.s .ni] (ARp A0 0 1)):=by
 refine cX 67 xxI Tryz.func38 fun g F => ?_
 refine xN fun b1 => ?_
 refine xN fun b2 => ?_
 refine xN fun b3 => ?_
 refine xN fun b4 => ?_
 refine xN fun b5 => ?_
 refine xN fun b6 => ?_
 refine xN fun b7 => ?_
 refine xN fun b8 => ?_
 refine xN fun b9 => ?_
 refine xN fun b10 => ?_
 refine xN fun b11 => ?_
 refine xN fun b12 => ?_
 refine xN fun b13 => ?_
 refine xN fun b14 => ?_
 refine xN fun b15 => ?_
 refine xN fun b16 => ?_
 refine xMk (encI .u64) 0 0 1 (sizedI _) 54 8 (18) (18) .i64 .i64 (.i 24) 24 (by first | omega | (simp; done)) (by first | omega | (simp; omega)) (fun am24_ cm24_ => ?_)
 refine xN fun b17 => ?_
 refine xN fun b18 => ?_
 refine xO (InK IntKind.i64 (0+1)) (by simp only [InK] at *; omega) ?_
 refine xF (decide ((0:Int)≥(↑(18:Nat):Int))) rfl ?_
 refine xO ((18:Nat)≤(List.replicate (Int.toNat (18:Int)) (0:Int)).length∧(0:Int)≤(0:Int)∧(0:Int)<(↑(18:Nat):Int)) (by first | (simp; done) | (simp; omega)) ?_
 refine xO (Int.toNat (0:Int)<(List.replicate (Int.toNat (18:Int)) (0:Int)).length) (by first | (simp; done) | (simp; omega)) ?_
 refine xE (7597137583116413295:Int) fun _ => ?_
 refine xO ((18:Nat)≤((List.replicate (Int.toNat (18:Int)) (0:Int)).set (Int.toNat (0:Int)) (7597137583116413295:Int)).length∧(0:Int)≤(0:Int)∧(0:Int)<(↑(18:Nat):Int)) (by first | (simp; done) | (simp; omega)) ?_
 refine xO (Int.toNat (0:Int)<((List.replicate (Int.toNat (18:Int)) (0:Int)).set (Int.toNat (0:Int)) (7597137583116413295:Int)).length) (by first | (simp; done) | (simp; omega)) ?_
 refine xN fun b19 => ?_
 refine xN fun b20 => ?_
 refine xN fun b21 => ?_
 refine xN fun b22 => ?_
 refine xN fun b23 => ?_
 refine xN fun b24 => ?_
 refine xN fun b25 => ?_
 refine xN fun b26 => ?_
 refine xN fun b27 => ?_
 refine xO (InK IntKind.i64 (1+1)) (by simp only [InK] at *; omega) ?_
 refine xF (decide ((1:Int)≥(↑(18:Nat):Int))) rfl ?_
 refine xO ((18:Nat)≤((List.replicate (Int.toNat (18:Int)) (0:Int)).set (Int.toNat (0:Int)) (7597137583116413295:Int)).length∧(0:Int)≤(1:Int)∧(1:Int)<(↑(18:Nat):Int)) (by first | (simp; done) | (simp; omega)) ?_
 refine xO (Int.toNat (1:Int)<((List.replicate (Int.toNat (18:Int)) (0:Int)).set (Int.toNat (0:Int)) (7597137583116413295:Int)).length) (by first | (simp; done) | (simp; omega)) ?_
 refine xE (7881505781072513:Int) fun _ => ?_
 refine xO ((18:Nat)≤(((List.replicate (Int.toNat (18:Int)) (0:Int)).set (Int.toNat (0:Int)) (7597137583116413295:Int)).set (Int.toNat (1:Int)) (7881505781072513:Int)).length∧(0:Int)≤(1:Int)∧(1:Int)<(↑(18:Nat):Int)) (by first | (simp; done) | (simp; omega)) ?_
 refine xO (Int.toNat (1:Int)<(((List.replicate (Int.toNat (18:Int)) (0:Int)).set (Int.toNat (0:Int)) (7597137583116413295:Int)).set (Int.toNat (1:Int)) (7881505781072513:Int)).length) (by first | (simp; done) | (simp; omega)) ?_
 refine xN fun b28 => ?_
 refine xN fun b29 => ?_
 refine xN fun b30 => ?_
 refine xN fun b31 => ?_
 refine xN fun b32 => ?_
 refine xN fun b33 => ?_
 refine xN fun b34 => ?_
 refine xN fun b35 => ?_
 exact xR () trivial
end Go.Proofs.YtnnoeefjnpcfnaaGreatDoor
/- A client's step: it finds. -/
set_option maxRecDepth 100000
set_option maxHeartbeats 0
namespace Go.Proofs.YtnnoeefjnpcfnaaGreatDoor
open Go.Sx
theorem fd1a(c:Cfg)(k:Ck)(A:Ar)(hc:c.Ok)(hA:ArI A)(q i fa pl ep ti ke w:Int)(lg:Bool)(hn:2<A.n)(hw:A.ws.getD 2 0=w)(h2:w.tmod 2≠1):
  Ct Tryz.prog 14 (stS A (clFd c k ⟨1,q,i,fa,pl,lg,ep,0,ti,ke⟩ 11) (A.load 2) (clFd c k ⟨2,w,0,fa,0,false,0,0,ti,ke⟩ 11) .no):=by
 subst hw
 refine cX 75 xqI Tryz.func14 fun g F => ?_
 refine xN fun b1 => ?_
 refine xCy [⟨(g 0).b,none,0⟩,⟨0,(g 1).a,(g 1).c⟩] [0,1] (Tg.n) ⟨[(2,[.n,.n,.n,.n,.n,.n,.n,.n,.n,.i 3,.n,.n,.n,.n,.i 5,.n,.i 6,.l [Tg.i 11],.l [Tg.l [],Tg.l [Tg.i 12,Tg.i 13]],.n,.n,.i 7,.i 8,.n,.n,.n,.c,.c,.n,.n,.c,.i 9,.n,.i 10]),(3,[.i 4]),(4,[.c,.c,.c,.c,.c,.c]),(5,[]),(6,[]),(9,[]),(10,[]),(11,[.n,.n,.n,.n,.n,.n,.n,.n,.n,.l [Tg.l [Tg.i 11],Tg.l []],.l [Tg.l [Tg.i 11],Tg.l []],.n,.n,.n,.n,.n,.n,.c,.n,.n]),(12,[.i 11]),(13,[.i 2]),(7,[]),(8,[]),(40,[.c,.c,.c]),(0,[.i 1,.n,.n,.n,.n,.n,.c]),(1,[])],81⟩ Tryz.call137 (fun F' h=>(t_Load (A) (2) hA (by omega)).fr) fun _ n2 _ => ?_
 refine xO ((2:Int)≠(0:Int)) (by omega) ?_
 refine xF ((A.ws.getD (2:Nat) (0:Int)).tmod (2:Int)==(1:Int)) (beq_eq_false_iff_ne.2 (by omega)) ?_
 refine xTn (xT:=95) (v:=Value.pointer (some {block:=(g 11).b,off:=0})) taN_209_103 ?_
 exact xR () trivial
theorem fd1b(c:Cfg)(k:Ck)(A:Ar)(hc:c.Ok)(hA:ArI A)(q i fa pl ep ti ke w:Int)(lg:Bool)(hn:2<A.n)(hw:A.ws.getD 2 0=w)(h2:w.tmod 2=1)(hf:0≤fa∧fa<100)(hr:fa+1≠c.retry):
  Ct Tryz.prog 14 (stS A (clFd c k ⟨1,q,i,fa,pl,lg,ep,0,ti,ke⟩ 11) (A.load 2) (clFd c k ⟨1,w,0,fa+1,0,false,0,0,ti,ke⟩ 11) .no):=by
 subst hw
 refine cX 75 xqI Tryz.func14 fun g F => ?_
 refine xN fun b1 => ?_
 refine xCy [⟨(g 0).b,none,0⟩,⟨0,(g 1).a,(g 1).c⟩] [0,1] (Tg.n) ⟨[(2,[.n,.n,.n,.n,.n,.n,.n,.n,.n,.i 3,.n,.n,.n,.n,.i 5,.n,.i 6,.l [Tg.i 11],.l [Tg.l [],Tg.l [Tg.i 12,Tg.i 13]],.n,.n,.i 7,.i 8,.n,.n,.n,.c,.c,.n,.n,.c,.i 9,.n,.i 10]),(3,[.i 4]),(4,[.c,.c,.c,.c,.c,.c]),(5,[]),(6,[]),(9,[]),(10,[]),(11,[.n,.n,.n,.n,.n,.n,.n,.n,.n,.l [Tg.l [Tg.i 11],Tg.l []],.l [Tg.l [Tg.i 11],Tg.l []],.n,.n,.n,.n,.n,.n,.c,.n,.n]),(12,[.i 11]),(13,[.i 2]),(7,[]),(8,[]),(40,[.c,.c,.c]),(0,[.i 1,.n,.n,.n,.n,.n,.c]),(1,[])],81⟩ Tryz.call137 (fun F' h=>(t_Load (A) (2) hA (by omega)).fr) fun _ n2 _ => ?_
 refine xO ((2:Int)≠(0:Int)) (by omega) ?_
 refine xT ((A.ws.getD (2:Nat) (0:Int)).tmod (2:Int)==(1:Int)) (beq_iff_eq.2 (by omega)) ?_
 refine xN fun b3 => ?_
 refine xO (InK IntKind.i64 (fa+1)) (by simp only [InK]; omega) ?_
 refine xF (fa+1==c.retry) (by first | (simp; done) | (simp; omega)) ?_
 refine xTn (xT:=95) (v:=Value.pointer (some {block:=(g 11).b,off:=0})) taN_209_103 ?_
 exact xR () trivial
theorem fd1c(c:Cfg)(k:Ck)(A:Ar)(hc:c.Ok)(hA:ArI A)(q i fa pl ep ti ke w:Int)(lg:Bool)(hn:2<A.n)(hw:A.ws.getD 2 0=w)(h2:w.tmod 2=1)(hf:0≤fa∧fa<100)(hr:fa+1=c.retry)(F:Fr)(hF:HF F):
  CtF Tryz.prog F 14 (stV A (clFd c k ⟨1,q,i,fa,pl,lg,ep,0,ti,ke⟩ 11) (A.load 2) fun v=>clZ c (k.code 17 ti) v):=by
 subst hw
 refine cF 75 xqI Tryz.func14 fun g => ?_
 refine xN fun b1 => ?_
 refine xCy [⟨(g 0).b,none,0⟩,⟨0,(g 1).a,(g 1).c⟩] [0,1] (Tg.n) ⟨[(2,[.n,.n,.n,.n,.n,.n,.n,.n,.n,.i 3,.n,.n,.n,.n,.i 5,.n,.i 6,.l [Tg.i 11],.l [Tg.l [],Tg.l [Tg.i 12,Tg.i 13]],.n,.n,.i 7,.i 8,.n,.n,.n,.c,.c,.n,.n,.c,.i 9,.n,.i 10]),(3,[.i 4]),(4,[.c,.c,.c,.c,.c,.c]),(5,[]),(6,[]),(9,[]),(10,[]),(11,[.n,.n,.n,.n,.n,.n,.n,.n,.n,.l [Tg.l [Tg.i 11],Tg.l []],.l [Tg.l [Tg.i 11],Tg.l []],.n,.n,.n,.n,.n,.n,.c,.n,.n]),(12,[.i 11]),(13,[.i 2]),(7,[]),(8,[]),(40,[.c,.c,.c]),(0,[.i 1,.n,.n,.n,.n,.n,.c]),(1,[])],81⟩ Tryz.call137 (fun F' h=>(t_Load (A) (2) hA (by omega)).fr) fun _ n2 _ => ?_
 refine xO ((2:Int)≠(0:Int)) (by omega) ?_
 refine xT ((A.ws.getD (2:Nat) (0:Int)).tmod (2:Int)==(1:Int)) (beq_iff_eq.2 (by omega)) ?_
 refine xN fun b3 => ?_
 refine xO (InK IntKind.i64 (fa+1)) (by simp only [InK]; omega) ?_
 refine xT (fa+1==c.retry) (by first | (simp; done) | (simp; omega)) ?_
 refine xTn (xT:=95) (v:=Value.pointer (some {block:=(g 11).b,off:=0})) taN_209_103 ?_
 refine xN fun b4 => ?_
 refine xN fun b5 => ?_
 refine xN fun b6 => ?_
 refine xN fun b7 => ?_
 refine xCy [] [] (Tg.n) ⟨[(2,[.n,.n,.n,.n,.n,.n,.n,.n,.n,.i 3,.n,.n,.n,.n,.i 5,.n,.i 6,.l [Tg.i 11],.l [Tg.l [],Tg.l [Tg.i 12,Tg.i 13]],.n,.n,.i 7,.i 8,.n,.n,.n,.c,.c,.n,.n,.c,.i 9,.n,.i 10]),(3,[.i 4]),(4,[.c,.c,.c,.c,.c,.c]),(5,[]),(6,[]),(9,[]),(10,[]),(11,[.n,.n,.n,.n,.n,.n,.n,.n,.n,.c,.l [Tg.l [Tg.i 11],Tg.l []],.q 81 false,.c,.q 91 false,.c,.c,.c,.l [Tg.c],.n,.n]),(12,[.i 11]),(13,[.i 2]),(7,[]),(8,[]),(40,[.c,.c,.c]),(0,[.i 1,.n,.n,.n,.n,.n,.c]),(1,[]),(89,[.c,.c,.c]),(98,[.c,.c,.c]),(99,[.c,.c,.c]),(100,[.c,.c,.c]),(103,[.c,.c,.c])],145⟩ Tryz.call74 (fun F' h=>t_topE (17) F' (hF.mono h)) fun _ n9 _ => ?_
 refine xN fun b10 => ?_
 exact xR (Value.func (Fn.func (125:Nat)) {toList:=[]} {toList:=[Value.pointer (some {block:=(g ((11:Nat)+(1:Nat))).b,off:=(0:Nat)}),Value.pointer (some {block:=(g ((11:Nat)+(2:Nat))).b,off:=(0:Nat)})]}) (by omega)
end Go.Proofs.YtnnoeefjnpcfnaaGreatDoor
/- A client's step: it finds. -/
set_option maxRecDepth 100000
set_option maxHeartbeats 0
namespace Go.Proofs.YtnnoeefjnpcfnaaGreatDoor
open Go.Sx
theorem fd2a(c:Cfg)(k:Ck)(A:Ar)(hc:c.Ok)(hA:ArI A)(q i fa pl ep ti ke w at_:Int)(lg:Bool)(hat:(startC c ke+i).tmod c.topics=at_)(hr:0≤at_∧at_<c.topics)(hs:0≤startC c ke∧startC c ke<c.topics)(he:0≤entAt c at_∧entAt c at_<A.n)(hw:A.ws.getD (entAt c at_).toNat 0=w)(hU:U64 w)(hi:0≤i∧i<c.topics)(hk:(keyW w).is=true)(hk2:(keyW w).key=ke):
  Ct Tryz.prog 14 (stS A (clFd c k ⟨2,q,i,fa,pl,lg,ep,0,ti,ke⟩ 11) (A.load (entAt c at_)) (clFd c k ⟨3,q,i+1,fa,at_,(keyW w).lg,0,0,ti,ke⟩ 11) .no):=by
 subst hw
 subst hat
 have hc':=hc
 simp only [Cfg.Ok] at hc'
 refine cX 75 xqI Tryz.func14 fun g F => ?_
 refine xCy [] [] (Tg.n) ⟨[(0,[.i 1,.n,.n,.n,.n,.n,.c]),(1,[]),(2,[.n,.n,.n,.n,.n,.n,.n,.n,.n,.i 3,.n,.n,.n,.n,.i 5,.n,.i 6,.l [Tg.i 11],.l [Tg.l [],Tg.l [Tg.i 12,Tg.i 13]],.n,.n,.i 7,.i 8,.n,.n,.n,.c,.c,.n,.n,.c,.i 9,.n,.i 10]),(3,[.i 4]),(4,[.c,.c,.c,.c,.c,.c]),(5,[]),(6,[]),(9,[]),(10,[]),(11,[.n,.n,.n,.n,.n,.n,.n,.n,.n,.l [Tg.l [Tg.i 11],Tg.l []],.l [Tg.l [Tg.i 11],Tg.l []],.n,.n,.n,.n,.n,.n,.c,.n,.n]),(12,[.i 11]),(13,[.i 2]),(7,[]),(8,[])],80⟩ Tryz.call42 (fun F' h=>(t_Start (c) hc (ke)).fr) fun xn1 n1 hxn1 => ?_
 subst hxn1
 refine xO (InK IntKind.i64 (startC c ke+i)) (by simp only [InK]; omega) ?_
 refine xO (c.topics≠0) (by omega) ?_
 refine xCy [] [] (Tg.n) ⟨[(0,[.i 1,.n,.n,.n,.n,.n,.c]),(1,[]),(2,[.n,.n,.n,.n,.n,.n,.n,.n,.n,.i 3,.n,.n,.n,.n,.i 5,.n,.i 6,.l [Tg.i 11],.l [Tg.l [],Tg.l [Tg.i 12,Tg.i 13]],.n,.n,.i 7,.i 8,.n,.n,.n,.c,.c,.n,.n,.c,.i 9,.n,.i 10]),(3,[.i 4]),(4,[.c,.c,.c,.c,.c,.c]),(5,[]),(6,[]),(9,[]),(10,[]),(11,[.n,.n,.n,.n,.n,.n,.n,.n,.n,.l [Tg.l [Tg.i 11],Tg.l []],.l [Tg.l [Tg.i 11],Tg.l []],.n,.n,.n,.n,.n,.n,.c,.n,.n]),(12,[.i 11]),(13,[.i 2]),(7,[]),(8,[])],122⟩ Tryz.call141 (fun F' h=>(t_Entry (c) hc ((startC c ke+i).tmod c.topics)).fr) fun xn3 n3 hxn3 => ?_
 subst hxn3
 refine xCy [⟨(g 0).b,none,0⟩,⟨0,(g 1).a,(g 1).c⟩] [0,1] (Tg.n) ⟨[(2,[.n,.n,.n,.n,.n,.n,.n,.n,.n,.i 3,.n,.n,.n,.n,.i 5,.n,.i 6,.l [Tg.i 11],.l [Tg.l [],Tg.l [Tg.i 12,Tg.i 13]],.n,.n,.i 7,.i 8,.n,.n,.n,.c,.c,.n,.n,.c,.i 9,.n,.i 10]),(3,[.i 4]),(4,[.c,.c,.c,.c,.c,.c]),(5,[]),(6,[]),(9,[]),(10,[]),(11,[.n,.n,.n,.n,.n,.n,.n,.n,.n,.l [Tg.l [Tg.i 11],Tg.l []],.l [Tg.l [Tg.i 11],Tg.l []],.n,.n,.n,.n,.n,.n,.c,.n,.n]),(12,[.i 11]),(13,[.i 2]),(7,[]),(8,[]),(0,[.i 1,.n,.n,.n,.n,.n,.c]),(1,[])],163⟩ Tryz.call137 (fun F' h=>(t_Load (A) (entAt c ((startC c ke+i).tmod c.topics)) hA he).fr) fun _ n6 _ => ?_
 refine xCy [] [] ((Tg.l [Tg.n,Tg.n,Tg.n])) ⟨[(2,[.n,.n,.n,.n,.n,.n,.n,.n,.n,.i 3,.n,.n,.n,.n,.i 5,.n,.i 6,.l [Tg.i 11],.l [Tg.l [],Tg.l [Tg.i 12,Tg.i 13]],.n,.n,.i 7,.i 8,.n,.n,.n,.c,.c,.n,.n,.c,.i 9,.n,.i 10]),(3,[.i 4]),(4,[.c,.c,.c,.c,.c,.c]),(5,[]),(6,[]),(9,[]),(10,[]),(11,[.n,.n,.n,.n,.n,.n,.n,.n,.n,.l [Tg.l [Tg.i 11],Tg.l []],.l [Tg.l [Tg.i 11],Tg.l []],.n,.n,.n,.n,.n,.n,.c,.n,.n]),(12,[.i 11]),(13,[.i 2]),(7,[]),(8,[]),(0,[.i 1,.n,.n,.n,.n,.n,.c]),(1,[])],204⟩ Tryz.call140 (fun F' h=>(t_Key (A.ws.getD (entAt c ((startC c ke+i).tmod c.topics)).toNat 0) hU).fr) fun xn10 n10 hxn10 => ?_
 subst hxn10
 refine xO (InK IntKind.i64 (i+1)) (by simp only [InK]; omega) ?_
 refine xT ((keyW (A.ws.getD (entAt c ((startC c ke+i).tmod c.topics)).toNat 0)).is) hk ?_
 refine xT ((keyW (A.ws.getD (entAt c ((startC c ke+i).tmod c.topics)).toNat 0)).key==ke) (beq_iff_eq.2 (by omega)) ?_
 refine xTn (xT:=95) (v:=Value.pointer (some {block:=(g 11).b,off:=0})) taN_209_103 ?_
 exact xR () trivial
theorem fd2b(c:Cfg)(k:Ck)(A:Ar)(hc:c.Ok)(hA:ArI A)(q i fa pl ep ti ke w at_:Int)(lg:Bool)(hat:(startC c ke+i).tmod c.topics=at_)(hr:0≤at_∧at_<c.topics)(hs:0≤startC c ke∧startC c ke<c.topics)(he:0≤entAt c at_∧entAt c at_<A.n)(hw:A.ws.getD (entAt c at_).toNat 0=w)(hU:U64 w)(hi:0≤i∧i<c.topics)(hk:¬((keyW w).is=true∧(keyW w).key=ke))(hz:w=0∨i+1=c.topics):
  Ct Tryz.prog 14 (stS A (clFd c k ⟨2,q,i,fa,pl,lg,ep,0,ti,ke⟩ 11) (A.load (entAt c at_)) (clFd c k ⟨4,q,i+1,fa,pl,lg,ep,12,ti,ke⟩ 11) .no):=by
 subst hw
 subst hat
 have hc':=hc
 simp only [Cfg.Ok] at hc'
 refine cX 75 xqI Tryz.func14 fun g F => ?_
 refine xCy [] [] (Tg.n) ⟨[(0,[.i 1,.n,.n,.n,.n,.n,.c]),(1,[]),(2,[.n,.n,.n,.n,.n,.n,.n,.n,.n,.i 3,.n,.n,.n,.n,.i 5,.n,.i 6,.l [Tg.i 11],.l [Tg.l [],Tg.l [Tg.i 12,Tg.i 13]],.n,.n,.i 7,.i 8,.n,.n,.n,.c,.c,.n,.n,.c,.i 9,.n,.i 10]),(3,[.i 4]),(4,[.c,.c,.c,.c,.c,.c]),(5,[]),(6,[]),(9,[]),(10,[]),(11,[.n,.n,.n,.n,.n,.n,.n,.n,.n,.l [Tg.l [Tg.i 11],Tg.l []],.l [Tg.l [Tg.i 11],Tg.l []],.n,.n,.n,.n,.n,.n,.c,.n,.n]),(12,[.i 11]),(13,[.i 2]),(7,[]),(8,[])],80⟩ Tryz.call42 (fun F' h=>(t_Start (c) hc (ke)).fr) fun xn1 n1 hxn1 => ?_
 subst hxn1
 refine xO (InK IntKind.i64 (startC c ke+i)) (by simp only [InK]; omega) ?_
 refine xO (c.topics≠0) (by omega) ?_
 refine xCy [] [] (Tg.n) ⟨[(0,[.i 1,.n,.n,.n,.n,.n,.c]),(1,[]),(2,[.n,.n,.n,.n,.n,.n,.n,.n,.n,.i 3,.n,.n,.n,.n,.i 5,.n,.i 6,.l [Tg.i 11],.l [Tg.l [],Tg.l [Tg.i 12,Tg.i 13]],.n,.n,.i 7,.i 8,.n,.n,.n,.c,.c,.n,.n,.c,.i 9,.n,.i 10]),(3,[.i 4]),(4,[.c,.c,.c,.c,.c,.c]),(5,[]),(6,[]),(9,[]),(10,[]),(11,[.n,.n,.n,.n,.n,.n,.n,.n,.n,.l [Tg.l [Tg.i 11],Tg.l []],.l [Tg.l [Tg.i 11],Tg.l []],.n,.n,.n,.n,.n,.n,.c,.n,.n]),(12,[.i 11]),(13,[.i 2]),(7,[]),(8,[])],122⟩ Tryz.call141 (fun F' h=>(t_Entry (c) hc ((startC c ke+i).tmod c.topics)).fr) fun xn3 n3 hxn3 => ?_
 subst hxn3
 refine xCy [⟨(g 0).b,none,0⟩,⟨0,(g 1).a,(g 1).c⟩] [0,1] (Tg.n) ⟨[(2,[.n,.n,.n,.n,.n,.n,.n,.n,.n,.i 3,.n,.n,.n,.n,.i 5,.n,.i 6,.l [Tg.i 11],.l [Tg.l [],Tg.l [Tg.i 12,Tg.i 13]],.n,.n,.i 7,.i 8,.n,.n,.n,.c,.c,.n,.n,.c,.i 9,.n,.i 10]),(3,[.i 4]),(4,[.c,.c,.c,.c,.c,.c]),(5,[]),(6,[]),(9,[]),(10,[]),(11,[.n,.n,.n,.n,.n,.n,.n,.n,.n,.l [Tg.l [Tg.i 11],Tg.l []],.l [Tg.l [Tg.i 11],Tg.l []],.n,.n,.n,.n,.n,.n,.c,.n,.n]),(12,[.i 11]),(13,[.i 2]),(7,[]),(8,[]),(0,[.i 1,.n,.n,.n,.n,.n,.c]),(1,[])],163⟩ Tryz.call137 (fun F' h=>(t_Load (A) (entAt c ((startC c ke+i).tmod c.topics)) hA he).fr) fun _ n6 _ => ?_
 refine xCy [] [] ((Tg.l [Tg.n,Tg.n,Tg.n])) ⟨[(2,[.n,.n,.n,.n,.n,.n,.n,.n,.n,.i 3,.n,.n,.n,.n,.i 5,.n,.i 6,.l [Tg.i 11],.l [Tg.l [],Tg.l [Tg.i 12,Tg.i 13]],.n,.n,.i 7,.i 8,.n,.n,.n,.c,.c,.n,.n,.c,.i 9,.n,.i 10]),(3,[.i 4]),(4,[.c,.c,.c,.c,.c,.c]),(5,[]),(6,[]),(9,[]),(10,[]),(11,[.n,.n,.n,.n,.n,.n,.n,.n,.n,.l [Tg.l [Tg.i 11],Tg.l []],.l [Tg.l [Tg.i 11],Tg.l []],.n,.n,.n,.n,.n,.n,.c,.n,.n]),(12,[.i 11]),(13,[.i 2]),(7,[]),(8,[]),(0,[.i 1,.n,.n,.n,.n,.n,.c]),(1,[])],204⟩ Tryz.call140 (fun F' h=>(t_Key (A.ws.getD (entAt c ((startC c ke+i).tmod c.topics)).toNat 0) hU).fr) fun xn10 n10 hxn10 => ?_
 subst hxn10
 refine xO (InK IntKind.i64 (i+1)) (by simp only [InK]; omega) ?_
 refine xB ((keyW (A.ws.getD (entAt c ((startC c ke+i).tmod c.topics)).toNat 0)).is) (fun h11 => ?_) (fun h11 => ?_)
 ·skip
  refine xF ((keyW (A.ws.getD (entAt c ((startC c ke+i).tmod c.topics)).toNat 0)).key==ke) (by simp_all) ?_
  refine xB (A.ws.getD (entAt c ((startC c ke+i).tmod c.topics)).toNat 0==0) (fun h12 => ?_) (fun h12 => ?_)
  ·skip
   replace h12:=decT h12
   refine xTn (xT:=95) (v:=Value.pointer (some {block:=(g 11).b,off:=0})) taN_209_103 ?_
   exact xR () trivial
  ·skip
   replace h12:=decF h12
   refine xT (i+1==c.topics) (by first | (simp; done) | (simp; omega)) ?_
   refine xTn (xT:=95) (v:=Value.pointer (some {block:=(g 11).b,off:=0})) taN_209_103 ?_
   exact xR () trivial
 ·skip
  refine xB (A.ws.getD (entAt c ((startC c ke+i).tmod c.topics)).toNat 0==0) (fun h13 => ?_) (fun h13 => ?_)
  ·skip
   replace h13:=decT h13
   refine xTn (xT:=95) (v:=Value.pointer (some {block:=(g 11).b,off:=0})) taN_209_103 ?_
   exact xR () trivial
  ·skip
   replace h13:=decF h13
   refine xT (i+1==c.topics) (by first | (simp; done) | (simp; omega)) ?_
   refine xTn (xT:=95) (v:=Value.pointer (some {block:=(g 11).b,off:=0})) taN_209_103 ?_
   exact xR () trivial
theorem fd2c(c:Cfg)(k:Ck)(A:Ar)(hc:c.Ok)(hA:ArI A)(q i fa pl ep ti ke w at_:Int)(lg:Bool)(hat:(startC c ke+i).tmod c.topics=at_)(hr:0≤at_∧at_<c.topics)(hs:0≤startC c ke∧startC c ke<c.topics)(he:0≤entAt c at_∧entAt c at_<A.n)(hw:A.ws.getD (entAt c at_).toNat 0=w)(hU:U64 w)(hi:0≤i∧i<c.topics)(hk:¬((keyW w).is=true∧(keyW w).key=ke))(hz:w≠0)(hz2:i+1≠c.topics):
  Ct Tryz.prog 14 (stS A (clFd c k ⟨2,q,i,fa,pl,lg,ep,0,ti,ke⟩ 11) (A.load (entAt c at_)) (clFd c k ⟨2,q,i+1,fa,pl,lg,ep,0,ti,ke⟩ 11) .no):=by
 subst hw
 subst hat
 have hc':=hc
 simp only [Cfg.Ok] at hc'
 refine cX 75 xqI Tryz.func14 fun g F => ?_
 refine xCy [] [] (Tg.n) ⟨[(0,[.i 1,.n,.n,.n,.n,.n,.c]),(1,[]),(2,[.n,.n,.n,.n,.n,.n,.n,.n,.n,.i 3,.n,.n,.n,.n,.i 5,.n,.i 6,.l [Tg.i 11],.l [Tg.l [],Tg.l [Tg.i 12,Tg.i 13]],.n,.n,.i 7,.i 8,.n,.n,.n,.c,.c,.n,.n,.c,.i 9,.n,.i 10]),(3,[.i 4]),(4,[.c,.c,.c,.c,.c,.c]),(5,[]),(6,[]),(9,[]),(10,[]),(11,[.n,.n,.n,.n,.n,.n,.n,.n,.n,.l [Tg.l [Tg.i 11],Tg.l []],.l [Tg.l [Tg.i 11],Tg.l []],.n,.n,.n,.n,.n,.n,.c,.n,.n]),(12,[.i 11]),(13,[.i 2]),(7,[]),(8,[])],80⟩ Tryz.call42 (fun F' h=>(t_Start (c) hc (ke)).fr) fun xn1 n1 hxn1 => ?_
 subst hxn1
 refine xO (InK IntKind.i64 (startC c ke+i)) (by simp only [InK]; omega) ?_
 refine xO (c.topics≠0) (by omega) ?_
 refine xCy [] [] (Tg.n) ⟨[(0,[.i 1,.n,.n,.n,.n,.n,.c]),(1,[]),(2,[.n,.n,.n,.n,.n,.n,.n,.n,.n,.i 3,.n,.n,.n,.n,.i 5,.n,.i 6,.l [Tg.i 11],.l [Tg.l [],Tg.l [Tg.i 12,Tg.i 13]],.n,.n,.i 7,.i 8,.n,.n,.n,.c,.c,.n,.n,.c,.i 9,.n,.i 10]),(3,[.i 4]),(4,[.c,.c,.c,.c,.c,.c]),(5,[]),(6,[]),(9,[]),(10,[]),(11,[.n,.n,.n,.n,.n,.n,.n,.n,.n,.l [Tg.l [Tg.i 11],Tg.l []],.l [Tg.l [Tg.i 11],Tg.l []],.n,.n,.n,.n,.n,.n,.c,.n,.n]),(12,[.i 11]),(13,[.i 2]),(7,[]),(8,[])],122⟩ Tryz.call141 (fun F' h=>(t_Entry (c) hc ((startC c ke+i).tmod c.topics)).fr) fun xn3 n3 hxn3 => ?_
 subst hxn3
 refine xCy [⟨(g 0).b,none,0⟩,⟨0,(g 1).a,(g 1).c⟩] [0,1] (Tg.n) ⟨[(2,[.n,.n,.n,.n,.n,.n,.n,.n,.n,.i 3,.n,.n,.n,.n,.i 5,.n,.i 6,.l [Tg.i 11],.l [Tg.l [],Tg.l [Tg.i 12,Tg.i 13]],.n,.n,.i 7,.i 8,.n,.n,.n,.c,.c,.n,.n,.c,.i 9,.n,.i 10]),(3,[.i 4]),(4,[.c,.c,.c,.c,.c,.c]),(5,[]),(6,[]),(9,[]),(10,[]),(11,[.n,.n,.n,.n,.n,.n,.n,.n,.n,.l [Tg.l [Tg.i 11],Tg.l []],.l [Tg.l [Tg.i 11],Tg.l []],.n,.n,.n,.n,.n,.n,.c,.n,.n]),(12,[.i 11]),(13,[.i 2]),(7,[]),(8,[]),(0,[.i 1,.n,.n,.n,.n,.n,.c]),(1,[])],163⟩ Tryz.call137 (fun F' h=>(t_Load (A) (entAt c ((startC c ke+i).tmod c.topics)) hA he).fr) fun _ n6 _ => ?_
 refine xCy [] [] ((Tg.l [Tg.n,Tg.n,Tg.n])) ⟨[(2,[.n,.n,.n,.n,.n,.n,.n,.n,.n,.i 3,.n,.n,.n,.n,.i 5,.n,.i 6,.l [Tg.i 11],.l [Tg.l [],Tg.l [Tg.i 12,Tg.i 13]],.n,.n,.i 7,.i 8,.n,.n,.n,.c,.c,.n,.n,.c,.i 9,.n,.i 10]),(3,[.i 4]),(4,[.c,.c,.c,.c,.c,.c]),(5,[]),(6,[]),(9,[]),(10,[]),(11,[.n,.n,.n,.n,.n,.n,.n,.n,.n,.l [Tg.l [Tg.i 11],Tg.l []],.l [Tg.l [Tg.i 11],Tg.l []],.n,.n,.n,.n,.n,.n,.c,.n,.n]),(12,[.i 11]),(13,[.i 2]),(7,[]),(8,[]),(0,[.i 1,.n,.n,.n,.n,.n,.c]),(1,[])],204⟩ Tryz.call140 (fun F' h=>(t_Key (A.ws.getD (entAt c ((startC c ke+i).tmod c.topics)).toNat 0) hU).fr) fun xn10 n10 hxn10 => ?_
 subst hxn10
 refine xO (InK IntKind.i64 (i+1)) (by simp only [InK]; omega) ?_
 refine xB ((keyW (A.ws.getD (entAt c ((startC c ke+i).tmod c.topics)).toNat 0)).is) (fun h11 => ?_) (fun h11 => ?_)
 ·skip
  refine xF ((keyW (A.ws.getD (entAt c ((startC c ke+i).tmod c.topics)).toNat 0)).key==ke) (by simp_all) ?_
  refine xF (A.ws.getD (entAt c ((startC c ke+i).tmod c.topics)).toNat 0==0) (beq_eq_false_iff_ne.2 (by omega)) ?_
  refine xF (i+1==c.topics) (by first | (simp; done) | (simp; omega)) ?_
  refine xTn (xT:=95) (v:=Value.pointer (some {block:=(g 11).b,off:=0})) taN_209_103 ?_
  exact xR () trivial
 ·skip
  refine xF (A.ws.getD (entAt c ((startC c ke+i).tmod c.topics)).toNat 0==0) (beq_eq_false_iff_ne.2 (by omega)) ?_
  refine xF (i+1==c.topics) (by first | (simp; done) | (simp; omega)) ?_
  refine xTn (xT:=95) (v:=Value.pointer (some {block:=(g 11).b,off:=0})) taN_209_103 ?_
  exact xR () trivial
end Go.Proofs.YtnnoeefjnpcfnaaGreatDoor
/- A client's step: it finds. -/
set_option maxRecDepth 100000
set_option maxHeartbeats 0
namespace Go.Proofs.YtnnoeefjnpcfnaaGreatDoor
open Go.Sx
theorem fd3(c:Cfg)(k:Ck)(A:Ar)(hc:c.Ok)(hA:ArI A)(q i fa pl ep ti ke w e:Int)(lg:Bool)(hp:0≤pl∧pl<c.topics)(he:0≤ctlAt c pl∧ctlAt c pl<A.n)(hw:A.ws.getD (ctlAt c pl).toNat 0=w)(hU:U64 w):
  Ct Tryz.prog 14 (stS A (clFd c k ⟨3,q,i,fa,pl,lg,0,0,ti,ke⟩ 11) (A.load (ctlAt c pl)) (clFd c k ⟨4,q,i,fa,pl,lg,ctlEpoch w,0,ti,ke⟩ 11) .no):=by
 subst hw
 refine cX 75 xqI Tryz.func14 fun g F => ?_
 refine xCy [] [] (Tg.n) ⟨[(0,[.i 1,.n,.n,.n,.n,.n,.c]),(1,[]),(2,[.n,.n,.n,.n,.n,.n,.n,.n,.n,.i 3,.n,.n,.n,.n,.i 5,.n,.i 6,.l [Tg.i 11],.l [Tg.l [],Tg.l [Tg.i 12,Tg.i 13]],.n,.n,.i 7,.i 8,.n,.n,.n,.c,.c,.n,.n,.c,.i 9,.n,.i 10]),(3,[.i 4]),(4,[.c,.c,.c,.c,.c,.c]),(5,[]),(6,[]),(9,[]),(10,[]),(11,[.n,.n,.n,.n,.n,.n,.n,.n,.n,.l [Tg.l [Tg.i 11],Tg.l []],.l [Tg.l [Tg.i 11],Tg.l []],.n,.n,.n,.n,.n,.n,.c,.n,.n]),(12,[.i 11]),(13,[.i 2]),(7,[]),(8,[])],80⟩ Tryz.call194 (fun F' h=>(t_Control (c) hc (pl)).fr) fun xn1 n1 hxn1 => ?_
 subst hxn1
 refine xCy [⟨(g 0).b,none,0⟩,⟨0,(g 1).a,(g 1).c⟩] [0,1] (Tg.n) ⟨[(2,[.n,.n,.n,.n,.n,.n,.n,.n,.n,.i 3,.n,.n,.n,.n,.i 5,.n,.i 6,.l [Tg.i 11],.l [Tg.l [],Tg.l [Tg.i 12,Tg.i 13]],.n,.n,.i 7,.i 8,.n,.n,.n,.c,.c,.n,.n,.c,.i 9,.n,.i 10]),(3,[.i 4]),(4,[.c,.c,.c,.c,.c,.c]),(5,[]),(6,[]),(9,[]),(10,[]),(11,[.n,.n,.n,.n,.n,.n,.n,.n,.n,.l [Tg.l [Tg.i 11],Tg.l []],.l [Tg.l [Tg.i 11],Tg.l []],.n,.n,.n,.n,.n,.n,.c,.n,.n]),(12,[.i 11]),(13,[.i 2]),(7,[]),(8,[]),(0,[.i 1,.n,.n,.n,.n,.n,.c]),(1,[])],121⟩ Tryz.call137 (fun F' h=>(t_Load (A) (ctlAt c pl) hA he).fr) fun _ n3 _ => ?_
 refine xCy [] [] (Tg.l [Tg.n,Tg.n,Tg.n,Tg.n,Tg.n]) ⟨[(2,[.n,.n,.n,.n,.n,.n,.n,.n,.n,.i 3,.n,.n,.n,.n,.i 5,.n,.i 6,.l [Tg.i 11],.l [Tg.l [],Tg.l [Tg.i 12,Tg.i 13]],.n,.n,.i 7,.i 8,.n,.n,.n,.c,.c,.n,.n,.c,.i 9,.n,.i 10]),(3,[.i 4]),(4,[.c,.c,.c,.c,.c,.c]),(5,[]),(6,[]),(9,[]),(10,[]),(11,[.n,.n,.n,.n,.n,.n,.n,.n,.n,.l [Tg.l [Tg.i 11],Tg.l []],.l [Tg.l [Tg.i 11],Tg.l []],.n,.n,.n,.n,.n,.n,.c,.n,.n]),(12,[.i 11]),(13,[.i 2]),(7,[]),(8,[]),(0,[.i 1,.n,.n,.n,.n,.n,.c]),(1,[])],162⟩ Tryz.call197 (fun F' h=>(t_Unpack (A.ws.getD (ctlAt c pl).toNat 0) hU).fr) fun _ n6 _ => ?_
 refine xTn (xT:=95) (v:=Value.pointer (some {block:=(g 11).b,off:=0})) taN_209_103 ?_
 exact xR () trivial
theorem fd4a(c:Cfg)(k:Ck)(A:Ar)(hc:c.Ok)(hA:ArI A)(q i fa pl ep ti ke w e:Int)(lg:Bool)(hn:2<A.n)(hw:A.ws.getD 2 0=q)(F:Fr)(hF:HF F):
  CtF Tryz.prog F 14 (stV A (clFd c k ⟨4,q,i,fa,pl,lg,ep,12,ti,ke⟩ 11) (A.load 2) fun v=>clZ c (k.code 12 (A.steps+1)) v):=by
 subst hw
 refine cF 75 xqI Tryz.func14 fun g => ?_
 refine xCy [⟨(g 0).b,none,0⟩,⟨0,(g 1).a,(g 1).c⟩] [0,1] (Tg.n) ⟨[(2,[.n,.n,.n,.n,.n,.n,.n,.n,.n,.i 3,.n,.n,.n,.n,.i 5,.n,.i 6,.l [Tg.i 11],.l [Tg.l [],Tg.l [Tg.i 12,Tg.i 13]],.n,.n,.i 7,.i 8,.n,.n,.n,.c,.c,.n,.n,.c,.i 9,.n,.i 10]),(3,[.i 4]),(4,[.c,.c,.c,.c,.c,.c]),(5,[]),(6,[]),(9,[]),(10,[]),(11,[.n,.n,.n,.n,.n,.n,.n,.n,.n,.l [Tg.l [Tg.i 11],Tg.l []],.l [Tg.l [Tg.i 11],Tg.l []],.n,.n,.n,.n,.n,.n,.l [Tg.c],.n,.n]),(12,[.i 11]),(13,[.i 2]),(7,[]),(8,[]),(0,[.i 1,.n,.n,.n,.n,.n,.c]),(1,[])],80⟩ Tryz.call137 (fun F' h=>(t_Load (A) (2) hA (by omega)).fr) fun _ n1 _ => ?_
 refine xCy [⟨(g 0).b,none,0⟩,⟨0,(g 1).a,(g 1).c⟩] [12,13] (Tg.n) ⟨[(2,[.n,.n,.n,.n,.n,.n,.n,.n,.n,.i 3,.n,.n,.n,.n,.i 5,.n,.i 6,.l [Tg.i 11],.l [Tg.l [],Tg.l [Tg.i 12,Tg.i 13]],.n,.n,.i 7,.i 8,.n,.n,.n,.c,.c,.n,.n,.c,.i 9,.n,.i 10]),(3,[.i 4]),(4,[.c,.c,.c,.c,.c,.c]),(5,[]),(6,[]),(9,[]),(10,[]),(11,[.n,.n,.n,.n,.n,.n,.n,.n,.n,.l [Tg.l [Tg.i 11],Tg.l []],.l [Tg.l [Tg.i 11],Tg.l []],.n,.n,.n,.n,.n,.n,.l [Tg.c],.n,.n]),(12,[.i 11]),(13,[.i 2]),(7,[]),(8,[]),(0,[.i 1,.n,.n,.n,.n,.n,.c]),(1,[])],121⟩ Tryz.call16 (fun F' h=>(t_Steps (A.n) ((A.load 2).steps) ((A.load 2).lk) ((A.load 2).lw) ((A.load 2).lv) (false) ((A.load 2).ws)).fr) fun _ n3 _ => ?_
 refine xF (!A.ws.getD 2 0==A.ws.getD 2 0) (by first | (simp; done) | (simp; omega)) ?_
 refine xTn (xT:=95) (v:=Value.pointer (some {block:=(g 11).b,off:=0})) taN_209_103 ?_
 refine xN fun b4 => ?_
 refine xN fun b5 => ?_
 refine xN fun b6 => ?_
 refine xN fun b7 => ?_
 refine xCy [] [] (Tg.n) ⟨[(2,[.n,.n,.n,.n,.n,.n,.n,.n,.n,.i 3,.n,.n,.n,.n,.i 5,.n,.i 6,.l [Tg.i 11],.l [Tg.l [],Tg.l [Tg.i 12,Tg.i 13]],.n,.n,.i 7,.i 8,.n,.n,.n,.c,.c,.n,.n,.c,.i 9,.n,.i 10]),(3,[.i 4]),(4,[.c,.c,.c,.c,.c,.c]),(5,[]),(6,[]),(9,[]),(10,[]),(11,[.n,.n,.n,.n,.n,.n,.n,.n,.n,.c,.l [Tg.l [Tg.i 11],Tg.l []],.n,.n,.n,.n,.n,.n,.l [Tg.c],.q 121 false,.n]),(12,[.i 11]),(13,[.i 2]),(7,[]),(8,[]),(0,[.i 1,.n,.n,.n,.n,.n,.c]),(1,[]),(125,[.c,.c,.c]),(126,[.c,.c,.c]),(127,[.c,.c,.c]),(130,[.c,.c,.c])],172⟩ Tryz.call74 (fun F' h=>t_topE (12) F' (hF.mono h)) fun _ n10 _ => ?_
 refine xN fun b11 => ?_
 exact xR (Value.func (Fn.func (125:Nat)) {toList:=[]} {toList:=[Value.pointer (some {block:=(g ((11:Nat)+(1:Nat))).b,off:=(0:Nat)}),Value.pointer (some {block:=(g ((11:Nat)+(2:Nat))).b,off:=(0:Nat)})]}) (by omega)
theorem fd4b(c:Cfg)(k:Ck)(A:Ar)(hc:c.Ok)(hA:ArI A)(q i fa pl ep ti ke w e:Int)(lg:Bool)(hn:2<A.n)(hw:A.ws.getD 2 0≠q)(hf:0≤fa∧fa<100)(hr:fa+1≠c.retry):
  Ct Tryz.prog 14 (stS A (clFd c k ⟨4,q,i,fa,pl,lg,ep,0,ti,ke⟩ 11) (A.load 2) (clFd c k ⟨1,q,i,fa+1,0,false,0,0,A.steps+1,ke⟩ 11) .no):=by
 refine cX 75 xqI Tryz.func14 fun g F => ?_
 refine xCy [⟨(g 0).b,none,0⟩,⟨0,(g 1).a,(g 1).c⟩] [0,1] (Tg.n) ⟨[(2,[.n,.n,.n,.n,.n,.n,.n,.n,.n,.i 3,.n,.n,.n,.n,.i 5,.n,.i 6,.l [Tg.i 11],.l [Tg.l [],Tg.l [Tg.i 12,Tg.i 13]],.n,.n,.i 7,.i 8,.n,.n,.n,.c,.c,.n,.n,.c,.i 9,.n,.i 10]),(3,[.i 4]),(4,[.c,.c,.c,.c,.c,.c]),(5,[]),(6,[]),(9,[]),(10,[]),(11,[.n,.n,.n,.n,.n,.n,.n,.n,.n,.l [Tg.l [Tg.i 11],Tg.l []],.l [Tg.l [Tg.i 11],Tg.l []],.n,.n,.n,.n,.n,.n,.c,.n,.n]),(12,[.i 11]),(13,[.i 2]),(7,[]),(8,[]),(0,[.i 1,.n,.n,.n,.n,.n,.c]),(1,[])],80⟩ Tryz.call137 (fun F' h=>(t_Load (A) (2) hA (by omega)).fr) fun _ n1 _ => ?_
 refine xCy [⟨(g 0).b,none,0⟩,⟨0,(g 1).a,(g 1).c⟩] [12,13] (Tg.n) ⟨[(2,[.n,.n,.n,.n,.n,.n,.n,.n,.n,.i 3,.n,.n,.n,.n,.i 5,.n,.i 6,.l [Tg.i 11],.l [Tg.l [],Tg.l [Tg.i 12,Tg.i 13]],.n,.n,.i 7,.i 8,.n,.n,.n,.c,.c,.n,.n,.c,.i 9,.n,.i 10]),(3,[.i 4]),(4,[.c,.c,.c,.c,.c,.c]),(5,[]),(6,[]),(9,[]),(10,[]),(11,[.n,.n,.n,.n,.n,.n,.n,.n,.n,.l [Tg.l [Tg.i 11],Tg.l []],.l [Tg.l [Tg.i 11],Tg.l []],.n,.n,.n,.n,.n,.n,.c,.n,.n]),(12,[.i 11]),(13,[.i 2]),(7,[]),(8,[]),(0,[.i 1,.n,.n,.n,.n,.n,.c]),(1,[])],121⟩ Tryz.call16 (fun F' h=>(t_Steps (A.n) ((A.load 2).steps) ((A.load 2).lk) ((A.load 2).lw) ((A.load 2).lv) (false) ((A.load 2).ws)).fr) fun _ n3 _ => ?_
 refine xT (!A.ws.getD 2 0==q) (not_beq hw) ?_
 refine xN fun b4 => ?_
 refine xO (InK IntKind.i64 (fa+1)) (by simp only [InK]; omega) ?_
 refine xF (fa+1==c.retry) (by first | (simp; done) | (simp; omega)) ?_
 refine xTn (xT:=95) (v:=Value.pointer (some {block:=(g 11).b,off:=0})) taN_209_103 ?_
 exact xR () trivial
theorem fd4b2(c:Cfg)(k:Ck)(A:Ar)(hc:c.Ok)(hA:ArI A)(q i fa pl ep ti ke w e:Int)(lg:Bool)(hn:2<A.n)(hw:A.ws.getD 2 0≠q)(hf:0≤fa∧fa<100)(hr:fa+1≠c.retry):
  Ct Tryz.prog 14 (stS A (clFd c k ⟨4,q,i,fa,pl,lg,ep,12,ti,ke⟩ 11) (A.load 2) (clFd c k ⟨1,q,i,fa+1,0,false,0,0,A.steps+1,ke⟩ 11) .no):=by
 refine cX 75 xqI Tryz.func14 fun g F => ?_
 refine xCy [⟨(g 0).b,none,0⟩,⟨0,(g 1).a,(g 1).c⟩] [0,1] (Tg.n) ⟨[(2,[.n,.n,.n,.n,.n,.n,.n,.n,.n,.i 3,.n,.n,.n,.n,.i 5,.n,.i 6,.l [Tg.i 11],.l [Tg.l [],Tg.l [Tg.i 12,Tg.i 13]],.n,.n,.i 7,.i 8,.n,.n,.n,.c,.c,.n,.n,.c,.i 9,.n,.i 10]),(3,[.i 4]),(4,[.c,.c,.c,.c,.c,.c]),(5,[]),(6,[]),(9,[]),(10,[]),(11,[.n,.n,.n,.n,.n,.n,.n,.n,.n,.l [Tg.l [Tg.i 11],Tg.l []],.l [Tg.l [Tg.i 11],Tg.l []],.n,.n,.n,.n,.n,.n,.l [Tg.c],.n,.n]),(12,[.i 11]),(13,[.i 2]),(7,[]),(8,[]),(0,[.i 1,.n,.n,.n,.n,.n,.c]),(1,[])],80⟩ Tryz.call137 (fun F' h=>(t_Load (A) (2) hA (by omega)).fr) fun _ n1 _ => ?_
 refine xCy [⟨(g 0).b,none,0⟩,⟨0,(g 1).a,(g 1).c⟩] [12,13] (Tg.n) ⟨[(2,[.n,.n,.n,.n,.n,.n,.n,.n,.n,.i 3,.n,.n,.n,.n,.i 5,.n,.i 6,.l [Tg.i 11],.l [Tg.l [],Tg.l [Tg.i 12,Tg.i 13]],.n,.n,.i 7,.i 8,.n,.n,.n,.c,.c,.n,.n,.c,.i 9,.n,.i 10]),(3,[.i 4]),(4,[.c,.c,.c,.c,.c,.c]),(5,[]),(6,[]),(9,[]),(10,[]),(11,[.n,.n,.n,.n,.n,.n,.n,.n,.n,.l [Tg.l [Tg.i 11],Tg.l []],.l [Tg.l [Tg.i 11],Tg.l []],.n,.n,.n,.n,.n,.n,.l [Tg.c],.n,.n]),(12,[.i 11]),(13,[.i 2]),(7,[]),(8,[]),(0,[.i 1,.n,.n,.n,.n,.n,.c]),(1,[])],121⟩ Tryz.call16 (fun F' h=>(t_Steps (A.n) ((A.load 2).steps) ((A.load 2).lk) ((A.load 2).lw) ((A.load 2).lv) (false) ((A.load 2).ws)).fr) fun _ n3 _ => ?_
 refine xT (!A.ws.getD 2 0==q) (not_beq hw) ?_
 refine xN fun b4 => ?_
 refine xO (InK IntKind.i64 (fa+1)) (by simp only [InK]; omega) ?_
 refine xF (fa+1==c.retry) (by first | (simp; done) | (simp; omega)) ?_
 refine xTn (xT:=95) (v:=Value.pointer (some {block:=(g 11).b,off:=0})) taN_209_103 ?_
 exact xR () trivial
theorem fd4c(c:Cfg)(k:Ck)(A:Ar)(hc:c.Ok)(hA:ArI A)(q i fa pl ep ti ke w e:Int)(lg:Bool)(hn:2<A.n)(hw:A.ws.getD 2 0≠q)(hf:0≤fa∧fa<100)(hr:fa+1=c.retry)(F:Fr)(hF:HF F):
  CtF Tryz.prog F 14 (stV A (clFd c k ⟨4,q,i,fa,pl,lg,ep,0,ti,ke⟩ 11) (A.load 2) fun v=>clZ c (k.code 17 (A.steps+1)) v):=by
 refine cF 75 xqI Tryz.func14 fun g => ?_
 refine xCy [⟨(g 0).b,none,0⟩,⟨0,(g 1).a,(g 1).c⟩] [0,1] (Tg.n) ⟨[(2,[.n,.n,.n,.n,.n,.n,.n,.n,.n,.i 3,.n,.n,.n,.n,.i 5,.n,.i 6,.l [Tg.i 11],.l [Tg.l [],Tg.l [Tg.i 12,Tg.i 13]],.n,.n,.i 7,.i 8,.n,.n,.n,.c,.c,.n,.n,.c,.i 9,.n,.i 10]),(3,[.i 4]),(4,[.c,.c,.c,.c,.c,.c]),(5,[]),(6,[]),(9,[]),(10,[]),(11,[.n,.n,.n,.n,.n,.n,.n,.n,.n,.l [Tg.l [Tg.i 11],Tg.l []],.l [Tg.l [Tg.i 11],Tg.l []],.n,.n,.n,.n,.n,.n,.c,.n,.n]),(12,[.i 11]),(13,[.i 2]),(7,[]),(8,[]),(0,[.i 1,.n,.n,.n,.n,.n,.c]),(1,[])],80⟩ Tryz.call137 (fun F' h=>(t_Load (A) (2) hA (by omega)).fr) fun _ n1 _ => ?_
 refine xCy [⟨(g 0).b,none,0⟩,⟨0,(g 1).a,(g 1).c⟩] [12,13] (Tg.n) ⟨[(2,[.n,.n,.n,.n,.n,.n,.n,.n,.n,.i 3,.n,.n,.n,.n,.i 5,.n,.i 6,.l [Tg.i 11],.l [Tg.l [],Tg.l [Tg.i 12,Tg.i 13]],.n,.n,.i 7,.i 8,.n,.n,.n,.c,.c,.n,.n,.c,.i 9,.n,.i 10]),(3,[.i 4]),(4,[.c,.c,.c,.c,.c,.c]),(5,[]),(6,[]),(9,[]),(10,[]),(11,[.n,.n,.n,.n,.n,.n,.n,.n,.n,.l [Tg.l [Tg.i 11],Tg.l []],.l [Tg.l [Tg.i 11],Tg.l []],.n,.n,.n,.n,.n,.n,.c,.n,.n]),(12,[.i 11]),(13,[.i 2]),(7,[]),(8,[]),(0,[.i 1,.n,.n,.n,.n,.n,.c]),(1,[])],121⟩ Tryz.call16 (fun F' h=>(t_Steps (A.n) ((A.load 2).steps) ((A.load 2).lk) ((A.load 2).lw) ((A.load 2).lv) (false) ((A.load 2).ws)).fr) fun _ n3 _ => ?_
 refine xT (!A.ws.getD 2 0==q) (not_beq hw) ?_
 refine xN fun b4 => ?_
 refine xO (InK IntKind.i64 (fa+1)) (by simp only [InK]; omega) ?_
 refine xT (fa+1==c.retry) (by first | (simp; done) | (simp; omega)) ?_
 refine xTn (xT:=95) (v:=Value.pointer (some {block:=(g 11).b,off:=0})) taN_209_103 ?_
 refine xN fun b5 => ?_
 refine xN fun b6 => ?_
 refine xN fun b7 => ?_
 refine xN fun b8 => ?_
 refine xCy [] [] (Tg.n) ⟨[(2,[.n,.n,.n,.n,.n,.n,.n,.n,.n,.i 3,.n,.n,.n,.n,.i 5,.n,.i 6,.l [Tg.i 11],.l [Tg.l [],Tg.l [Tg.i 12,Tg.i 13]],.n,.n,.i 7,.i 8,.n,.n,.n,.c,.c,.n,.n,.c,.i 9,.n,.i 10]),(3,[.i 4]),(4,[.c,.c,.c,.c,.c,.c]),(5,[]),(6,[]),(9,[]),(10,[]),(11,[.n,.n,.n,.n,.n,.n,.n,.n,.n,.c,.l [Tg.l [Tg.i 11],Tg.l []],.n,.n,.q 127 false,.c,.c,.c,.l [Tg.c],.q 121 false,.n]),(12,[.i 11]),(13,[.i 2]),(7,[]),(8,[]),(0,[.i 1,.n,.n,.n,.n,.n,.c]),(1,[]),(125,[.c,.c,.c]),(134,[.c,.c,.c]),(135,[.c,.c,.c]),(136,[.c,.c,.c]),(139,[.c,.c,.c])],181⟩ Tryz.call74 (fun F' h=>t_topE (17) F' (hF.mono h)) fun _ n11 _ => ?_
 refine xN fun b12 => ?_
 exact xR (Value.func (Fn.func (125:Nat)) {toList:=[]} {toList:=[Value.pointer (some {block:=(g ((11:Nat)+(1:Nat))).b,off:=(0:Nat)}),Value.pointer (some {block:=(g ((11:Nat)+(2:Nat))).b,off:=(0:Nat)})]}) (by omega)
theorem fd4c2(c:Cfg)(k:Ck)(A:Ar)(hc:c.Ok)(hA:ArI A)(q i fa pl ep ti ke w e:Int)(lg:Bool)(hn:2<A.n)(hw:A.ws.getD 2 0≠q)(hf:0≤fa∧fa<100)(hr:fa+1=c.retry)(F:Fr)(hF:HF F):
  CtF Tryz.prog F 14 (stV A (clFd c k ⟨4,q,i,fa,pl,lg,ep,12,ti,ke⟩ 11) (A.load 2) fun v=>clZ c (k.code 17 (A.steps+1)) v):=by
 refine cF 75 xqI Tryz.func14 fun g => ?_
 refine xCy [⟨(g 0).b,none,0⟩,⟨0,(g 1).a,(g 1).c⟩] [0,1] (Tg.n) ⟨[(2,[.n,.n,.n,.n,.n,.n,.n,.n,.n,.i 3,.n,.n,.n,.n,.i 5,.n,.i 6,.l [Tg.i 11],.l [Tg.l [],Tg.l [Tg.i 12,Tg.i 13]],.n,.n,.i 7,.i 8,.n,.n,.n,.c,.c,.n,.n,.c,.i 9,.n,.i 10]),(3,[.i 4]),(4,[.c,.c,.c,.c,.c,.c]),(5,[]),(6,[]),(9,[]),(10,[]),(11,[.n,.n,.n,.n,.n,.n,.n,.n,.n,.l [Tg.l [Tg.i 11],Tg.l []],.l [Tg.l [Tg.i 11],Tg.l []],.n,.n,.n,.n,.n,.n,.l [Tg.c],.n,.n]),(12,[.i 11]),(13,[.i 2]),(7,[]),(8,[]),(0,[.i 1,.n,.n,.n,.n,.n,.c]),(1,[])],80⟩ Tryz.call137 (fun F' h=>(t_Load (A) (2) hA (by omega)).fr) fun _ n1 _ => ?_
 refine xCy [⟨(g 0).b,none,0⟩,⟨0,(g 1).a,(g 1).c⟩] [12,13] (Tg.n) ⟨[(2,[.n,.n,.n,.n,.n,.n,.n,.n,.n,.i 3,.n,.n,.n,.n,.i 5,.n,.i 6,.l [Tg.i 11],.l [Tg.l [],Tg.l [Tg.i 12,Tg.i 13]],.n,.n,.i 7,.i 8,.n,.n,.n,.c,.c,.n,.n,.c,.i 9,.n,.i 10]),(3,[.i 4]),(4,[.c,.c,.c,.c,.c,.c]),(5,[]),(6,[]),(9,[]),(10,[]),(11,[.n,.n,.n,.n,.n,.n,.n,.n,.n,.l [Tg.l [Tg.i 11],Tg.l []],.l [Tg.l [Tg.i 11],Tg.l []],.n,.n,.n,.n,.n,.n,.l [Tg.c],.n,.n]),(12,[.i 11]),(13,[.i 2]),(7,[]),(8,[]),(0,[.i 1,.n,.n,.n,.n,.n,.c]),(1,[])],121⟩ Tryz.call16 (fun F' h=>(t_Steps (A.n) ((A.load 2).steps) ((A.load 2).lk) ((A.load 2).lw) ((A.load 2).lv) (false) ((A.load 2).ws)).fr) fun _ n3 _ => ?_
 refine xT (!A.ws.getD 2 0==q) (not_beq hw) ?_
 refine xN fun b4 => ?_
 refine xO (InK IntKind.i64 (fa+1)) (by simp only [InK]; omega) ?_
 refine xT (fa+1==c.retry) (by first | (simp; done) | (simp; omega)) ?_
 refine xTn (xT:=95) (v:=Value.pointer (some {block:=(g 11).b,off:=0})) taN_209_103 ?_
 refine xN fun b5 => ?_
 refine xN fun b6 => ?_
 refine xN fun b7 => ?_
 refine xN fun b8 => ?_
 refine xCy [] [] (Tg.n) ⟨[(2,[.n,.n,.n,.n,.n,.n,.n,.n,.n,.i 3,.n,.n,.n,.n,.i 5,.n,.i 6,.l [Tg.i 11],.l [Tg.l [],Tg.l [Tg.i 12,Tg.i 13]],.n,.n,.i 7,.i 8,.n,.n,.n,.c,.c,.n,.n,.c,.i 9,.n,.i 10]),(3,[.i 4]),(4,[.c,.c,.c,.c,.c,.c]),(5,[]),(6,[]),(9,[]),(10,[]),(11,[.n,.n,.n,.n,.n,.n,.n,.n,.n,.c,.l [Tg.l [Tg.i 11],Tg.l []],.n,.n,.q 127 false,.c,.c,.c,.l [Tg.c],.q 121 false,.n]),(12,[.i 11]),(13,[.i 2]),(7,[]),(8,[]),(0,[.i 1,.n,.n,.n,.n,.n,.c]),(1,[]),(125,[.c,.c,.c]),(134,[.c,.c,.c]),(135,[.c,.c,.c]),(136,[.c,.c,.c]),(139,[.c,.c,.c])],181⟩ Tryz.call74 (fun F' h=>t_topE (17) F' (hF.mono h)) fun _ n11 _ => ?_
 refine xN fun b12 => ?_
 exact xR (Value.func (Fn.func (125:Nat)) {toList:=[]} {toList:=[Value.pointer (some {block:=(g ((11:Nat)+(1:Nat))).b,off:=(0:Nat)}),Value.pointer (some {block:=(g ((11:Nat)+(2:Nat))).b,off:=(0:Nat)})]}) (by omega)
end Go.Proofs.YtnnoeefjnpcfnaaGreatDoor
/- A client's step: what was found is written, or read. -/
set_option maxRecDepth 100000
set_option maxHeartbeats 0
namespace Go.Proofs.YtnnoeefjnpcfnaaGreatDoor
open Go.Sx
theorem fs1(c:Cfg)(k:Ck)(A:Ar)(hc:c.Ok)(hA:ArI A)(q i fa pl ep ti ke:Int)(hn:2<A.n)(hw:A.ws.getD 2 0=q)(hk:k.kind=3)(hs:c.small<(k.ows.length:Int))(hl:(k.ows.length:Int)≤1000)(F:Fr)(hF:HF F):
  CtF Tryz.prog F 14 (stV A (clFd c k ⟨4,q,i,fa,pl,false,ep,0,ti,ke⟩ 11) (A.load 2) fun v=>clZ c (k.code 21 (A.steps+1)) v):=by
 subst hw
 have hc':=hc
 simp only [Cfg.Ok] at hc'
 refine cF 75 xqI Tryz.func14 fun g => ?_
 refine xCy [⟨(g 0).b,none,0⟩,⟨0,(g 1).a,(g 1).c⟩] [0,1] (Tg.n) ⟨[(2,[.n,.n,.n,.n,.n,.n,.n,.n,.n,.i 3,.n,.n,.n,.n,.i 5,.n,.i 6,.l [Tg.i 11],.l [Tg.l [],Tg.l [Tg.i 12,Tg.i 13]],.n,.n,.i 7,.i 8,.n,.n,.n,.c,.c,.n,.n,.c,.i 9,.n,.i 10]),(3,[.i 4]),(4,[.c,.c,.c,.c,.c,.c]),(5,[]),(6,[]),(9,[]),(10,[]),(11,[.n,.n,.n,.n,.n,.n,.n,.n,.n,.l [Tg.l [Tg.i 11],Tg.l []],.l [Tg.l [Tg.i 11],Tg.l []],.n,.n,.n,.n,.n,.n,.c,.n,.n]),(12,[.i 11]),(13,[.i 2]),(7,[]),(8,[]),(0,[.i 1,.n,.n,.n,.n,.n,.c]),(1,[])],80⟩ Tryz.call137 (fun F' h=>(t_Load (A) (2) hA (by omega)).fr) fun _ n1 _ => ?_
 refine xCy [⟨(g 0).b,none,0⟩,⟨0,(g 1).a,(g 1).c⟩] [12,13] (Tg.n) ⟨[(2,[.n,.n,.n,.n,.n,.n,.n,.n,.n,.i 3,.n,.n,.n,.n,.i 5,.n,.i 6,.l [Tg.i 11],.l [Tg.l [],Tg.l [Tg.i 12,Tg.i 13]],.n,.n,.i 7,.i 8,.n,.n,.n,.c,.c,.n,.n,.c,.i 9,.n,.i 10]),(3,[.i 4]),(4,[.c,.c,.c,.c,.c,.c]),(5,[]),(6,[]),(9,[]),(10,[]),(11,[.n,.n,.n,.n,.n,.n,.n,.n,.n,.l [Tg.l [Tg.i 11],Tg.l []],.l [Tg.l [Tg.i 11],Tg.l []],.n,.n,.n,.n,.n,.n,.c,.n,.n]),(12,[.i 11]),(13,[.i 2]),(7,[]),(8,[]),(0,[.i 1,.n,.n,.n,.n,.n,.c]),(1,[])],121⟩ Tryz.call16 (fun F' h=>(t_Steps (A.n) ((A.load 2).steps) ((A.load 2).lk) ((A.load 2).lw) ((A.load 2).lv) (false) ((A.load 2).ws)).fr) fun _ n3 _ => ?_
 refine xF (!A.ws.getD 2 0==A.ws.getD 2 0) (by first | (simp; done) | (simp; omega)) ?_
 refine xTn (xT:=95) (v:=Value.pointer (some {block:=(g 11).b,off:=0})) taN_209_103 ?_
 refine xN fun b4 => ?_
 refine xN fun b5 => ?_
 refine xN fun b6 => ?_
 refine xN fun b7 => ?_
 refine xT (k.kind==3) (by first | (simp; done) | (simp; omega)) ?_
 refine xN fun b8 => ?_
 refine xN fun b9 => ?_
 refine xT (!false) rfl ?_
 refine xT (decide (↑k.ows.length>c.small)) (by first | (simp; done) | (simp; omega)) ?_
 refine xN fun b10 => ?_
 exact xR (Value.func (Fn.func (125:Nat)) {toList:=[]} {toList:=[Value.pointer (some {block:=(g ((11:Nat)+(1:Nat))).b,off:=(0:Nat)}),Value.pointer (some {block:=(g ((11:Nat)+(2:Nat))).b,off:=(0:Nat)})]}) (by omega)
theorem fs2(c:Cfg)(k:Ck)(A:Ar)(hc:c.Ok)(hA:ArI A)(q i fa pl ep ti ke:Int)(hn:2<A.n)(hw:A.ws.getD 2 0=q)(hk:k.kind=3)(hs:(k.ows.length:Int)≤c.small)(h1:1≤(k.ows.length:Int))(hp:0≤pl∧pl<c.topics)(he:0≤ctlAt c pl):
  Ct Tryz.prog 14 (stS A (clFd c k ⟨4,q,i,fa,pl,false,ep,0,ti,ke⟩ 11) (A.load 2) (clSw c k ⟨newSm pl ep,k.ows,0,false⟩ 41) .no):=by
 subst hw
 have hc':=hc
 simp only [Cfg.Ok] at hc'
 refine cX 75 xqI Tryz.func14 fun g F => ?_
 refine xCy [⟨(g 0).b,none,0⟩,⟨0,(g 1).a,(g 1).c⟩] [0,1] (Tg.n) ⟨[(2,[.n,.n,.n,.n,.n,.n,.n,.n,.n,.i 3,.n,.n,.n,.n,.i 5,.n,.i 6,.l [Tg.i 11],.l [Tg.l [],Tg.l [Tg.i 12,Tg.i 13]],.n,.n,.i 7,.i 8,.n,.n,.n,.c,.c,.n,.n,.c,.i 9,.n,.i 10]),(3,[.i 4]),(4,[.c,.c,.c,.c,.c,.c]),(5,[]),(6,[]),(9,[]),(10,[]),(11,[.n,.n,.n,.n,.n,.n,.n,.n,.n,.l [Tg.l [Tg.i 11],Tg.l []],.l [Tg.l [Tg.i 11],Tg.l []],.n,.n,.n,.n,.n,.n,.c,.n,.n]),(12,[.i 11]),(13,[.i 2]),(7,[]),(8,[]),(0,[.i 1,.n,.n,.n,.n,.n,.c]),(1,[])],80⟩ Tryz.call137 (fun F' h=>(t_Load (A) (2) hA (by omega)).fr) fun _ n1 _ => ?_
 refine xCy [⟨(g 0).b,none,0⟩,⟨0,(g 1).a,(g 1).c⟩] [12,13] (Tg.n) ⟨[(2,[.n,.n,.n,.n,.n,.n,.n,.n,.n,.i 3,.n,.n,.n,.n,.i 5,.n,.i 6,.l [Tg.i 11],.l [Tg.l [],Tg.l [Tg.i 12,Tg.i 13]],.n,.n,.i 7,.i 8,.n,.n,.n,.c,.c,.n,.n,.c,.i 9,.n,.i 10]),(3,[.i 4]),(4,[.c,.c,.c,.c,.c,.c]),(5,[]),(6,[]),(9,[]),(10,[]),(11,[.n,.n,.n,.n,.n,.n,.n,.n,.n,.l [Tg.l [Tg.i 11],Tg.l []],.l [Tg.l [Tg.i 11],Tg.l []],.n,.n,.n,.n,.n,.n,.c,.n,.n]),(12,[.i 11]),(13,[.i 2]),(7,[]),(8,[]),(0,[.i 1,.n,.n,.n,.n,.n,.c]),(1,[])],121⟩ Tryz.call16 (fun F' h=>(t_Steps (A.n) ((A.load 2).steps) ((A.load 2).lk) ((A.load 2).lw) ((A.load 2).lv) (false) ((A.load 2).ws)).fr) fun _ n3 _ => ?_
 refine xF (!A.ws.getD 2 0==A.ws.getD 2 0) (by first | (simp; done) | (simp; omega)) ?_
 refine xTn (xT:=95) (v:=Value.pointer (some {block:=(g 11).b,off:=0})) taN_209_103 ?_
 refine xN fun b4 => ?_
 refine xN fun b5 => ?_
 refine xN fun b6 => ?_
 refine xN fun b7 => ?_
 refine xT (k.kind==3) (by first | (simp; done) | (simp; omega)) ?_
 refine xN fun b8 => ?_
 refine xN fun b9 => ?_
 refine xT (!false) rfl ?_
 refine xF (decide (↑k.ows.length>c.small)) (by first | (simp; done) | (simp; omega)) ?_
 refine xF (false) rfl ?_
 refine xF (false) rfl ?_
 refine xA ?_ ?_
 ·skip
  refine xN fun b10 => ?_
  refine xN fun b11 => ?_
  refine xN fun b12 => ?_
  refine xCy [] [] (Tg.n) ⟨[(2,[.n,.n,.n,.n,.n,.n,.n,.n,.n,.i 3,.n,.n,.n,.n,.i 5,.n,.i 6,.l [Tg.i 11],.l [Tg.l [],Tg.l [Tg.i 12,Tg.i 13]],.n,.n,.i 7,.i 8,.n,.n,.n,.c,.c,.n,.n,.c,.i 9,.n,.i 10]),(3,[.i 4]),(4,[.c,.c,.c,.c,.c,.c]),(5,[]),(6,[]),(9,[]),(10,[]),(11,[.n,.n,.n,.n,.n,.n,.n,.n,.n,.c,.l [Tg.l [Tg.i 11],Tg.l []],.n,.n,.n,.n,.n,.n,.c,.q 121 false,.n]),(12,[.i 11]),(13,[.i 2]),(7,[]),(8,[]),(0,[.i 1,.n,.n,.n,.n,.n,.c]),(1,[]),(125,[.n,.n,.n]),(126,[.n,.n,.n]),(127,[.c,.c,.c]),(130,[.n,.n,.n]),(134,[.i 2]),(135,[.n,.n,.n]),(142,(List.replicate 9 .n)),(145,(List.replicate 9 .n)),(146,[.c,.c,.c,.c,.c,.c,.c,.c,.c,.c,.c,.c,.c,.c,.c,.c,.c])],187⟩ Tryz.call194 (fun F' h=>(t_Control (c) hc (pl)).fr) fun xn15 n15 hxn15 => ?_
  subst hxn15
  refine xN fun b16 => ?_
  refine xF (!decide (ctlAt c pl≥0)) (by first | (simp; done) | (simp; omega)) ?_
  refine xF ((↑k.ows.length:Int)==(0:Int)) (beq_eq_false_iff_ne.2 (by omega)) ?_
  refine xF (decide (↑k.ows.length>c.small)) (by first | (simp; done) | (simp; omega)) ?_
  refine xCy [⟨0,(g 5).a,(g 5).c⟩] [3] (Tg.i 197) ⟨[(2,[.n,.n,.n,.n,.n,.n,.n,.n,.n,.i 3,.n,.n,.n,.n,.i 5,.n,.i 6,.l [Tg.i 11],.l [Tg.l [],Tg.l [Tg.i 12,Tg.i 13]],.n,.n,.i 7,.i 8,.n,.n,.n,.c,.c,.n,.n,.c,.i 9,.n,.i 10]),(3,[.i 4]),(4,[.c,.c,.c,.c,.c,.c]),(6,[]),(9,[]),(10,[]),(11,[.n,.n,.n,.n,.n,.n,.n,.n,.n,.c,.l [Tg.l [Tg.i 11],Tg.l []],.n,.n,.n,.n,.n,.n,.c,.q 121 false,.n]),(12,[.i 11]),(13,[.i 2]),(7,[]),(8,[]),(0,[.i 1,.n,.n,.n,.n,.n,.c]),(1,[]),(125,[.n,.n,.n]),(126,[.n,.n,.n]),(127,[.c,.c,.c]),(130,[.n,.n,.n]),(134,[.i 2]),(135,[.n,.n,.n]),(142,(List.replicate 9 .n)),(145,(List.replicate 9 .n)),(146,[.n,.n,.n,.n,.n,.n,.n,.n,.n,.q 143 false,.q 144 false,.c,.c,.c,.c,.c,.c]),(190,[.n,.n,.n,.n,.n,.n,.n,.n,.n,.q 143 false,.q 144 false,.c,.c,.c,.c,.c,.c]),(5,[]),(197,[])],237⟩ Tryz.call51 (fun F' h=>(t_cloneU (k.ows) (by omega)).fr) fun _ n20 _ => ?_
  refine xN fun b21 => ?_
  refine xN fun b22 => ?_
  exact xR () trivial
 ·skip
  refine xN fun b23 => ?_
  refine xN fun b24 => ?_
  refine xN fun b25 => ?_
  refine xN fun b26 => ?_
  refine xCy [] [] (Tg.n) ⟨[(2,[.n,.n,.n,.n,.n,.n,.n,.n,.n,.i 3,.n,.n,.n,.n,.i 5,.n,.i 6,.l [Tg.i 11],.l [Tg.l [],Tg.l [Tg.i 12,Tg.i 13]],.n,.n,.i 7,.i 8,.n,.n,.n,.c,.c,.n,.n,.c,.i 9,.n,.i 10]),(3,[.i 4]),(4,[.c,.c,.c,.c,.c,.c]),(5,[]),(6,[]),(9,[]),(10,[]),(11,[.n,.n,.n,.n,.n,.n,.n,.n,.n,.c,.l [Tg.l [Tg.i 11],Tg.l []],.n,.n,.n,.n,.n,.n,.c,.q 121 false,.n]),(12,[.i 11]),(13,[.i 2]),(7,[]),(8,[]),(0,[.i 1,.n,.n,.n,.n,.n,.c]),(1,[]),(125,[.n,.n,.n]),(126,[.n,.n,.n]),(127,[.c,.c,.c]),(130,[.n,.n,.n]),(134,[.i 2]),(135,[.n,.n,.n]),(142,[.c]),(143,(List.replicate 9 .n)),(146,(List.replicate 9 .n)),(147,[.c,.c,.c,.c,.c,.c,.c,.c,.c,.c,.c,.c,.c,.c,.c,.c,.c])],188⟩ Tryz.call194 (fun F' h=>(t_Control (c) hc (pl)).fr) fun xn29 n29 hxn29 => ?_
  subst hxn29
  refine xN fun b30 => ?_
  refine xF (!decide (ctlAt c pl≥0)) (by first | (simp; done) | (simp; omega)) ?_
  refine xF ((↑k.ows.length:Int)==(0:Int)) (beq_eq_false_iff_ne.2 (by omega)) ?_
  refine xF (decide (↑k.ows.length>c.small)) (by first | (simp; done) | (simp; omega)) ?_
  refine xCy [⟨0,(g 5).a,(g 5).c⟩] [3] (Tg.i 198) ⟨[(2,[.n,.n,.n,.n,.n,.n,.n,.n,.n,.i 3,.n,.n,.n,.n,.i 5,.n,.i 6,.l [Tg.i 11],.l [Tg.l [],Tg.l [Tg.i 12,Tg.i 13]],.n,.n,.i 7,.i 8,.n,.n,.n,.c,.c,.n,.n,.c,.i 9,.n,.i 10]),(3,[.i 4]),(4,[.c,.c,.c,.c,.c,.c]),(6,[]),(9,[]),(10,[]),(11,[.n,.n,.n,.n,.n,.n,.n,.n,.n,.c,.l [Tg.l [Tg.i 11],Tg.l []],.n,.n,.n,.n,.n,.n,.c,.q 121 false,.n]),(12,[.i 11]),(13,[.i 2]),(7,[]),(8,[]),(0,[.i 1,.n,.n,.n,.n,.n,.c]),(1,[]),(125,[.n,.n,.n]),(126,[.n,.n,.n]),(127,[.c,.c,.c]),(130,[.n,.n,.n]),(134,[.i 2]),(135,[.n,.n,.n]),(142,[.c]),(143,(List.replicate 9 .n)),(146,(List.replicate 9 .n)),(147,[.n,.n,.n,.n,.n,.n,.n,.n,.n,.q 144 false,.q 145 false,.c,.c,.c,.c,.c,.c]),(191,[.n,.n,.n,.n,.n,.n,.n,.n,.n,.q 144 false,.q 145 false,.c,.c,.c,.c,.c,.c]),(5,[]),(198,[])],238⟩ Tryz.call51 (fun F' h=>(t_cloneU (k.ows) (by omega)).fr) fun _ n34 _ => ?_
  refine xN fun b35 => ?_
  exact xR () trivial
theorem fs3(c:Cfg)(k:Ck)(A:Ar)(hc:c.Ok)(hA:ArI A)(q i fa pl ep ti ke:Int)(hn:2<A.n)(hw:A.ws.getD 2 0=q)(hk:k.kind=3)(hs:fitK c (k.ows.length:Int) = -1)(hl:(k.ows.length:Int)≤1000)(F:Fr)(hF:HF F):
  CtF Tryz.prog F 14 (stV A (clFd c k ⟨4,q,i,fa,pl,true,ep,0,ti,ke⟩ 11) (A.load 2) fun v=>clZ c (k.code 21 (A.steps+1)) v):=by
 subst hw
 have hc':=hc
 simp only [Cfg.Ok] at hc'
 refine cF 75 xqI Tryz.func14 fun g => ?_
 refine xCy [⟨(g 0).b,none,0⟩,⟨0,(g 1).a,(g 1).c⟩] [0,1] (Tg.n) ⟨[(2,[.n,.n,.n,.n,.n,.n,.n,.n,.n,.i 3,.n,.n,.n,.n,.i 5,.n,.i 6,.l [Tg.i 11],.l [Tg.l [],Tg.l [Tg.i 12,Tg.i 13]],.n,.n,.i 7,.i 8,.n,.n,.n,.c,.c,.n,.n,.c,.i 9,.n,.i 10]),(3,[.i 4]),(4,[.c,.c,.c,.c,.c,.c]),(5,[]),(6,[]),(9,[]),(10,[]),(11,[.n,.n,.n,.n,.n,.n,.n,.n,.n,.l [Tg.l [Tg.i 11],Tg.l []],.l [Tg.l [Tg.i 11],Tg.l []],.n,.n,.n,.n,.n,.n,.c,.n,.n]),(12,[.i 11]),(13,[.i 2]),(7,[]),(8,[]),(0,[.i 1,.n,.n,.n,.n,.n,.c]),(1,[])],80⟩ Tryz.call137 (fun F' h=>(t_Load (A) (2) hA (by omega)).fr) fun _ n1 _ => ?_
 refine xCy [⟨(g 0).b,none,0⟩,⟨0,(g 1).a,(g 1).c⟩] [12,13] (Tg.n) ⟨[(2,[.n,.n,.n,.n,.n,.n,.n,.n,.n,.i 3,.n,.n,.n,.n,.i 5,.n,.i 6,.l [Tg.i 11],.l [Tg.l [],Tg.l [Tg.i 12,Tg.i 13]],.n,.n,.i 7,.i 8,.n,.n,.n,.c,.c,.n,.n,.c,.i 9,.n,.i 10]),(3,[.i 4]),(4,[.c,.c,.c,.c,.c,.c]),(5,[]),(6,[]),(9,[]),(10,[]),(11,[.n,.n,.n,.n,.n,.n,.n,.n,.n,.l [Tg.l [Tg.i 11],Tg.l []],.l [Tg.l [Tg.i 11],Tg.l []],.n,.n,.n,.n,.n,.n,.c,.n,.n]),(12,[.i 11]),(13,[.i 2]),(7,[]),(8,[]),(0,[.i 1,.n,.n,.n,.n,.n,.c]),(1,[])],121⟩ Tryz.call16 (fun F' h=>(t_Steps (A.n) ((A.load 2).steps) ((A.load 2).lk) ((A.load 2).lw) ((A.load 2).lv) (false) ((A.load 2).ws)).fr) fun _ n3 _ => ?_
 refine xF (!A.ws.getD 2 0==A.ws.getD 2 0) (by first | (simp; done) | (simp; omega)) ?_
 refine xTn (xT:=95) (v:=Value.pointer (some {block:=(g 11).b,off:=0})) taN_209_103 ?_
 refine xN fun b4 => ?_
 refine xN fun b5 => ?_
 refine xN fun b6 => ?_
 refine xN fun b7 => ?_
 refine xT (k.kind==3) (by first | (simp; done) | (simp; omega)) ?_
 refine xN fun b8 => ?_
 refine xN fun b9 => ?_
 refine xF (!true) rfl ?_
 refine xT (true) rfl ?_
 refine xCy [] [] (Tg.n) ⟨[(2,[.n,.n,.n,.n,.n,.n,.n,.n,.n,.i 3,.n,.n,.n,.n,.i 5,.n,.i 6,.l [Tg.i 11],.l [Tg.l [],Tg.l [Tg.i 12,Tg.i 13]],.n,.n,.i 7,.i 8,.n,.n,.n,.c,.c,.n,.n,.c,.i 9,.n,.i 10]),(3,[.i 4]),(4,[.c,.c,.c,.c,.c,.c]),(5,[]),(6,[]),(9,[]),(10,[]),(11,[.n,.n,.n,.n,.n,.n,.n,.n,.n,.c,.l [Tg.l [Tg.i 11],Tg.l []],.n,.n,.n,.n,.n,.n,.c,.q 121 false,.n]),(12,[.i 11]),(13,[.i 2]),(7,[]),(8,[]),(0,[.i 1,.n,.n,.n,.n,.n,.c]),(1,[]),(125,[.n,.n,.n]),(126,[.n,.n,.n]),(127,[.c,.c,.c]),(130,[.n,.n,.n]),(134,[.i 2]),(135,[.n,.n,.n])],179⟩ Tryz.call160 (fun F' h=>(t_Fits (c) hc (↑k.ows.length)).fr) fun xn12 n12 hxn12 => ?_
 subst hxn12
 refine xT (fitK c ↑k.ows.length == -1) (by first | (simp; done) | (simp; omega)) ?_
 refine xN fun b13 => ?_
 exact xR (Value.func (Fn.func (125:Nat)) {toList:=[]} {toList:=[Value.pointer (some {block:=(g ((11:Nat)+(1:Nat))).b,off:=(0:Nat)}),Value.pointer (some {block:=(g ((11:Nat)+(2:Nat))).b,off:=(0:Nat)})]}) (by omega)
end Go.Proofs.YtnnoeefjnpcfnaaGreatDoor
/- A client's step: what was found is read, or pinned. -/
set_option maxRecDepth 100000
set_option maxHeartbeats 0
namespace Go.Proofs.YtnnoeefjnpcfnaaGreatDoor
open Go.Sx
theorem fr1(c:Cfg)(k:Ck)(A:Ar)(hc:c.Ok)(hA:ArI A)(q i fa pl ep ti ke:Int)(hn:2<A.n)(hw:A.ws.getD 2 0=q)(hk:k.kind=4)(hp:0≤pl∧pl<c.topics)(he:0≤ctlAt c pl):
  Ct Tryz.prog 14 (stS A (clFd c k ⟨4,q,i,fa,pl,false,ep,0,ti,ke⟩ 11) (A.load 2) (clSr0 c k (newSm pl ep) 41) .no):=by
 subst hw
 have hc':=hc
 simp only [Cfg.Ok] at hc'
 refine cX 75 xqI Tryz.func14 fun g F => ?_
 refine xCy [⟨(g 0).b,none,0⟩,⟨0,(g 1).a,(g 1).c⟩] [0,1] (Tg.n) ⟨[(2,[.n,.n,.n,.n,.n,.n,.n,.n,.n,.i 3,.n,.n,.n,.n,.i 5,.n,.i 6,.l [Tg.i 11],.l [Tg.l [],Tg.l [Tg.i 12,Tg.i 13]],.n,.n,.i 7,.i 8,.n,.n,.n,.c,.c,.n,.n,.c,.i 9,.n,.i 10]),(3,[.i 4]),(4,[.c,.c,.c,.c,.c,.c]),(5,[]),(6,[]),(9,[]),(10,[]),(11,[.n,.n,.n,.n,.n,.n,.n,.n,.n,.l [Tg.l [Tg.i 11],Tg.l []],.l [Tg.l [Tg.i 11],Tg.l []],.n,.n,.n,.n,.n,.n,.c,.n,.n]),(12,[.i 11]),(13,[.i 2]),(7,[]),(8,[]),(0,[.i 1,.n,.n,.n,.n,.n,.c]),(1,[])],80⟩ Tryz.call137 (fun F' h=>(t_Load (A) (2) hA (by omega)).fr) fun _ n1 _ => ?_
 refine xCy [⟨(g 0).b,none,0⟩,⟨0,(g 1).a,(g 1).c⟩] [12,13] (Tg.n) ⟨[(2,[.n,.n,.n,.n,.n,.n,.n,.n,.n,.i 3,.n,.n,.n,.n,.i 5,.n,.i 6,.l [Tg.i 11],.l [Tg.l [],Tg.l [Tg.i 12,Tg.i 13]],.n,.n,.i 7,.i 8,.n,.n,.n,.c,.c,.n,.n,.c,.i 9,.n,.i 10]),(3,[.i 4]),(4,[.c,.c,.c,.c,.c,.c]),(5,[]),(6,[]),(9,[]),(10,[]),(11,[.n,.n,.n,.n,.n,.n,.n,.n,.n,.l [Tg.l [Tg.i 11],Tg.l []],.l [Tg.l [Tg.i 11],Tg.l []],.n,.n,.n,.n,.n,.n,.c,.n,.n]),(12,[.i 11]),(13,[.i 2]),(7,[]),(8,[]),(0,[.i 1,.n,.n,.n,.n,.n,.c]),(1,[])],121⟩ Tryz.call16 (fun F' h=>(t_Steps (A.n) ((A.load 2).steps) ((A.load 2).lk) ((A.load 2).lw) ((A.load 2).lv) (false) ((A.load 2).ws)).fr) fun _ n3 _ => ?_
 refine xF (!A.ws.getD 2 0==A.ws.getD 2 0) (by first | (simp; done) | (simp; omega)) ?_
 refine xTn (xT:=95) (v:=Value.pointer (some {block:=(g 11).b,off:=0})) taN_209_103 ?_
 refine xN fun b4 => ?_
 refine xN fun b5 => ?_
 refine xN fun b6 => ?_
 refine xN fun b7 => ?_
 refine xF (k.kind==3) (by first | (simp; done) | (simp; omega)) ?_
 refine xT (k.kind==4) (by first | (simp; done) | (simp; omega)) ?_
 refine xN fun b8 => ?_
 refine xN fun b9 => ?_
 refine xN fun b10 => ?_
 refine xT (!false) rfl ?_
 refine xA ?_ ?_
 ·skip
  refine xN fun b11 => ?_
  refine xN fun b12 => ?_
  refine xN fun b13 => ?_
  refine xCy [] [] (Tg.n) ⟨[(2,[.n,.n,.n,.n,.n,.n,.n,.n,.n,.i 3,.n,.n,.n,.n,.i 5,.n,.i 6,.l [Tg.i 11],.l [Tg.l [],Tg.l [Tg.i 12,Tg.i 13]],.n,.n,.i 7,.i 8,.n,.n,.n,.c,.c,.n,.n,.c,.i 9,.n,.i 10]),(3,[.i 4]),(4,[.c,.c,.c,.c,.c,.c]),(5,[]),(6,[]),(9,[]),(10,[]),(11,[.n,.n,.n,.n,.n,.n,.n,.n,.n,.c,.l [Tg.l [Tg.i 11],Tg.l []],.n,.n,.n,.n,.n,.n,.c,.q 121 false,.n]),(12,[.i 11]),(13,[.i 2]),(7,[]),(8,[]),(0,[.i 1,.n,.n,.n,.n,.n,.c]),(1,[]),(125,[.n,.n,.n]),(126,[.n,.n,.n]),(127,[.c,.c,.c]),(130,[.n,.n,.n]),(135,[.i 2]),(136,[.n,.n,.n]),(137,[.l [Tg.l [],Tg.l [Tg.i 135]]]),(140,(List.replicate 9 .n)),(143,(List.replicate 9 .n)),(144,[.c,.c,.c,.c,.c,.c,.c,.c,.c,.c,.c,.c,.c,.c,.c,.c,.c])],185⟩ Tryz.call194 (fun F' h=>(t_Control (c) hc (pl)).fr) fun xn16 n16 hxn16 => ?_
  subst hxn16
  refine xN fun b17 => ?_
  refine xF (!decide (ctlAt c pl≥0)) (by first | (simp; done) | (simp; omega)) ?_
  refine xN fun b18 => ?_
  refine xN fun b19 => ?_
  exact xR () trivial
 ·skip
  refine xN fun b20 => ?_
  refine xN fun b21 => ?_
  refine xN fun b22 => ?_
  refine xN fun b23 => ?_
  refine xCy [] [] (Tg.n) ⟨[(2,[.n,.n,.n,.n,.n,.n,.n,.n,.n,.i 3,.n,.n,.n,.n,.i 5,.n,.i 6,.l [Tg.i 11],.l [Tg.l [],Tg.l [Tg.i 12,Tg.i 13]],.n,.n,.i 7,.i 8,.n,.n,.n,.c,.c,.n,.n,.c,.i 9,.n,.i 10]),(3,[.i 4]),(4,[.c,.c,.c,.c,.c,.c]),(5,[]),(6,[]),(9,[]),(10,[]),(11,[.n,.n,.n,.n,.n,.n,.n,.n,.n,.c,.l [Tg.l [Tg.i 11],Tg.l []],.n,.n,.n,.n,.n,.n,.c,.q 121 false,.n]),(12,[.i 11]),(13,[.i 2]),(7,[]),(8,[]),(0,[.i 1,.n,.n,.n,.n,.n,.c]),(1,[]),(125,[.n,.n,.n]),(126,[.n,.n,.n]),(127,[.c,.c,.c]),(130,[.n,.n,.n]),(135,[.i 2]),(136,[.n,.n,.n]),(137,[.l [Tg.l [],Tg.l [Tg.i 135]]]),(140,[.c]),(141,(List.replicate 9 .n)),(144,(List.replicate 9 .n)),(145,[.c,.c,.c,.c,.c,.c,.c,.c,.c,.c,.c,.c,.c,.c,.c,.c,.c])],186⟩ Tryz.call194 (fun F' h=>(t_Control (c) hc (pl)).fr) fun xn26 n26 hxn26 => ?_
  subst hxn26
  refine xN fun b27 => ?_
  refine xF (!decide (ctlAt c pl≥0)) (by first | (simp; done) | (simp; omega)) ?_
  refine xN fun b28 => ?_
  exact xR () trivial
theorem fp1(c:Cfg)(k:Ck)(A:Ar)(hc:c.Ok)(hA:ArI A)(q i fa pl ep ti ke:Int)(hn:2<A.n)(hw:A.ws.getD 2 0=q)(hk:k.kind=5)  (F:Fr)(hF:HF F):
  CtF Tryz.prog F 14 (stV A (clFd c k ⟨4,q,i,fa,pl,false,ep,0,ti,ke⟩ 11) (A.load 2) fun v=>clZ c (k.code 24 (A.steps+1)) v):=by
 subst hw
 have hc':=hc
 simp only [Cfg.Ok] at hc'
 refine cF 75 xqI Tryz.func14 fun g => ?_
 refine xCy [⟨(g 0).b,none,0⟩,⟨0,(g 1).a,(g 1).c⟩] [0,1] (Tg.n) ⟨[(2,[.n,.n,.n,.n,.n,.n,.n,.n,.n,.i 3,.n,.n,.n,.n,.i 5,.n,.i 6,.l [Tg.i 11],.l [Tg.l [],Tg.l [Tg.i 12,Tg.i 13]],.n,.n,.i 7,.i 8,.n,.n,.n,.c,.c,.n,.n,.c,.i 9,.n,.i 10]),(3,[.i 4]),(4,[.c,.c,.c,.c,.c,.c]),(5,[]),(6,[]),(9,[]),(10,[]),(11,[.n,.n,.n,.n,.n,.n,.n,.n,.n,.l [Tg.l [Tg.i 11],Tg.l []],.l [Tg.l [Tg.i 11],Tg.l []],.n,.n,.n,.n,.n,.n,.c,.n,.n]),(12,[.i 11]),(13,[.i 2]),(7,[]),(8,[]),(0,[.i 1,.n,.n,.n,.n,.n,.c]),(1,[])],80⟩ Tryz.call137 (fun F' h=>(t_Load (A) (2) hA (by omega)).fr) fun _ n1 _ => ?_
 refine xCy [⟨(g 0).b,none,0⟩,⟨0,(g 1).a,(g 1).c⟩] [12,13] (Tg.n) ⟨[(2,[.n,.n,.n,.n,.n,.n,.n,.n,.n,.i 3,.n,.n,.n,.n,.i 5,.n,.i 6,.l [Tg.i 11],.l [Tg.l [],Tg.l [Tg.i 12,Tg.i 13]],.n,.n,.i 7,.i 8,.n,.n,.n,.c,.c,.n,.n,.c,.i 9,.n,.i 10]),(3,[.i 4]),(4,[.c,.c,.c,.c,.c,.c]),(5,[]),(6,[]),(9,[]),(10,[]),(11,[.n,.n,.n,.n,.n,.n,.n,.n,.n,.l [Tg.l [Tg.i 11],Tg.l []],.l [Tg.l [Tg.i 11],Tg.l []],.n,.n,.n,.n,.n,.n,.c,.n,.n]),(12,[.i 11]),(13,[.i 2]),(7,[]),(8,[]),(0,[.i 1,.n,.n,.n,.n,.n,.c]),(1,[])],121⟩ Tryz.call16 (fun F' h=>(t_Steps (A.n) ((A.load 2).steps) ((A.load 2).lk) ((A.load 2).lw) ((A.load 2).lv) (false) ((A.load 2).ws)).fr) fun _ n3 _ => ?_
 refine xF (!A.ws.getD 2 0==A.ws.getD 2 0) (by first | (simp; done) | (simp; omega)) ?_
 refine xTn (xT:=95) (v:=Value.pointer (some {block:=(g 11).b,off:=0})) taN_209_103 ?_
 refine xN fun b4 => ?_
 refine xN fun b5 => ?_
 refine xN fun b6 => ?_
 refine xN fun b7 => ?_
 refine xF (k.kind==3) (by first | (simp; done) | (simp; omega)) ?_
 refine xF (k.kind==4) (by first | (simp; done) | (simp; omega)) ?_
 refine xT (k.kind==5) (by first | (simp; done) | (simp; omega)) ?_
 refine xN fun b8 => ?_
 refine xN fun b9 => ?_
 refine xT (!false) rfl ?_
 refine xN fun b10 => ?_
 exact xR (Value.func (Fn.func (125:Nat)) {toList:=[]} {toList:=[Value.pointer (some {block:=(g ((11:Nat)+(1:Nat))).b,off:=(0:Nat)}),Value.pointer (some {block:=(g ((11:Nat)+(2:Nat))).b,off:=(0:Nat)})]}) (by omega)
end Go.Proofs.YtnnoeefjnpcfnaaGreatDoor
/- A client's step: what was found is published, if large. -/
set_option maxRecDepth 100000
set_option maxHeartbeats 0
namespace Go.Proofs.YtnnoeefjnpcfnaaGreatDoor
open Go.Sx
theorem t_NewPub(c:Cfg)(hc:c.Ok)(tp ep:Int)(ws:List Int)(hp:0≤tp∧tp<c.topics)(he:0≤ctlAt c tp)(h0:0≤fitK c (ws.length:Int)∧fitK c (ws.length:Int)<2)(hl:(ws.length:Int)≤1000):
  Ct Tryz.prog 161 (sU [.g (cfgS c),.s (.i .i64 tp),.s (.i .i64 ep),.s (.s 0 ws.length)] [.sl 0 (encI .u64) 0 1 ws 54] 1 [.s (.p 1 0)]
   [.sl 0 (encI .u64) 0 1 ws 54,pbE c tp ep ws.length (newPb (fitK c ws.length)) 1 (.ip 291 5) (.fn 206 [] [6,7]),.sl 2 (encI .u64) 0 1 ws 54,tkE c (newTk (fitK c ws.length)) 5,.pts 6 [.p 1 0] 243,.pts 7 [.p 5 0] 291]):=by
 have hc':=hc
 simp only [Cfg.Ok] at hc'
 refine cX 45 xqI Tryz.func161 fun g F => ?_
 refine xN fun b1 => ?_
 refine xCy [] [] (Tg.n) ⟨[(0,[]),(1,(List.replicate 9 .n))],43⟩ Tryz.call160 (fun F' h=>(t_Fits (c) hc (↑ws.length)).fr) fun xn2 n2 hxn2 => ?_
 subst hxn2
 refine xA ?_ ?_
 ·skip
  refine xCy [] [] (Tg.n) ⟨[(0,[]),(1,(List.replicate 9 .n))],84⟩ Tryz.call194 (fun F' h=>(t_Control (c) hc (tp)).fr) fun xn4 n4 hxn4 => ?_
  subst hxn4
  refine xA ?_ ?_
  ·skip
   refine xCy [⟨0,(g 0).a,(g 0).c⟩] [0] (Tg.i 85) ⟨[(1,(List.replicate 9 .n)),(0,[]),(85,[])],125⟩ Tryz.call51 (fun F' h=>(t_cloneU (ws) (by omega)).fr) fun _ n7 _ => ?_
   refine xA ?_ ?_
   ·skip
    refine xN fun b8 => ?_
    refine xN fun b9 => ?_
    refine xF (fitK c ↑ws.length == -1) (by first | (simp; done) | (simp; omega)) ?_
    refine xF (ctlAt c tp == -1) (by first | (simp; done) | (simp; omega)) ?_
    refine xN fun b10 => ?_
    refine xCy [] [] (Tg.c) ⟨[(1,(List.replicate 9 .n)),(0,[]),(85,[]),(125,[.c,.c,.c,.c,.n,.n,.n,.n,.n,.n,.n,.n,.n,.q 84 false,.n,.i 85,.c,.c,.c,.c,.c]),(126,[.i 125]),(130,(List.replicate 9 .n))],171⟩ Tryz.call48 (fun F' h=>(t_check (c) hc).fr) fun _ n14 _ => ?_
    refine xCy [] [] (Tg.n) ⟨[(1,(List.replicate 9 .n)),(0,[]),(85,[]),(125,[.c,.c,.c,.c,.n,.n,.n,.n,.n,.n,.n,.n,.n,.q 84 false,.n,.i 85,.c,.c,.c,.c,.c]),(126,[.i 125]),(130,(List.replicate 9 .n))],211⟩ Tryz.call67 (fun F' h=>(t_Head (fitK c ↑ws.length) (by omega)).fr) fun xn19 n19 hxn19 => ?_
    subst hxn19
    refine xF (decide (3+fitK c ↑ws.length<0)) (by first | (simp; done) | (simp; omega)) ?_
    refine xCy [] [] (Tg.n) ⟨[(1,(List.replicate 9 .n)),(0,[]),(85,[]),(125,[.c,.c,.c,.c,.n,.n,.n,.n,.n,.n,.n,.n,.n,.q 84 false,.n,.i 85,.c,.c,.c,.c,.c]),(126,[.i 125]),(130,(List.replicate 9 .n))],253⟩ Tryz.call67 (fun F' h=>(t_Head (fitK c ↑ws.length) (by omega)).fr) fun xn24 n24 hxn24 => ?_
    subst hxn24
    refine xN fun b25 => ?_
    refine xN fun b26 => ?_
    exact xR () trivial
   ·skip
    refine xN fun b27 => ?_
    refine xN fun b28 => ?_
    refine xF (fitK c ↑ws.length == -1) (by first | (simp; done) | (simp; omega)) ?_
    refine xF (ctlAt c tp == -1) (by first | (simp; done) | (simp; omega)) ?_
    refine xN fun b29 => ?_
    refine xCy [] [] (Tg.c) ⟨[(1,(List.replicate 9 .n)),(0,[]),(85,[]),(125,[.i 126]),(126,[.c,.c,.c,.c,.n,.n,.n,.n,.n,.n,.n,.n,.n,.q 84 false,.n,.i 85,.c,.c,.c,.c,.c]),(130,(List.replicate 9 .n))],171⟩ Tryz.call48 (fun F' h=>(t_check (c) hc).fr) fun _ n33 _ => ?_
    refine xCy [] [] (Tg.n) ⟨[(1,(List.replicate 9 .n)),(0,[]),(85,[]),(125,[.i 126]),(126,[.c,.c,.c,.c,.n,.n,.n,.n,.n,.n,.n,.n,.n,.q 84 false,.n,.i 85,.c,.c,.c,.c,.c]),(130,(List.replicate 9 .n))],211⟩ Tryz.call67 (fun F' h=>(t_Head (fitK c ↑ws.length) (by omega)).fr) fun xn38 n38 hxn38 => ?_
    subst hxn38
    refine xF (decide (3+fitK c ↑ws.length<0)) (by first | (simp; done) | (simp; omega)) ?_
    refine xCy [] [] (Tg.n) ⟨[(1,(List.replicate 9 .n)),(0,[]),(85,[]),(125,[.i 126]),(126,[.c,.c,.c,.c,.n,.n,.n,.n,.n,.n,.n,.n,.n,.q 84 false,.n,.i 85,.c,.c,.c,.c,.c]),(130,(List.replicate 9 .n))],253⟩ Tryz.call67 (fun F' h=>(t_Head (fitK c ↑ws.length) (by omega)).fr) fun xn43 n43 hxn43 => ?_
    subst hxn43
    refine xN fun b44 => ?_
    refine xN fun b45 => ?_
    exact xR () trivial
  ·skip
   refine xN fun b46 => ?_
   refine xCy [⟨0,(g 0).a,(g 0).c⟩] [0] (Tg.i 86) ⟨[(1,(List.replicate 9 .n)),(85,[.c]),(0,[]),(86,[])],126⟩ Tryz.call51 (fun F' h=>(t_cloneU (ws) (by omega)).fr) fun _ n49 _ => ?_
   refine xN fun b50 => ?_
   refine xF (fitK c ↑ws.length == -1) (by first | (simp; done) | (simp; omega)) ?_
   refine xF (ctlAt c tp == -1) (by first | (simp; done) | (simp; omega)) ?_
   refine xN fun b51 => ?_
   refine xCy [] [] (Tg.c) ⟨[(1,(List.replicate 9 .n)),(85,[.i 126]),(0,[]),(86,[]),(126,[.c,.c,.c,.c,.n,.n,.n,.n,.n,.n,.n,.n,.n,.q 84 false,.n,.i 86,.c,.c,.c,.c,.c]),(130,(List.replicate 9 .n))],171⟩ Tryz.call48 (fun F' h=>(t_check (c) hc).fr) fun _ n55 _ => ?_
   refine xCy [] [] (Tg.n) ⟨[(1,(List.replicate 9 .n)),(85,[.i 126]),(0,[]),(86,[]),(126,[.c,.c,.c,.c,.n,.n,.n,.n,.n,.n,.n,.n,.n,.q 84 false,.n,.i 86,.c,.c,.c,.c,.c]),(130,(List.replicate 9 .n))],211⟩ Tryz.call67 (fun F' h=>(t_Head (fitK c ↑ws.length) (by omega)).fr) fun xn60 n60 hxn60 => ?_
   subst hxn60
   refine xF (decide (3+fitK c ↑ws.length<0)) (by first | (simp; done) | (simp; omega)) ?_
   refine xCy [] [] (Tg.n) ⟨[(1,(List.replicate 9 .n)),(85,[.i 126]),(0,[]),(86,[]),(126,[.c,.c,.c,.c,.n,.n,.n,.n,.n,.n,.n,.n,.n,.q 84 false,.n,.i 86,.c,.c,.c,.c,.c]),(130,(List.replicate 9 .n))],253⟩ Tryz.call67 (fun F' h=>(t_Head (fitK c ↑ws.length) (by omega)).fr) fun xn65 n65 hxn65 => ?_
   subst hxn65
   refine xN fun b66 => ?_
   refine xN fun b67 => ?_
   exact xR () trivial
 ·skip
  refine xN fun b68 => ?_
  refine xCy [] [] (Tg.n) ⟨[(0,[]),(1,(List.replicate 9 .n)),(44,[.c])],85⟩ Tryz.call194 (fun F' h=>(t_Control (c) hc (tp)).fr) fun xn70 n70 hxn70 => ?_
  subst hxn70
  refine xCy [⟨0,(g 0).a,(g 0).c⟩] [0] (Tg.i 86) ⟨[(1,(List.replicate 9 .n)),(44,[.c]),(0,[]),(86,[])],126⟩ Tryz.call51 (fun F' h=>(t_cloneU (ws) (by omega)).fr) fun _ n73 _ => ?_
  refine xN fun b74 => ?_
  refine xF (fitK c ↑ws.length == -1) (by first | (simp; done) | (simp; omega)) ?_
  refine xF (ctlAt c tp == -1) (by first | (simp; done) | (simp; omega)) ?_
  refine xN fun b75 => ?_
  refine xCy [] [] (Tg.c) ⟨[(1,(List.replicate 9 .n)),(44,[.i 126]),(0,[]),(86,[]),(126,[.c,.c,.c,.c,.n,.n,.n,.n,.n,.n,.n,.n,.n,.q 85 false,.n,.i 86,.c,.c,.c,.c,.c]),(130,(List.replicate 9 .n))],171⟩ Tryz.call48 (fun F' h=>(t_check (c) hc).fr) fun _ n79 _ => ?_
  refine xCy [] [] (Tg.n) ⟨[(1,(List.replicate 9 .n)),(44,[.i 126]),(0,[]),(86,[]),(126,[.c,.c,.c,.c,.n,.n,.n,.n,.n,.n,.n,.n,.n,.q 85 false,.n,.i 86,.c,.c,.c,.c,.c]),(130,(List.replicate 9 .n))],211⟩ Tryz.call67 (fun F' h=>(t_Head (fitK c ↑ws.length) (by omega)).fr) fun xn84 n84 hxn84 => ?_
  subst hxn84
  refine xF (decide (3+fitK c ↑ws.length<0)) (by first | (simp; done) | (simp; omega)) ?_
  refine xCy [] [] (Tg.n) ⟨[(1,(List.replicate 9 .n)),(44,[.i 126]),(0,[]),(86,[]),(126,[.c,.c,.c,.c,.n,.n,.n,.n,.n,.n,.n,.n,.n,.q 85 false,.n,.i 86,.c,.c,.c,.c,.c]),(130,(List.replicate 9 .n))],253⟩ Tryz.call67 (fun F' h=>(t_Head (fitK c ↑ws.length) (by omega)).fr) fun xn89 n89 hxn89 => ?_
  subst hxn89
  refine xN fun b90 => ?_
  refine xN fun b91 => ?_
  exact xR () trivial
theorem fs4(c:Cfg)(k:Ck)(A:Ar)(hc:c.Ok)(hA:ArI A)(q i fa pl ep ti ke:Int)(hn:2<A.n)(hw:A.ws.getD 2 0=q)(hk:k.kind=3)(hp:0≤pl∧pl<c.topics)(he:0≤ctlAt c pl)(kk:Int)(hs:fitK c (k.ows.length:Int)=kk)(h0:0≤kk∧kk<2)(h1:1≤(k.ows.length:Int))(hl:(k.ows.length:Int)≤1000):
  Ct Tryz.prog 14 (stS A (clFd c k ⟨4,q,i,fa,pl,true,ep,0,ti,ke⟩ 11) (A.load 2) (clP1 c k pl ep k.ows (newPb kk) 41 45) .no):=by
 subst hw
 subst hs
 have hc':=hc
 simp only [Cfg.Ok] at hc'
 refine cX 75 xnI Tryz.func14 fun g F => ?_
 refine xCy [⟨(g 0).b,none,0⟩,⟨0,(g 1).a,(g 1).c⟩] [0,1] (Tg.n) ⟨[(2,[.n,.n,.n,.n,.n,.n,.n,.n,.n,.i 3,.n,.n,.n,.n,.i 5,.n,.i 6,.l [Tg.i 11],.l [Tg.l [],Tg.l [Tg.i 12,Tg.i 13]],.n,.n,.i 7,.i 8,.n,.n,.n,.c,.c,.n,.n,.c,.i 9,.n,.i 10]),(3,[.i 4]),(4,[.c,.c,.c,.c,.c,.c]),(5,[]),(6,[]),(9,[]),(10,[]),(11,[.n,.n,.n,.n,.n,.n,.n,.n,.n,.l [Tg.l [Tg.i 11],Tg.l []],.l [Tg.l [Tg.i 11],Tg.l []],.n,.n,.n,.n,.n,.n,.c,.n,.n]),(12,[.i 11]),(13,[.i 2]),(7,[]),(8,[]),(0,[.i 1,.n,.n,.n,.n,.n,.c]),(1,[])],80⟩ Tryz.call137 (fun F' h=>(t_Load (A) (2) hA (by omega)).fr) fun _ n1 _ => ?_
 refine xCy [⟨(g 0).b,none,0⟩,⟨0,(g 1).a,(g 1).c⟩] [12,13] (Tg.n) ⟨[(2,[.n,.n,.n,.n,.n,.n,.n,.n,.n,.i 3,.n,.n,.n,.n,.i 5,.n,.i 6,.l [Tg.i 11],.l [Tg.l [],Tg.l [Tg.i 12,Tg.i 13]],.n,.n,.i 7,.i 8,.n,.n,.n,.c,.c,.n,.n,.c,.i 9,.n,.i 10]),(3,[.i 4]),(4,[.c,.c,.c,.c,.c,.c]),(5,[]),(6,[]),(9,[]),(10,[]),(11,[.n,.n,.n,.n,.n,.n,.n,.n,.n,.l [Tg.l [Tg.i 11],Tg.l []],.l [Tg.l [Tg.i 11],Tg.l []],.n,.n,.n,.n,.n,.n,.c,.n,.n]),(12,[.i 11]),(13,[.i 2]),(7,[]),(8,[]),(0,[.i 1,.n,.n,.n,.n,.n,.c]),(1,[])],121⟩ Tryz.call16 (fun F' h=>(t_Steps (A.n) ((A.load 2).steps) ((A.load 2).lk) ((A.load 2).lw) ((A.load 2).lv) (false) ((A.load 2).ws)).fr) fun _ n3 _ => ?_
 refine xF (!A.ws.getD 2 0==A.ws.getD 2 0) (by first | (simp; done) | (simp; omega)) ?_
 refine xTn (xT:=95) (v:=Value.pointer (some {block:=(g 11).b,off:=0})) taN_209_103 ?_
 refine xN fun b4 => ?_
 refine xN fun b5 => ?_
 refine xN fun b6 => ?_
 refine xN fun b7 => ?_
 refine xT (k.kind==3) (by first | (simp; done) | (simp; omega)) ?_
 refine xN fun b8 => ?_
 refine xN fun b9 => ?_
 refine xF (!true) rfl ?_
 refine xT (true) rfl ?_
 refine xCy [] [] (Tg.n) ⟨[(2,[.n,.n,.n,.n,.n,.n,.n,.n,.n,.i 3,.n,.n,.n,.n,.i 5,.n,.i 6,.l [Tg.i 11],.l [Tg.l [],Tg.l [Tg.i 12,Tg.i 13]],.n,.n,.i 7,.i 8,.n,.n,.n,.c,.c,.n,.n,.c,.i 9,.n,.i 10]),(3,[.i 4]),(4,[.c,.c,.c,.c,.c,.c]),(5,[]),(6,[]),(9,[]),(10,[]),(11,[.n,.n,.n,.n,.n,.n,.n,.n,.n,.c,.l [Tg.l [Tg.i 11],Tg.l []],.n,.n,.n,.n,.n,.n,.c,.q 121 false,.n]),(12,[.i 11]),(13,[.i 2]),(7,[]),(8,[]),(0,[.i 1,.n,.n,.n,.n,.n,.c]),(1,[]),(125,[.n,.n,.n]),(126,[.n,.n,.n]),(127,[.c,.c,.c]),(130,[.n,.n,.n]),(134,[.i 2]),(135,[.n,.n,.n])],179⟩ Tryz.call160 (fun F' h=>(t_Fits (c) hc (↑k.ows.length)).fr) fun xn12 n12 hxn12 => ?_
 subst hxn12
 refine xF (fitK c ↑k.ows.length == -1) (by first | (simp; done) | (simp; omega)) ?_
 refine xT (true) rfl ?_
 refine xA ?_ ?_
 ·skip
  refine xCy [⟨0,(g r0.a).a,(g r0.a).c⟩] [3] (Tg.i 182) ⟨[(2,[.n,.n,.n,.n,.n,.n,.n,.n,.n,.i 3,.n,.n,.n,.n,.i 5,.n,.i 6,.l [Tg.i 11],.l [Tg.l [],Tg.l [Tg.i 12,Tg.i 13]],.n,.n,.i 7,.i 8,.n,.n,.n,.c,.c,.n,.n,.c,.i 9,.n,.i 10]),(3,[.i 4]),(4,[.c,.c,.c,.c,.c,.c]),(6,[]),(9,[]),(10,[]),(11,[.n,.n,.n,.n,.n,.n,.n,.n,.n,.c,.l [Tg.l [Tg.i 11],Tg.l []],.n,.n,.n,.n,.n,.n,.c,.q 121 false,.n]),(12,[.i 11]),(13,[.i 2]),(7,[]),(8,[]),(0,[.i 1,.n,.n,.n,.n,.n,.c]),(1,[]),(125,[.n,.n,.n]),(126,[.n,.n,.n]),(127,[.c,.c,.c]),(130,[.n,.n,.n]),(134,[.i 2]),(135,[.n,.n,.n]),(5,[]),(182,[.l [Tg.i 186],.l [Tg.l [],Tg.l [Tg.i 187,Tg.i 188]],.n,.c,.n,.n,.n,.n,.n,.n,.n,.n,.n,.n,.n,.i 183,.n,.n,.n,.n,.n]),(183,[]),(186,[.n,.n,.n,.n,.n,.n,.n,.n,.n,.n,.n,.l [Tg.l [Tg.i 186],Tg.l []],.n,.n,.n]),(187,[.i 182]),(188,[.i 186])],222⟩ Tryz.call161 (fun F' h=>(t_NewPub (c) hc (pl) (ep) (k.ows) (by omega) (by omega) (by omega) (by omega)).fr) fun _ n16 _ => ?_
  refine xN fun b17 => ?_
  exact xR () trivial
 ·skip
  refine xN fun b18 => ?_
  refine xCy [⟨0,(g r0.a).a,(g r0.a).c⟩] [3] (Tg.i 183) ⟨[(2,[.n,.n,.n,.n,.n,.n,.n,.n,.n,.i 3,.n,.n,.n,.n,.i 5,.n,.i 6,.l [Tg.i 11],.l [Tg.l [],Tg.l [Tg.i 12,Tg.i 13]],.n,.n,.i 7,.i 8,.n,.n,.n,.c,.c,.n,.n,.c,.i 9,.n,.i 10]),(3,[.i 4]),(4,[.c,.c,.c,.c,.c,.c]),(6,[]),(9,[]),(10,[]),(11,[.n,.n,.n,.n,.n,.n,.n,.n,.n,.c,.l [Tg.l [Tg.i 11],Tg.l []],.n,.n,.n,.n,.n,.n,.c,.q 121 false,.n]),(12,[.i 11]),(13,[.i 2]),(7,[]),(8,[]),(0,[.i 1,.n,.n,.n,.n,.n,.c]),(1,[]),(125,[.n,.n,.n]),(126,[.n,.n,.n]),(127,[.c,.c,.c]),(130,[.n,.n,.n]),(134,[.i 2]),(135,[.n,.n,.n]),(182,[.c]),(5,[]),(183,[.l [Tg.i 187],.l [Tg.l [],Tg.l [Tg.i 188,Tg.i 189]],.n,.c,.n,.n,.n,.n,.n,.n,.n,.n,.n,.n,.n,.i 184,.n,.n,.n,.n,.n]),(184,[]),(187,[.n,.n,.n,.n,.n,.n,.n,.n,.n,.n,.n,.l [Tg.l [Tg.i 187],Tg.l []],.n,.n,.n]),(188,[.i 183]),(189,[.i 187])],223⟩ Tryz.call161 (fun F' h=>(t_NewPub (c) hc (pl) (ep) (k.ows) (by omega) (by omega) (by omega) (by omega)).fr) fun _ n22 _ => ?_
  exact xR () trivial
end Go.Proofs.YtnnoeefjnpcfnaaGreatDoor
/- A client's step: what was found is read, or pinned, if large. -/
set_option maxRecDepth 100000
set_option maxHeartbeats 0
namespace Go.Proofs.YtnnoeefjnpcfnaaGreatDoor
open Go.Sx
theorem fr2(c:Cfg)(k:Ck)(A:Ar)(hc:c.Ok)(hA:ArI A)(q i fa pl ep ti ke:Int)(hn:2<A.n)(hw:A.ws.getD 2 0=q)(hk:k.kind=4)(hp:0≤pl∧pl<c.topics)(he:0≤ctlAt c pl)(hcl:0≤k.id∧k.id<c.clients):
  Ct Tryz.prog 14 (stS A (clFd c k ⟨4,q,i,fa,pl,true,ep,0,ti,ke⟩ 11) (A.load 2) (clR1 c k pl ep (newRd k.id) 41 46) .no):=by
 subst hw
 have hc':=hc
 simp only [Cfg.Ok] at hc'
 refine cX 75 xqI Tryz.func14 fun g F => ?_
 refine xCy [⟨(g 0).b,none,0⟩,⟨0,(g 1).a,(g 1).c⟩] [0,1] (Tg.n) ⟨[(2,[.n,.n,.n,.n,.n,.n,.n,.n,.n,.i 3,.n,.n,.n,.n,.i 5,.n,.i 6,.l [Tg.i 11],.l [Tg.l [],Tg.l [Tg.i 12,Tg.i 13]],.n,.n,.i 7,.i 8,.n,.n,.n,.c,.c,.n,.n,.c,.i 9,.n,.i 10]),(3,[.i 4]),(4,[.c,.c,.c,.c,.c,.c]),(5,[]),(6,[]),(9,[]),(10,[]),(11,[.n,.n,.n,.n,.n,.n,.n,.n,.n,.l [Tg.l [Tg.i 11],Tg.l []],.l [Tg.l [Tg.i 11],Tg.l []],.n,.n,.n,.n,.n,.n,.c,.n,.n]),(12,[.i 11]),(13,[.i 2]),(7,[]),(8,[]),(0,[.i 1,.n,.n,.n,.n,.n,.c]),(1,[])],80⟩ Tryz.call137 (fun F' h=>(t_Load (A) (2) hA (by omega)).fr) fun _ n1 _ => ?_
 refine xCy [⟨(g 0).b,none,0⟩,⟨0,(g 1).a,(g 1).c⟩] [12,13] (Tg.n) ⟨[(2,[.n,.n,.n,.n,.n,.n,.n,.n,.n,.i 3,.n,.n,.n,.n,.i 5,.n,.i 6,.l [Tg.i 11],.l [Tg.l [],Tg.l [Tg.i 12,Tg.i 13]],.n,.n,.i 7,.i 8,.n,.n,.n,.c,.c,.n,.n,.c,.i 9,.n,.i 10]),(3,[.i 4]),(4,[.c,.c,.c,.c,.c,.c]),(5,[]),(6,[]),(9,[]),(10,[]),(11,[.n,.n,.n,.n,.n,.n,.n,.n,.n,.l [Tg.l [Tg.i 11],Tg.l []],.l [Tg.l [Tg.i 11],Tg.l []],.n,.n,.n,.n,.n,.n,.c,.n,.n]),(12,[.i 11]),(13,[.i 2]),(7,[]),(8,[]),(0,[.i 1,.n,.n,.n,.n,.n,.c]),(1,[])],121⟩ Tryz.call16 (fun F' h=>(t_Steps (A.n) ((A.load 2).steps) ((A.load 2).lk) ((A.load 2).lw) ((A.load 2).lv) (false) ((A.load 2).ws)).fr) fun _ n3 _ => ?_
 refine xF (!A.ws.getD 2 0==A.ws.getD 2 0) (by first | (simp; done) | (simp; omega)) ?_
 refine xTn (xT:=95) (v:=Value.pointer (some {block:=(g 11).b,off:=0})) taN_209_103 ?_
 refine xN fun b4 => ?_
 refine xN fun b5 => ?_
 refine xN fun b6 => ?_
 refine xN fun b7 => ?_
 refine xF (k.kind==3) (by first | (simp; done) | (simp; omega)) ?_
 refine xT (k.kind==4) (by first | (simp; done) | (simp; omega)) ?_
 refine xN fun b8 => ?_
 refine xN fun b9 => ?_
 refine xN fun b10 => ?_
 refine xF (!true) rfl ?_
 refine xA ?_ ?_
 ·skip
  refine xN fun b11 => ?_
  refine xN fun b12 => ?_
  refine xN fun b13 => ?_
  refine xN fun b14 => ?_
  refine xN fun b15 => ?_
  refine xCy [] [] (Tg.c) ⟨[(2,[.n,.n,.n,.n,.n,.n,.n,.n,.n,.i 3,.n,.n,.n,.n,.i 5,.n,.i 6,.l [Tg.i 11],.l [Tg.l [],Tg.l [Tg.i 12,Tg.i 13]],.n,.n,.i 7,.i 8,.n,.n,.n,.c,.c,.n,.n,.c,.i 9,.n,.i 10]),(3,[.i 4]),(4,[.c,.c,.c,.c,.c,.c]),(5,[]),(6,[]),(9,[]),(10,[]),(11,[.n,.n,.n,.n,.n,.n,.n,.n,.n,.c,.l [Tg.l [Tg.i 11],Tg.l []],.n,.n,.n,.n,.n,.n,.c,.q 121 false,.n]),(12,[.i 11]),(13,[.i 2]),(7,[]),(8,[]),(0,[.i 1,.n,.n,.n,.n,.n,.c]),(1,[]),(125,[.n,.n,.n]),(126,[.n,.n,.n]),(127,[.c,.c,.c]),(130,[.n,.n,.n]),(135,[.i 2]),(136,[.n,.n,.n]),(137,[.l [Tg.l [],Tg.l [Tg.i 135]]]),(140,(List.replicate 9 .n)),(141,[.n]),(142,[.n]),(143,[.n]),(145,(List.replicate 9 .n))],186⟩ Tryz.call48 (fun F' h=>(t_check (c) hc).fr) fun _ n19 _ => ?_
  refine xF (decide (k.id<0)) (by first | (simp; done) | (simp; omega)) ?_
  refine xF (decide (k.id≥c.clients)) (by first | (simp; done) | (simp; omega)) ?_
  refine xN fun b20 => ?_
  refine xN fun b21 => ?_
  refine xCy [] [] (Tg.n) ⟨[(2,[.n,.n,.n,.n,.n,.n,.n,.n,.n,.i 3,.n,.n,.n,.n,.i 5,.n,.i 6,.l [Tg.i 11],.l [Tg.l [],Tg.l [Tg.i 12,Tg.i 13]],.n,.n,.i 7,.i 8,.n,.n,.n,.c,.c,.n,.n,.c,.i 9,.n,.i 10]),(3,[.i 4]),(4,[.c,.c,.c,.c,.c,.c]),(5,[]),(6,[]),(9,[]),(10,[]),(11,[.n,.n,.n,.n,.n,.n,.n,.n,.n,.c,.l [Tg.l [Tg.i 11],Tg.l []],.n,.n,.n,.n,.n,.n,.c,.q 121 false,.n]),(12,[.i 11]),(13,[.i 2]),(7,[]),(8,[]),(0,[.i 1,.n,.n,.n,.n,.n,.c]),(1,[]),(125,[.n,.n,.n]),(126,[.n,.n,.n]),(127,[.c,.c,.c]),(130,[.n,.n,.n]),(135,[.i 2]),(136,[.n,.n,.n]),(137,[.l [Tg.l [],Tg.l [Tg.i 135]]]),(140,(List.replicate 9 .n)),(141,[.n]),(142,[.n]),(143,[.n]),(145,(List.replicate 9 .n)),(189,[.n,.n,.n,.n,.n,.n,.n,.n,.n,.q 144 false,.c,.c]),(190,[.i 189])],233⟩ Tryz.call194 (fun F' h=>(t_Control (c) hc (pl)).fr) fun xn24 n24 hxn24 => ?_
  subst hxn24
  refine xF (ctlAt c pl == -1) (by first | (simp; done) | (simp; omega)) ?_
  refine xN fun b25 => ?_
  refine xN fun b26 => ?_
  refine xN fun b27 => ?_
  exact xR () trivial
 ·skip
  refine xN fun b28 => ?_
  refine xN fun b29 => ?_
  refine xN fun b30 => ?_
  refine xN fun b31 => ?_
  refine xN fun b32 => ?_
  refine xN fun b33 => ?_
  refine xCy [] [] (Tg.c) ⟨[(2,[.n,.n,.n,.n,.n,.n,.n,.n,.n,.i 3,.n,.n,.n,.n,.i 5,.n,.i 6,.l [Tg.i 11],.l [Tg.l [],Tg.l [Tg.i 12,Tg.i 13]],.n,.n,.i 7,.i 8,.n,.n,.n,.c,.c,.n,.n,.c,.i 9,.n,.i 10]),(3,[.i 4]),(4,[.c,.c,.c,.c,.c,.c]),(5,[]),(6,[]),(9,[]),(10,[]),(11,[.n,.n,.n,.n,.n,.n,.n,.n,.n,.c,.l [Tg.l [Tg.i 11],Tg.l []],.n,.n,.n,.n,.n,.n,.c,.q 121 false,.n]),(12,[.i 11]),(13,[.i 2]),(7,[]),(8,[]),(0,[.i 1,.n,.n,.n,.n,.n,.c]),(1,[]),(125,[.n,.n,.n]),(126,[.n,.n,.n]),(127,[.c,.c,.c]),(130,[.n,.n,.n]),(135,[.i 2]),(136,[.n,.n,.n]),(137,[.l [Tg.l [],Tg.l [Tg.i 135]]]),(140,[.c]),(141,(List.replicate 9 .n)),(142,[.n]),(143,[.n]),(144,[.n]),(146,(List.replicate 9 .n))],187⟩ Tryz.call48 (fun F' h=>(t_check (c) hc).fr) fun _ n37 _ => ?_
  refine xF (decide (k.id<0)) (by first | (simp; done) | (simp; omega)) ?_
  refine xF (decide (k.id≥c.clients)) (by first | (simp; done) | (simp; omega)) ?_
  refine xN fun b38 => ?_
  refine xN fun b39 => ?_
  refine xCy [] [] (Tg.n) ⟨[(2,[.n,.n,.n,.n,.n,.n,.n,.n,.n,.i 3,.n,.n,.n,.n,.i 5,.n,.i 6,.l [Tg.i 11],.l [Tg.l [],Tg.l [Tg.i 12,Tg.i 13]],.n,.n,.i 7,.i 8,.n,.n,.n,.c,.c,.n,.n,.c,.i 9,.n,.i 10]),(3,[.i 4]),(4,[.c,.c,.c,.c,.c,.c]),(5,[]),(6,[]),(9,[]),(10,[]),(11,[.n,.n,.n,.n,.n,.n,.n,.n,.n,.c,.l [Tg.l [Tg.i 11],Tg.l []],.n,.n,.n,.n,.n,.n,.c,.q 121 false,.n]),(12,[.i 11]),(13,[.i 2]),(7,[]),(8,[]),(0,[.i 1,.n,.n,.n,.n,.n,.c]),(1,[]),(125,[.n,.n,.n]),(126,[.n,.n,.n]),(127,[.c,.c,.c]),(130,[.n,.n,.n]),(135,[.i 2]),(136,[.n,.n,.n]),(137,[.l [Tg.l [],Tg.l [Tg.i 135]]]),(140,[.c]),(141,(List.replicate 9 .n)),(142,[.n]),(143,[.n]),(144,[.n]),(146,(List.replicate 9 .n)),(190,[.n,.n,.n,.n,.n,.n,.n,.n,.n,.q 145 false,.c,.c]),(191,[.i 190])],234⟩ Tryz.call194 (fun F' h=>(t_Control (c) hc (pl)).fr) fun xn42 n42 hxn42 => ?_
  subst hxn42
  refine xF (ctlAt c pl == -1) (by first | (simp; done) | (simp; omega)) ?_
  refine xN fun b43 => ?_
  refine xN fun b44 => ?_
  exact xR () trivial
theorem fp2(c:Cfg)(k:Ck)(A:Ar)(hc:c.Ok)(hA:ArI A)(q i fa pl ep ti ke:Int)(hn:2<A.n)(hw:A.ws.getD 2 0=q)(hk:k.kind=5)(hp:0≤pl∧pl<c.topics)(he:0≤ctlAt c pl)(hcl:0≤k.id∧k.id<c.clients):
  Ct Tryz.prog 14 (stS A (clFd c k ⟨4,q,i,fa,pl,true,ep,0,ti,ke⟩ 11) (A.load 2) (clN1 c k pl ep ⟨k.id,0,-1⟩ 41 44) .no):=by
 subst hw
 have hc':=hc
 simp only [Cfg.Ok] at hc'
 refine cX 75 xqI Tryz.func14 fun g F => ?_
 refine xCy [⟨(g 0).b,none,0⟩,⟨0,(g 1).a,(g 1).c⟩] [0,1] (Tg.n) ⟨[(2,[.n,.n,.n,.n,.n,.n,.n,.n,.n,.i 3,.n,.n,.n,.n,.i 5,.n,.i 6,.l [Tg.i 11],.l [Tg.l [],Tg.l [Tg.i 12,Tg.i 13]],.n,.n,.i 7,.i 8,.n,.n,.n,.c,.c,.n,.n,.c,.i 9,.n,.i 10]),(3,[.i 4]),(4,[.c,.c,.c,.c,.c,.c]),(5,[]),(6,[]),(9,[]),(10,[]),(11,[.n,.n,.n,.n,.n,.n,.n,.n,.n,.l [Tg.l [Tg.i 11],Tg.l []],.l [Tg.l [Tg.i 11],Tg.l []],.n,.n,.n,.n,.n,.n,.c,.n,.n]),(12,[.i 11]),(13,[.i 2]),(7,[]),(8,[]),(0,[.i 1,.n,.n,.n,.n,.n,.c]),(1,[])],80⟩ Tryz.call137 (fun F' h=>(t_Load (A) (2) hA (by omega)).fr) fun _ n1 _ => ?_
 refine xCy [⟨(g 0).b,none,0⟩,⟨0,(g 1).a,(g 1).c⟩] [12,13] (Tg.n) ⟨[(2,[.n,.n,.n,.n,.n,.n,.n,.n,.n,.i 3,.n,.n,.n,.n,.i 5,.n,.i 6,.l [Tg.i 11],.l [Tg.l [],Tg.l [Tg.i 12,Tg.i 13]],.n,.n,.i 7,.i 8,.n,.n,.n,.c,.c,.n,.n,.c,.i 9,.n,.i 10]),(3,[.i 4]),(4,[.c,.c,.c,.c,.c,.c]),(5,[]),(6,[]),(9,[]),(10,[]),(11,[.n,.n,.n,.n,.n,.n,.n,.n,.n,.l [Tg.l [Tg.i 11],Tg.l []],.l [Tg.l [Tg.i 11],Tg.l []],.n,.n,.n,.n,.n,.n,.c,.n,.n]),(12,[.i 11]),(13,[.i 2]),(7,[]),(8,[]),(0,[.i 1,.n,.n,.n,.n,.n,.c]),(1,[])],121⟩ Tryz.call16 (fun F' h=>(t_Steps (A.n) ((A.load 2).steps) ((A.load 2).lk) ((A.load 2).lw) ((A.load 2).lv) (false) ((A.load 2).ws)).fr) fun _ n3 _ => ?_
 refine xF (!A.ws.getD 2 0==A.ws.getD 2 0) (by first | (simp; done) | (simp; omega)) ?_
 refine xTn (xT:=95) (v:=Value.pointer (some {block:=(g 11).b,off:=0})) taN_209_103 ?_
 refine xN fun b4 => ?_
 refine xN fun b5 => ?_
 refine xN fun b6 => ?_
 refine xN fun b7 => ?_
 refine xF (k.kind==3) (by first | (simp; done) | (simp; omega)) ?_
 refine xF (k.kind==4) (by first | (simp; done) | (simp; omega)) ?_
 refine xT (k.kind==5) (by first | (simp; done) | (simp; omega)) ?_
 refine xN fun b8 => ?_
 refine xN fun b9 => ?_
 refine xF (!true) rfl ?_
 refine xA ?_ ?_
 ·skip
  refine xN fun b10 => ?_
  refine xN fun b11 => ?_
  refine xCy [] [] (Tg.c) ⟨[(2,[.n,.n,.n,.n,.n,.n,.n,.n,.n,.i 3,.n,.n,.n,.n,.i 5,.n,.i 6,.l [Tg.i 11],.l [Tg.l [],Tg.l [Tg.i 12,Tg.i 13]],.n,.n,.i 7,.i 8,.n,.n,.n,.c,.c,.n,.n,.c,.i 9,.n,.i 10]),(3,[.i 4]),(4,[.c,.c,.c,.c,.c,.c]),(5,[]),(6,[]),(9,[]),(10,[]),(11,[.n,.n,.n,.n,.n,.n,.n,.n,.n,.c,.l [Tg.l [Tg.i 11],Tg.l []],.n,.n,.n,.n,.n,.n,.c,.q 121 false,.n]),(12,[.i 11]),(13,[.i 2]),(7,[]),(8,[]),(0,[.i 1,.n,.n,.n,.n,.n,.c]),(1,[]),(125,[.n,.n,.n]),(126,[.n,.n,.n]),(127,[.c,.c,.c]),(130,[.n,.n,.n]),(136,[.i 2]),(137,[.n,.n,.n]),(139,(List.replicate 9 .n)),(141,(List.replicate 9 .n))],182⟩ Tryz.call48 (fun F' h=>(t_check (c) hc).fr) fun _ n15 _ => ?_
  refine xF (decide (k.id<0)) (by first | (simp; done) | (simp; omega)) ?_
  refine xF (decide (k.id≥c.clients)) (by first | (simp; done) | (simp; omega)) ?_
  refine xN fun b16 => ?_
  refine xCy [] [] (Tg.n) ⟨[(2,[.n,.n,.n,.n,.n,.n,.n,.n,.n,.i 3,.n,.n,.n,.n,.i 5,.n,.i 6,.l [Tg.i 11],.l [Tg.l [],Tg.l [Tg.i 12,Tg.i 13]],.n,.n,.i 7,.i 8,.n,.n,.n,.c,.c,.n,.n,.c,.i 9,.n,.i 10]),(3,[.i 4]),(4,[.c,.c,.c,.c,.c,.c]),(5,[]),(6,[]),(9,[]),(10,[]),(11,[.n,.n,.n,.n,.n,.n,.n,.n,.n,.c,.l [Tg.l [Tg.i 11],Tg.l []],.n,.n,.n,.n,.n,.n,.c,.q 121 false,.n]),(12,[.i 11]),(13,[.i 2]),(7,[]),(8,[]),(0,[.i 1,.n,.n,.n,.n,.n,.c]),(1,[]),(125,[.n,.n,.n]),(126,[.n,.n,.n]),(127,[.c,.c,.c]),(130,[.n,.n,.n]),(136,[.i 2]),(137,[.n,.n,.n]),(139,(List.replicate 9 .n)),(141,(List.replicate 9 .n)),(185,[.n,.n,.n,.n,.n,.n,.n,.n,.n,.q 140 false,.c,.c])],227⟩ Tryz.call194 (fun F' h=>(t_Control (c) hc (pl)).fr) fun xn19 n19 hxn19 => ?_
  subst hxn19
  refine xF (ctlAt c pl == -1) (by first | (simp; done) | (simp; omega)) ?_
  refine xN fun b20 => ?_
  refine xN fun b21 => ?_
  exact xR () trivial
 ·skip
  refine xN fun b22 => ?_
  refine xN fun b23 => ?_
  refine xN fun b24 => ?_
  refine xCy [] [] (Tg.c) ⟨[(2,[.n,.n,.n,.n,.n,.n,.n,.n,.n,.i 3,.n,.n,.n,.n,.i 5,.n,.i 6,.l [Tg.i 11],.l [Tg.l [],Tg.l [Tg.i 12,Tg.i 13]],.n,.n,.i 7,.i 8,.n,.n,.n,.c,.c,.n,.n,.c,.i 9,.n,.i 10]),(3,[.i 4]),(4,[.c,.c,.c,.c,.c,.c]),(5,[]),(6,[]),(9,[]),(10,[]),(11,[.n,.n,.n,.n,.n,.n,.n,.n,.n,.c,.l [Tg.l [Tg.i 11],Tg.l []],.n,.n,.n,.n,.n,.n,.c,.q 121 false,.n]),(12,[.i 11]),(13,[.i 2]),(7,[]),(8,[]),(0,[.i 1,.n,.n,.n,.n,.n,.c]),(1,[]),(125,[.n,.n,.n]),(126,[.n,.n,.n]),(127,[.c,.c,.c]),(130,[.n,.n,.n]),(136,[.i 2]),(137,[.n,.n,.n]),(139,[.c]),(140,(List.replicate 9 .n)),(142,(List.replicate 9 .n))],183⟩ Tryz.call48 (fun F' h=>(t_check (c) hc).fr) fun _ n28 _ => ?_
  refine xF (decide (k.id<0)) (by first | (simp; done) | (simp; omega)) ?_
  refine xF (decide (k.id≥c.clients)) (by first | (simp; done) | (simp; omega)) ?_
  refine xN fun b29 => ?_
  refine xCy [] [] (Tg.n) ⟨[(2,[.n,.n,.n,.n,.n,.n,.n,.n,.n,.i 3,.n,.n,.n,.n,.i 5,.n,.i 6,.l [Tg.i 11],.l [Tg.l [],Tg.l [Tg.i 12,Tg.i 13]],.n,.n,.i 7,.i 8,.n,.n,.n,.c,.c,.n,.n,.c,.i 9,.n,.i 10]),(3,[.i 4]),(4,[.c,.c,.c,.c,.c,.c]),(5,[]),(6,[]),(9,[]),(10,[]),(11,[.n,.n,.n,.n,.n,.n,.n,.n,.n,.c,.l [Tg.l [Tg.i 11],Tg.l []],.n,.n,.n,.n,.n,.n,.c,.q 121 false,.n]),(12,[.i 11]),(13,[.i 2]),(7,[]),(8,[]),(0,[.i 1,.n,.n,.n,.n,.n,.c]),(1,[]),(125,[.n,.n,.n]),(126,[.n,.n,.n]),(127,[.c,.c,.c]),(130,[.n,.n,.n]),(136,[.i 2]),(137,[.n,.n,.n]),(139,[.c]),(140,(List.replicate 9 .n)),(142,(List.replicate 9 .n)),(186,[.n,.n,.n,.n,.n,.n,.n,.n,.n,.q 141 false,.c,.c])],228⟩ Tryz.call194 (fun F' h=>(t_Control (c) hc (pl)).fr) fun xn32 n32 hxn32 => ?_
  subst hxn32
  refine xF (ctlAt c pl == -1) (by first | (simp; done) | (simp; omega)) ?_
  refine xN fun b33 => ?_
  exact xR () trivial
end Go.Proofs.YtnnoeefjnpcfnaaGreatDoor
/- A client's step, as one thing: it finds. -/
set_option linter.unusedSimpArgs false
set_option maxRecDepth 100000
namespace Go.Proofs.YtnnoeefjnpcfnaaGreatDoor
open Go.Sx
theorem cls_ren{c:Cfg}{k':Ck}{E' E'':List SE}(l:List (Nat×Nat))(h1:Frm c k' E'')(h3:∀h u,E''.map (SE.e (mixR 2 u (fun r=>h (tb l r))))=E'.map (SE.e h))(h2:tb l 2=2:=by rfl): Cls c k' E':=
 fun h=>⟨E'',fun r=>h (tb l r),h1,by show h (tb l 2)=h 2; rw [h2],fun u f hf=>by rw [h3 h u]; exact hf⟩
theorem dens_ins{L1 L2:List Ent}{x:Ent}(hx:x.den []){f:Ft}(h:dens (L1++L2) f): dens (L1++x :: L2) f:=by
 obtain⟨f1,f2,rfl,h1,h2⟩:=dens_append.1 h
 exact dens_append.2 ⟨f1,f2,rfl,h1,[],f2,rfl,hx,h2⟩
/-- a row that is none, among what is owned -/
theorem cls_nil{c:Cfg}{k':Ck}{E' E'':List SE}(rw_ n:Nat)(k:IntKind)(t:TypeId)(l:List (Nat×Nat))(h1:Frm c k' E'')
  (h3:∀h u,E''.map (SE.e (mixR 2 u (fun r=>bif Nat.beq r rw_ then⟨0,none,0⟩ else h (tb l r))))=(E'.map (SE.e h)).take n ++ .sl none 0 (encI k) 0 1 [] t :: (E'.map (SE.e h)).drop n)
  (h2:tb l 2=2:=by rfl) (h4:Nat.beq 2 rw_ = false:=by rfl):Cls c k' E':=
 fun h=>⟨E'',fun r=>bif Nat.beq r rw_ then⟨0,none,0⟩ else h (tb l r),h1,by show(bif Nat.beq 2 rw_ then _ else h (tb l 2))=h 2; rw [h4,h2]; rfl,
  fun u f hf=>by rw [h3 h u]; exact dens_ins (x:=.sl none 0 (encI k) 0 1 [] t) ⟨sizedI _,.inl ⟨rfl,rfl,rfl,rfl⟩⟩ (by rw [List.take_append_drop]; exact hf)⟩
theorem _root_.Go.Sx.ArW.ari{c:Cfg}(hc:c.Ok){A:Ar}{n:Int}(h:ArW c A n)(hn:n≤1000000000): ArI A:=by
 have:=sizeOfC_ok hc
 obtain⟨h1,h2,h3,h4⟩:=h
 exact⟨h1,by omega,by omega⟩
theorem _root_.Go.Sx.ArW.u64{c:Cfg}{A:Ar}{n:Int}(h:ArW c A n)(i:Nat): U64 (A.ws.getD i 0):=h.2.2.1 i
theorem _root_.Go.Sx.ArW.n2{c:Cfg}(hc:c.Ok){A:Ar}{n:Int}(h:ArW c A n): 2<A.n:=by
 have:=sizeOfC_ok hc
 have:=h.2.1
 omega
theorem tm2{w:Int}(h:U64 w): w.tmod 2=w % 2:=Int.tmod_eq_emod_of_nonneg h.1
/-- a step of a client, whatever its entries are -/
def CkT(c:Cfg)(sk:Int)(F:Fr)(k:Ck)(A:Ar): Prop := ∀E,Frm c k E→BxW F A E c (k.step c sk A).1 (k.step c sk A).2 (!(k.step c sk A).1.busy)
/-- what holds of a client at any time -/
structure KOk (c:Cfg) (k:Ck):Prop where
 id:0≤k.id∧k.id<c.clients
 failed:0≤k.failed∧k.failed<c.retry
 ows:k.ows.length≤1000
structure FndOk (c:Cfg) (k:Ck) (S:Fnd):Prop where
 ph:1≤S.ph∧S.ph≤4
 kind:3≤k.kind∧k.kind≤5
 failed:0≤S.failed∧S.failed<c.retry
 key:startC c S.key≠-1
 i:S.ph=2→0≤S.i∧S.i<c.topics
 err:S.err=0∨(S.ph=4∧S.err=12)
 pl:S.ph=3∨S.ph=4→S.err=0→0≤S.pl∧S.pl<c.topics
 ws:k.kind=3→1≤k.ows.length
 ep:S.ph=3→S.ep=0
theorem start_rng{c:Cfg}(hc:c.Ok){k:Int}(h:startC c k≠-1): 0≤startC c k∧startC c k<c.topics:=by
 simp only [Cfg.Ok] at hc
 unfold startC at h ⊢
 split
 ·exact⟨Int.emod_nonneg _ (by omega),Int.emod_lt_of_pos _ (by omega)⟩
 ·rename_i hk; rw [if_neg hk] at h; exact absurd rfl h
theorem place_eq{c:Cfg}(hc:c.Ok){s i:Int}(hs:0≤s)(hi:0≤i): (s+i).tmod c.topics=(s+i) % c.topics∧0≤(s+i) % c.topics∧(s+i) % c.topics<c.topics:=by
 simp only [Cfg.Ok] at hc
 exact⟨Int.tmod_eq_emod_of_nonneg (by omega),Int.emod_nonneg _ (by omega),Int.emod_lt_of_pos _ (by omega)⟩
theorem entAt_ok{c:Cfg}(hc:c.Ok){i:Int}(h:0≤i∧i<c.topics): 0≤entAt c i∧entAt c i<sizeOfC c:=by
 have h1:=ctlAt_ok hc (i:=0) (by simp only [Cfg.Ok] at hc; omega)
 unfold entAt
 rw [if_pos h]
 simp only [Cfg.Ok] at hc
 omega
theorem ck_find{c:Cfg}{sk:Int}{k:Ck}{A A':Ar}{S S':Fnd}(hk:k.part = .find S)(h:S.step c A=(S' ,A'))(hp:S'.ph≠0): k.step c sk A=({k with part:=.find S'},A'):=by
 simp only [Ck.step,hk,h]; rw [if_neg hp]
theorem ck_findE{c:Cfg}{sk:Int}{k:Ck}{A A':Ar}{S S':Fnd}(hk:k.part = .find S)(h:S.step c A=(S' ,A'))(hp:S'.ph=0)(he:S'.err≠0): k.step c sk A=(k.code S'.err S'.time,A'):=by
 simp only [Ck.step,hk,h]; rw [if_pos hp,if_neg he]
theorem ck_findF{c:Cfg}{sk:Int}{k:Ck}{A A':Ar}{S S':Fnd}(hk:k.part = .find S)(h:S.step c A=(S' ,A'))(hp:S'.ph=0)(he:S'.err=0): k.step c sk A=(k.found c S'.pl S'.ep S'.lg S'.time,A'):=by
 simp only [Ck.step,hk,h]; rw [if_pos hp,if_pos he]
theorem st_find{c:Cfg}(hc:c.Ok){sk:Int}{F:Fr}(hF:HF F){k:Ck}{A:Ar}{n:Int}(hA:ArW c A n)(hn:n≤1000000000)(hK:KOk c k){S:Fnd}(hk:k.part = .find S)(hS:FndOk c k S): CkT c sk F k A:=by
 intro E hE
 simp only [Frm,hk] at hE
 subst hE
 have hI:=hA.ari hc hn
 have h2:=hA.n2 hc
 have hN:=hA.2.1
 have hc':=hc
 simp only [Cfg.Ok] at hc'
 obtain⟨ph,q,i,fa,pl,lg,ep,er,ti,ke⟩:=S
 obtain⟨s1,s2,s3,s4,s5,s6,s7,s8,s9⟩:=hS
 simp only at s1 s2 s3 s4 s5 s6 s7 s8 s9
 have hst:=start_rng hc s4
 obtain rfl | rfl | rfl | rfl:ph=1∨ph=2∨ph=3∨ph=4:=by omega
 ·obtain rfl:er=0:=by omega
  by_cases hw:(A.ws.getD 2 0) % 2=1
  ·by_cases hr:fa+1=c.retry
   ·have e:k.step c sk A=(k.code 17 ti,A.load 2):=by simp [-List.getD_eq_getElem?_getD,Ck.step,hk,Fnd.step,Fnd.fail,hw,hr]
    rw [e]
    exact bx_done (fd1c c k A hc hI q i fa pl ep ti ke _ lg h2 rfl (by rw [tm2 (hA.u64 2)]; exact hw) (by omega) hr F hF) fun v=>cls_Z rfl rfl rfl
   ·have e:k.step c sk A=({k with part:=.find ⟨1,A.ws.getD 2 0,0,fa+1,0,false,0,0,ti,ke⟩},A.load 2):=by simp [-List.getD_eq_getElem?_getD,Ck.step,hk,Fnd.step,Fnd.fail,hw,hr]
    rw [e]
    exact bx_more (fd1b c k A hc hI q i fa pl ep ti ke _ lg h2 rfl (by rw [tm2 (hA.u64 2)]; exact hw) (by omega) hr).fr (cls_ren [] rfl fun h u=>by kernel_rfl)
  ·have e:k.step c sk A=({k with part:=.find ⟨2,A.ws.getD 2 0,0,fa,0,false,0,0,ti,ke⟩},A.load 2):=by simp [-List.getD_eq_getElem?_getD,Ck.step,hk,Fnd.step,Fnd.fail,hw]
   rw [e]
   exact bx_more (fd1a c k A hc hI q i fa pl ep ti ke _ lg h2 rfl (by rw [tm2 (hA.u64 2)]; exact hw)).fr (cls_ren [] rfl fun h u=>by kernel_rfl)
 ·obtain rfl:er=0:=by omega
  have hi:=s5 rfl
  have hp:=place_eq hc hst.1 hi.1
  have he:=entAt_ok hc hp.2
  have hU:=hA.u64 (entAt c ((startC c ke+i) % c.topics)).toNat
  by_cases hk2:(keyW (A.ws.getD (entAt c ((startC c ke+i) % c.topics)).toNat 0)).is=true∧(keyW (A.ws.getD (entAt c ((startC c ke+i) % c.topics)).toNat 0)).key=ke
  ·have e:k.step c sk A=({k with part:=.find ⟨3,q,i+1,fa,(startC c ke+i) % c.topics,(keyW (A.ws.getD (entAt c ((startC c ke+i) % c.topics)).toNat 0)).lg,0,0,ti,ke⟩},A.load (entAt c ((startC c ke+i) % c.topics))):=ck_find hk (Prod.ext (if_pos hk2) rfl) (by simp)
   rw [e]
   exact bx_more (fd2a c k A hc hI q i fa pl ep ti ke _ _ lg hp.1 hp.2 hst (by omega) rfl hU hi hk2.1 hk2.2).fr (cls_ren [] rfl fun h u=>by kernel_rfl)
  ·by_cases hz:A.ws.getD (entAt c ((startC c ke+i) % c.topics)).toNat 0=0∨i+1=c.topics
   ·have e:k.step c sk A=({k with part:=.find ⟨4,q,i+1,fa,pl,lg,ep,12,ti,ke⟩},A.load (entAt c ((startC c ke+i) % c.topics))):=ck_find hk (Prod.ext ((if_neg hk2).trans (if_pos hz)) rfl) (by simp)
    rw [e]
    exact bx_more (fd2b c k A hc hI q i fa pl ep ti ke _ _ lg hp.1 hp.2 hst (by omega) rfl hU hi hk2 hz).fr (cls_ren [] rfl fun h u=>by kernel_rfl)
   ·have e:k.step c sk A=({k with part:=.find ⟨2,q,i+1,fa,pl,lg,ep,0,ti,ke⟩},A.load (entAt c ((startC c ke+i) % c.topics))):=ck_find hk (Prod.ext ((if_neg hk2).trans (if_neg hz)) rfl) (by simp)
    rw [e]
    exact bx_more (fd2c c k A hc hI q i fa pl ep ti ke _ _ lg hp.1 hp.2 hst (by omega) rfl hU hi hk2 (fun h=>hz (.inl h)) (fun h=>hz (.inr h))).fr (cls_ren [] rfl fun h u=>by kernel_rfl)
 ·obtain rfl:er=0:=by omega
  obtain rfl:=s9 rfl
  have hp:=s7 (.inl rfl) rfl
  have he:=ctlAt_ok hc hp
  have e:k.step c sk A=({k with part:=.find ⟨4,q,i,fa,pl,lg,ctlEpoch (A.ws.getD (ctlAt c pl).toNat 0),0,ti,ke⟩},A.load (ctlAt c pl)):=ck_find hk rfl (by simp)
  rw [e]
  exact bx_more (fd3 c k A hc hI q i fa pl 0 ti ke _ 0 lg hp (by omega) rfl (hA.u64 _)).fr (cls_ren [] rfl fun h u=>by kernel_rfl)
 ·by_cases hq:A.ws.getD 2 0=q
  ·rcases (by omega:er=0∨er=12) with rfl | rfl
   ·have e:=ck_findF (c:=c) (A':=A.load 2) (sk:=sk) (S':=⟨0,q,i,fa,pl,lg,ep,0,A.steps+1,ke⟩) hk (Prod.ext (if_pos hq) rfl) rfl rfl
    have hp:=s7 (.inr rfl) rfl
    have hct:=ctlAt_ok hc hp
    rw [e]
    obtain⟨kid,kfa,kow⟩:=hK
    rcases (by omega:k.kind=3∨k.kind=4∨k.kind=5) with hkd | hkd | hkd
    ·have hw1:=s8 hkd
     cases lg with
     | false=>
      by_cases hsz:c.small<(k.ows.length:Int)
      ·have e2:k.found c pl ep false (A.steps+1)=k.code 21 (A.steps+1):=by
        simp [Ck.found,hkd,hsz]
       simp only [e2]
       exact bx_done (fs1 c k A hc hI q i fa pl ep ti ke h2 hq hkd hsz (by omega) F hF) fun v=>cls_Z rfl rfl rfl
      ·have e2:k.found c pl ep false (A.steps+1) = {k with part:=.write ⟨newSm pl ep,k.ows,0,false⟩}:=by
        simp [Ck.found,hkd,hsz]
       simp only [e2]
       exact bx_more (fs2 c k A hc hI q i fa pl ep ti ke h2 hq hkd (by omega) (by omega) hp (by omega)).fr (cls_ren [(11,41),(12,42),(13,43),(14,44)] rfl fun h u=>by kernel_rfl)
     | true=>
      by_cases hsz:fitK c (k.ows.length:Int) = -1
      ·have e2:k.found c pl ep true (A.steps+1)=k.code 21 (A.steps+1):=by
        simp [Ck.found,hkd,hsz]
       simp only [e2]
       exact bx_done (fs3 c k A hc hI q i fa pl ep ti ke h2 hq hkd hsz (by omega) F hF) fun v=>cls_Z rfl rfl rfl
      ·have e2:k.found c pl ep true (A.steps+1) = {k with part:=.pub pl ep k.ows (newPb (fitK c (k.ows.length:Int)))}:=by
        simp [Ck.found,hkd,hsz]
       simp only [e2]
       have hf:0≤fitK c (k.ows.length:Int)∧fitK c (k.ows.length:Int)<2:=by
        revert hsz; unfold fitK; split <;> (try split) <;> (try split) <;> omega
       exact bx_more (fs4 c k A hc hI q i fa pl ep ti ke h2 hq hkd hp (by omega) _ rfl hf (by omega) (by omega)).fr (cls_ren [(11,41),(12,42),(13,43),(14,44),(15,45),(16,46),(17,47)] rfl fun h u=>by kernel_rfl)
    ·cases lg with
     | false=>
      have e2:k.found c pl ep false (A.steps+1) = {k with part:=.sread ⟨newSm pl ep,[]⟩}:=by
       simp [Ck.found,hkd]
      simp only [e2]
      exact bx_more (fr1 c k A hc hI q i fa pl ep ti ke h2 hq hkd hp (by omega)).fr (cls_nil 12 8 .u64 54 [(11,41),(13,43),(14,44),(15,45)] rfl fun h u=>by kernel_rfl)
     | true=>
      have e2:k.found c pl ep true (A.steps+1) = {k with part:=.lread pl ep (newRd k.id)}:=by
       simp [Ck.found,hkd]
      simp only [e2]
      exact bx_more (fr2 c k A hc hI q i fa pl ep ti ke h2 hq hkd hp (by omega) kid).fr (cls_ren [(11,41),(13,43),(14,44),(15,45),(16,46),(17,47),(18,48),(19,49),(20,50),(21,51),(22,52)] rfl fun h u=>by kernel_rfl)
    ·cases lg with
     | false=>
      have e2:k.found c pl ep false (A.steps+1)=k.code 24 (A.steps+1):=by
       simp [Ck.found,hkd]
      simp only [e2]
      exact bx_done (fp1 c k A hc hI q i fa pl ep ti ke h2 hq hkd F hF) fun v=>cls_Z rfl rfl rfl
     | true=>
      have e2:k.found c pl ep true (A.steps+1) = {k with part:=.pin pl ep (newPn k.id)}:=by
       simp [Ck.found,hkd]
      simp only [e2]
      exact bx_more (fp2 c k A hc hI q i fa pl ep ti ke h2 hq hkd hp (by omega) kid).fr (cls_ren [(11,41),(12,42),(13,43),(14,44)] rfl fun h u=>by kernel_rfl)
   ·have e:k.step c sk A=(k.code 12 (A.steps+1),A.load 2):=ck_findE (S':=⟨0,q,i,fa,pl,lg,ep,12,A.steps+1,ke⟩) hk (Prod.ext (if_pos hq) rfl) rfl (by simp)
    rw [e]
    exact bx_done (fd4a c k A hc hI q i fa pl ep ti ke 0 0 lg h2 hq F hF) fun v=>cls_Z rfl rfl rfl
  ·by_cases hr:fa+1=c.retry
   ·have e:k.step c sk A=(k.code 17 (A.steps+1),A.load 2):=ck_findE (S':=⟨0,q,i,fa+1,0,false,0,17,A.steps+1,ke⟩) hk (Prod.ext ((if_neg hq).trans (if_pos hr)) rfl) rfl (by simp)
    rw [e]
    rcases (by omega:er=0∨er=12) with rfl | rfl
    ·exact bx_done (fd4c c k A hc hI q i fa pl ep ti ke 0 0 lg h2 hq (by omega) hr F hF) fun v=>cls_Z rfl rfl rfl
    ·exact bx_done (fd4c2 c k A hc hI q i fa pl ep ti ke 0 0 lg h2 hq (by omega) hr F hF) fun v=>cls_Z rfl rfl rfl
   ·have e:k.step c sk A=({k with part:=.find ⟨1,q,i,fa+1,0,false,0,0,A.steps+1,ke⟩},A.load 2):=ck_find hk (Prod.ext ((if_neg hq).trans (if_neg hr)) rfl) (by simp)
    rw [e]
    rcases (by omega:er=0∨er=12) with rfl | rfl
    ·exact bx_more (fd4b c k A hc hI q i fa pl ep ti ke 0 0 lg h2 hq (by omega) hr).fr (cls_ren [] rfl fun h u=>by kernel_rfl)
    ·exact bx_more (fd4b2 c k A hc hI q i fa pl ep ti ke 0 0 lg h2 hq (by omega) hr).fr (cls_ren [] rfl fun h u=>by kernel_rfl)
end Go.Proofs.YtnnoeefjnpcfnaaGreatDoor
/- A client's step: it begins, and takes. -/
set_option maxRecDepth 100000
set_option maxHeartbeats 0
namespace Go.Proofs.YtnnoeefjnpcfnaaGreatDoor
open Go.Sx
theorem c1a(c:Cfg)(k:Ck)(A:Ar)(hc:c.Ok)(hA:ArI A)(q i fa ti ke w:Int)(hd:Bool)(lg tl:Bool)(pl sn tp te:Int)(hn:2<A.n)(hw:A.ws.getD 2 0=w)(h2:w.tmod 2≠1):
  Ct Tryz.prog 14 (stS A (clCr c k ⟨⟨1,q,i,fa,hd,ti,0,ke⟩,lg,pl,sn,tp,te,tl⟩ 11) (A.load 2) (clCr c k ⟨⟨2,w,i,fa,hd,ti,0,ke⟩,lg,pl,sn,tp,te,tl⟩ 11) .no):=by
 subst hw
 refine cX 75 xqI Tryz.func14 fun g F => ?_
 refine xCy [⟨(g 0).b,none,0⟩,⟨0,(g 1).a,(g 1).c⟩] [0,1] (Tg.n) ⟨[(2,[.n,.n,.n,.n,.n,.n,.n,.n,.n,.i 3,.n,.n,.n,.n,.i 5,.n,.i 6,.l [Tg.i 11],.l [Tg.l [],Tg.l [Tg.i 13,Tg.i 14]],.n,.n,.i 7,.i 8,.n,.n,.n,.c,.c,.n,.n,.c,.i 9,.n,.i 10]),(3,[.i 4]),(4,[.c,.c,.c,.c,.c,.c]),(5,[]),(6,[]),(9,[]),(10,[]),(11,[.i 12,.n,.n,.n,.n,.n,.n]),(12,[.n,.n,.n,.n,.n,.n,.n,.n,.n,.n,.l [Tg.l [Tg.i 12],Tg.l []],.l [Tg.l [Tg.i 11],Tg.l []],.n,.n,.n,.n,.n,.c]),(13,[.i 11]),(14,[.i 2]),(7,[]),(8,[]),(0,[.i 1,.n,.n,.n,.n,.n,.c]),(1,[])],80⟩ Tryz.call137 (fun F' h=>(t_Load (A) (2) hA (by omega)).fr) fun _ n1 _ => ?_
 refine xO ((2:Int)≠(0:Int)) (by omega) ?_
 refine xF ((A.ws.getD (2:Nat) (0:Int)).tmod (2:Int)==(1:Int)) (beq_eq_false_iff_ne.2 (by omega)) ?_
 refine xTn (xT:=95) (v:=Value.pointer (some {block:=(g 11).b,off:=0})) taN_153_103 ?_
 exact xR () trivial
theorem c1b(c:Cfg)(k:Ck)(A:Ar)(hc:c.Ok)(hA:ArI A)(q i fa ti ke w:Int)(hd:Bool)(lg tl:Bool)(pl sn tp te:Int)(hn:2<A.n)(hw:A.ws.getD 2 0=w)(h2:w.tmod 2=1)(hf:0≤fa∧fa<100)(hr:fa+1≠c.retry):
  Ct Tryz.prog 14 (stS A (clCr c k ⟨⟨1,q,i,fa,hd,ti,0,ke⟩,lg,pl,sn,tp,te,tl⟩ 11) (A.load 2) (clCr c k ⟨⟨1,w,i,fa+1,hd,ti,0,ke⟩,lg,pl,sn,tp,te,tl⟩ 11) .no):=by
 subst hw
 refine cX 75 xqI Tryz.func14 fun g F => ?_
 refine xCy [⟨(g 0).b,none,0⟩,⟨0,(g 1).a,(g 1).c⟩] [0,1] (Tg.n) ⟨[(2,[.n,.n,.n,.n,.n,.n,.n,.n,.n,.i 3,.n,.n,.n,.n,.i 5,.n,.i 6,.l [Tg.i 11],.l [Tg.l [],Tg.l [Tg.i 13,Tg.i 14]],.n,.n,.i 7,.i 8,.n,.n,.n,.c,.c,.n,.n,.c,.i 9,.n,.i 10]),(3,[.i 4]),(4,[.c,.c,.c,.c,.c,.c]),(5,[]),(6,[]),(9,[]),(10,[]),(11,[.i 12,.n,.n,.n,.n,.n,.n]),(12,[.n,.n,.n,.n,.n,.n,.n,.n,.n,.n,.l [Tg.l [Tg.i 12],Tg.l []],.l [Tg.l [Tg.i 11],Tg.l []],.n,.n,.n,.n,.n,.c]),(13,[.i 11]),(14,[.i 2]),(7,[]),(8,[]),(0,[.i 1,.n,.n,.n,.n,.n,.c]),(1,[])],80⟩ Tryz.call137 (fun F' h=>(t_Load (A) (2) hA (by omega)).fr) fun _ n1 _ => ?_
 refine xO ((2:Int)≠(0:Int)) (by omega) ?_
 refine xT ((A.ws.getD (2:Nat) (0:Int)).tmod (2:Int)==(1:Int)) (beq_iff_eq.2 (by omega)) ?_
 refine xO (InK IntKind.i64 (fa+1)) (by simp only [InK]; omega) ?_
 refine xF (fa+1==c.retry) (by first | (simp; done) | (simp; omega)) ?_
 refine xTn (xT:=95) (v:=Value.pointer (some {block:=(g 11).b,off:=0})) taN_153_103 ?_
 exact xR () trivial
theorem c1c(c:Cfg)(k:Ck)(A:Ar)(hc:c.Ok)(hA:ArI A)(q i fa ti ke w:Int)(hd:Bool)(lg tl:Bool)(pl sn tp te:Int)(hn:2<A.n)(hw:A.ws.getD 2 0=w)(h2:w.tmod 2=1)(hf:0≤fa∧fa<100)(hr:fa+1=c.retry)(F:Fr)(hF:HF F):
  CtF Tryz.prog F 14 (stV A (clCr c k ⟨⟨1,q,i,fa,hd,ti,0,ke⟩,lg,pl,sn,tp,te,tl⟩ 11) (A.load 2) fun v=>clZ c (k.code 17 ti) v):=by
 subst hw
 refine cF 75 xqI Tryz.func14 fun g => ?_
 refine xCy [⟨(g 0).b,none,0⟩,⟨0,(g 1).a,(g 1).c⟩] [0,1] (Tg.n) ⟨[(2,[.n,.n,.n,.n,.n,.n,.n,.n,.n,.i 3,.n,.n,.n,.n,.i 5,.n,.i 6,.l [Tg.i 11],.l [Tg.l [],Tg.l [Tg.i 13,Tg.i 14]],.n,.n,.i 7,.i 8,.n,.n,.n,.c,.c,.n,.n,.c,.i 9,.n,.i 10]),(3,[.i 4]),(4,[.c,.c,.c,.c,.c,.c]),(5,[]),(6,[]),(9,[]),(10,[]),(11,[.i 12,.n,.n,.n,.n,.n,.n]),(12,[.n,.n,.n,.n,.n,.n,.n,.n,.n,.n,.l [Tg.l [Tg.i 12],Tg.l []],.l [Tg.l [Tg.i 11],Tg.l []],.n,.n,.n,.n,.n,.c]),(13,[.i 11]),(14,[.i 2]),(7,[]),(8,[]),(0,[.i 1,.n,.n,.n,.n,.n,.c]),(1,[])],80⟩ Tryz.call137 (fun F' h=>(t_Load (A) (2) hA (by omega)).fr) fun _ n1 _ => ?_
 refine xO ((2:Int)≠(0:Int)) (by omega) ?_
 refine xT ((A.ws.getD (2:Nat) (0:Int)).tmod (2:Int)==(1:Int)) (beq_iff_eq.2 (by omega)) ?_
 refine xO (InK IntKind.i64 (fa+1)) (by simp only [InK]; omega) ?_
 refine xT (fa+1==c.retry) (by first | (simp; done) | (simp; omega)) ?_
 refine xTn (xT:=95) (v:=Value.pointer (some {block:=(g 11).b,off:=0})) taN_153_103 ?_
 refine xN fun b2 => ?_
 refine xN fun b3 => ?_
 refine xCy [] [] (Tg.n) ⟨[(2,[.n,.n,.n,.n,.n,.n,.n,.n,.n,.i 3,.n,.n,.n,.n,.i 5,.n,.i 6,.l [Tg.i 11],.l [Tg.l [],Tg.l [Tg.i 13,Tg.i 14]],.n,.n,.i 7,.i 8,.n,.n,.n,.c,.c,.n,.n,.c,.i 9,.n,.i 10]),(3,[.i 4]),(4,[.c,.c,.c,.c,.c,.c]),(5,[]),(6,[]),(9,[]),(10,[]),(11,[.i 12,.n,.n,.n,.n,.n,.n]),(12,[.n,.n,.n,.n,.n,.n,.n,.n,.n,.n,.c,.l [Tg.l [Tg.i 11],Tg.l []],.q 80 false,.n,.q 86 false,.n,.n,.l [Tg.c]]),(13,[.i 11]),(14,[.i 2]),(7,[]),(8,[]),(0,[.i 1,.n,.n,.n,.n,.n,.c]),(1,[]),(91,[.c,.c,.c]),(93,[.c,.c,.c])],135⟩ Tryz.call74 (fun F' h=>t_topE (17) F' (hF.mono h)) fun _ n5 _ => ?_
 refine xN fun b6 => ?_
 exact xR (Value.func (Fn.func (85:Nat)) {toList:=[]} {toList:=[Value.pointer (some {block:=(g ((11:Nat)+(2:Nat))).b,off:=(0:Nat)}),Value.pointer (some {block:=(g ((11:Nat)+(3:Nat))).b,off:=(0:Nat)})]}) (by omega)
end Go.Proofs.YtnnoeefjnpcfnaaGreatDoor
/- A client's step: it takes. -/
set_option maxRecDepth 100000
set_option maxHeartbeats 0
namespace Go.Proofs.YtnnoeefjnpcfnaaGreatDoor
open Go.Sx
theorem c2a(c:Cfg)(k:Ck)(A:Ar)(hc:c.Ok)(hA:ArI A)(q i fa ti ke w:Int)(hd:Bool)(lg tl:Bool)(pl sn tp te:Int)(hn:2<A.n)(hw:A.ws.getD 2 0=q):
  Ct Tryz.prog 14 (stS A (clCr c k ⟨⟨2,q,i,fa,hd,ti,0,ke⟩,lg,pl,sn,tp,te,tl⟩ 11) (A.swapT 2 (IntKind.u64.wrap (q+1))) (clCr c k ⟨⟨3,q,i,fa,true,ti,0,ke⟩,lg,pl,sn,tp,te,tl⟩ 11) .no):=by
 refine cX 75 xqI Tryz.func14 fun g F => ?_
 refine xCy [⟨(g 0).b,none,0⟩,⟨0,(g 1).a,(g 1).c⟩] [0,1] (Tg.c) ⟨[(2,[.n,.n,.n,.n,.n,.n,.n,.n,.n,.i 3,.n,.n,.n,.n,.i 5,.n,.i 6,.l [Tg.i 11],.l [Tg.l [],Tg.l [Tg.i 13,Tg.i 14]],.n,.n,.i 7,.i 8,.n,.n,.n,.c,.c,.n,.n,.c,.i 9,.n,.i 10]),(3,[.i 4]),(4,[.c,.c,.c,.c,.c,.c]),(5,[]),(6,[]),(9,[]),(10,[]),(11,[.i 12,.n,.n,.n,.n,.n,.n]),(12,[.n,.n,.n,.n,.n,.n,.n,.n,.n,.n,.l [Tg.l [Tg.i 12],Tg.l []],.l [Tg.l [Tg.i 11],Tg.l []],.n,.n,.n,.n,.n,.c]),(13,[.i 11]),(14,[.i 2]),(7,[]),(8,[]),(0,[.i 1,.n,.n,.n,.n,.n,.c]),(1,[])],80⟩ Tryz.call192 (fun F' h=>(t_Swap1 (A) (2) (q) (IntKind.u64.wrap (q+1)) hA (by omega) hw).fr) fun _ n1 _ => ?_
 refine xTn (xT:=95) (v:=Value.pointer (some {block:=(g 11).b,off:=0})) taN_153_103 ?_
 exact xR () trivial
theorem c2b(c:Cfg)(k:Ck)(A:Ar)(hc:c.Ok)(hA:ArI A)(q i fa ti ke w:Int)(hd:Bool)(lg tl:Bool)(pl sn tp te:Int)(hn:2<A.n)(hw:A.ws.getD 2 0≠q)(hf:0≤fa∧fa<100)(hr:fa+1≠c.retry):
  Ct Tryz.prog 14 (stS A (clCr c k ⟨⟨2,q,i,fa,hd,ti,0,ke⟩,lg,pl,sn,tp,te,tl⟩ 11) (A.swapF 2) (clCr c k ⟨⟨1,q,i,fa+1,false,ti,0,ke⟩,lg,pl,sn,tp,te,tl⟩ 11) .no):=by
 refine cX 75 xqI Tryz.func14 fun g F => ?_
 refine xCy [⟨(g 0).b,none,0⟩,⟨0,(g 1).a,(g 1).c⟩] [0,1] (Tg.c) ⟨[(2,[.n,.n,.n,.n,.n,.n,.n,.n,.n,.i 3,.n,.n,.n,.n,.i 5,.n,.i 6,.l [Tg.i 11],.l [Tg.l [],Tg.l [Tg.i 13,Tg.i 14]],.n,.n,.i 7,.i 8,.n,.n,.n,.c,.c,.n,.n,.c,.i 9,.n,.i 10]),(3,[.i 4]),(4,[.c,.c,.c,.c,.c,.c]),(5,[]),(6,[]),(9,[]),(10,[]),(11,[.i 12,.n,.n,.n,.n,.n,.n]),(12,[.n,.n,.n,.n,.n,.n,.n,.n,.n,.n,.l [Tg.l [Tg.i 12],Tg.l []],.l [Tg.l [Tg.i 11],Tg.l []],.n,.n,.n,.n,.n,.c]),(13,[.i 11]),(14,[.i 2]),(7,[]),(8,[]),(0,[.i 1,.n,.n,.n,.n,.n,.c]),(1,[])],80⟩ Tryz.call192 (fun F' h=>(t_Swap0 (A) (2) (q) (IntKind.u64.wrap (q+1)) hA (by omega) hw).fr) fun _ n1 _ => ?_
 refine xO (InK IntKind.i64 (fa+1)) (by simp only [InK]; omega) ?_
 refine xF (fa+1==c.retry) (by first | (simp; done) | (simp; omega)) ?_
 refine xTn (xT:=95) (v:=Value.pointer (some {block:=(g 11).b,off:=0})) taN_153_103 ?_
 exact xR () trivial
theorem c2c(c:Cfg)(k:Ck)(A:Ar)(hc:c.Ok)(hA:ArI A)(q i fa ti ke w:Int)(hd:Bool)(lg tl:Bool)(pl sn tp te:Int)(hn:2<A.n)(hw:A.ws.getD 2 0≠q)(hf:0≤fa∧fa<100)(hr:fa+1=c.retry)(F:Fr)(hF:HF F):
  CtF Tryz.prog F 14 (stV A (clCr c k ⟨⟨2,q,i,fa,hd,ti,0,ke⟩,lg,pl,sn,tp,te,tl⟩ 11) (A.swapF 2) fun v=>clZ c (k.code 17 ti) v):=by
 refine cF 75 xqI Tryz.func14 fun g => ?_
 refine xCy [⟨(g 0).b,none,0⟩,⟨0,(g 1).a,(g 1).c⟩] [0,1] (Tg.c) ⟨[(2,[.n,.n,.n,.n,.n,.n,.n,.n,.n,.i 3,.n,.n,.n,.n,.i 5,.n,.i 6,.l [Tg.i 11],.l [Tg.l [],Tg.l [Tg.i 13,Tg.i 14]],.n,.n,.i 7,.i 8,.n,.n,.n,.c,.c,.n,.n,.c,.i 9,.n,.i 10]),(3,[.i 4]),(4,[.c,.c,.c,.c,.c,.c]),(5,[]),(6,[]),(9,[]),(10,[]),(11,[.i 12,.n,.n,.n,.n,.n,.n]),(12,[.n,.n,.n,.n,.n,.n,.n,.n,.n,.n,.l [Tg.l [Tg.i 12],Tg.l []],.l [Tg.l [Tg.i 11],Tg.l []],.n,.n,.n,.n,.n,.c]),(13,[.i 11]),(14,[.i 2]),(7,[]),(8,[]),(0,[.i 1,.n,.n,.n,.n,.n,.c]),(1,[])],80⟩ Tryz.call192 (fun F' h=>(t_Swap0 (A) (2) (q) (IntKind.u64.wrap (q+1)) hA (by omega) hw).fr) fun _ n1 _ => ?_
 refine xO (InK IntKind.i64 (fa+1)) (by simp only [InK]; omega) ?_
 refine xT (fa+1==c.retry) (by first | (simp; done) | (simp; omega)) ?_
 refine xTn (xT:=95) (v:=Value.pointer (some {block:=(g 11).b,off:=0})) taN_153_103 ?_
 refine xN fun b2 => ?_
 refine xN fun b3 => ?_
 refine xCy [] [] (Tg.n) ⟨[(2,[.n,.n,.n,.n,.n,.n,.n,.n,.n,.i 3,.n,.n,.n,.n,.i 5,.n,.i 6,.l [Tg.i 11],.l [Tg.l [],Tg.l [Tg.i 13,Tg.i 14]],.n,.n,.i 7,.i 8,.n,.n,.n,.c,.c,.n,.n,.c,.i 9,.n,.i 10]),(3,[.i 4]),(4,[.c,.c,.c,.c,.c,.c]),(5,[]),(6,[]),(9,[]),(10,[]),(11,[.i 12,.n,.n,.n,.n,.n,.n]),(12,[.n,.n,.n,.n,.n,.n,.n,.n,.n,.n,.c,.l [Tg.l [Tg.i 11],Tg.l []],.n,.n,.q 83 false,.c,.n,.l [Tg.c]]),(13,[.i 11]),(14,[.i 2]),(7,[]),(8,[]),(0,[.i 1,.n,.n,.n,.n,.n,.c]),(1,[]),(88,[.c,.c,.c]),(90,[.c,.c,.c])],132⟩ Tryz.call74 (fun F' h=>t_topE (17) F' (hF.mono h)) fun _ n5 _ => ?_
 refine xN fun b6 => ?_
 exact xR (Value.func (Fn.func (85:Nat)) {toList:=[]} {toList:=[Value.pointer (some {block:=(g ((11:Nat)+(2:Nat))).b,off:=(0:Nat)}),Value.pointer (some {block:=(g ((11:Nat)+(3:Nat))).b,off:=(0:Nat)})]}) (by omega)
end Go.Proofs.YtnnoeefjnpcfnaaGreatDoor
/- A client's step: entries of a create. -/
set_option maxRecDepth 100000
set_option maxHeartbeats 0
namespace Go.Proofs.YtnnoeefjnpcfnaaGreatDoor
open Go.Sx
theorem c3a(c:Cfg)(k:Ck)(A:Ar)(hc:c.Ok)(hA:ArI A)(q i fa ti ke w:Int)(hd:Bool)(lg tl:Bool)(pl sn tp te:Int)(at_:Int)(hat:(startC c ke+i).tmod c.topics=at_)(hr:0≤at_∧at_<c.topics)(hs:0≤startC c ke∧startC c ke<c.topics)(he:0≤entAt c at_∧entAt c at_<A.n)(hw:A.ws.getD (entAt c at_).toNat 0=w)(hU:U64 w)(hi:0≤i∧i<c.topics)(hk:(keyW w).is=true)(hk2:(keyW w).key=ke):
  Ct Tryz.prog 14 (stS A (clCr c k ⟨⟨3,q,i,fa,true,ti,0,ke⟩,lg,pl,sn,tp,te,tl⟩ 11) (A.load (entAt c at_)) (clCr c k ⟨⟨9,q,i+1,fa,true,A.steps+1,14,ke⟩,lg,pl,sn,tp,te,tl⟩ 11) .no):=by
 subst hw
 subst hat
 have hc':=hc
 simp only [Cfg.Ok] at hc'
 refine cX 75 xqI Tryz.func14 fun g F => ?_
 refine xCy [] [] (Tg.n) ⟨[(0,[.i 1,.n,.n,.n,.n,.n,.c]),(1,[]),(2,[.n,.n,.n,.n,.n,.n,.n,.n,.n,.i 3,.n,.n,.n,.n,.i 5,.n,.i 6,.l [Tg.i 11],.l [Tg.l [],Tg.l [Tg.i 13,Tg.i 14]],.n,.n,.i 7,.i 8,.n,.n,.n,.c,.c,.n,.n,.c,.i 9,.n,.i 10]),(3,[.i 4]),(4,[.c,.c,.c,.c,.c,.c]),(5,[]),(6,[]),(9,[]),(10,[]),(11,[.i 12,.n,.n,.n,.n,.n,.n]),(12,[.n,.n,.n,.n,.n,.n,.n,.n,.n,.n,.l [Tg.l [Tg.i 11],Tg.l []],.l [Tg.l [Tg.i 11],Tg.l []],.n,.n,.n,.n,.n,.c]),(13,[.i 11]),(14,[.i 2]),(7,[]),(8,[])],80⟩ Tryz.call42 (fun F' h=>(t_Start (c) hc (ke)).fr) fun xn1 n1 hxn1 => ?_
 subst hxn1
 refine xO (InK IntKind.i64 (startC c ke+i)) (by simp only [InK]; omega) ?_
 refine xO (c.topics≠0) (by omega) ?_
 refine xCy [] [] (Tg.n) ⟨[(0,[.i 1,.n,.n,.n,.n,.n,.c]),(1,[]),(2,[.n,.n,.n,.n,.n,.n,.n,.n,.n,.i 3,.n,.n,.n,.n,.i 5,.n,.i 6,.l [Tg.i 11],.l [Tg.l [],Tg.l [Tg.i 13,Tg.i 14]],.n,.n,.i 7,.i 8,.n,.n,.n,.c,.c,.n,.n,.c,.i 9,.n,.i 10]),(3,[.i 4]),(4,[.c,.c,.c,.c,.c,.c]),(5,[]),(6,[]),(9,[]),(10,[]),(11,[.i 12,.n,.n,.n,.n,.n,.n]),(12,[.n,.n,.n,.n,.n,.n,.n,.n,.n,.n,.l [Tg.l [Tg.i 11],Tg.l []],.l [Tg.l [Tg.i 11],Tg.l []],.n,.n,.n,.n,.n,.c]),(13,[.i 11]),(14,[.i 2]),(7,[]),(8,[])],122⟩ Tryz.call141 (fun F' h=>(t_Entry (c) hc ((startC c ke+i).tmod c.topics)).fr) fun xn3 n3 hxn3 => ?_
 subst hxn3
 refine xCy [⟨(g 0).b,none,0⟩,⟨0,(g 1).a,(g 1).c⟩] [0,1] (Tg.n) ⟨[(2,[.n,.n,.n,.n,.n,.n,.n,.n,.n,.i 3,.n,.n,.n,.n,.i 5,.n,.i 6,.l [Tg.i 11],.l [Tg.l [],Tg.l [Tg.i 13,Tg.i 14]],.n,.n,.i 7,.i 8,.n,.n,.n,.c,.c,.n,.n,.c,.i 9,.n,.i 10]),(3,[.i 4]),(4,[.c,.c,.c,.c,.c,.c]),(5,[]),(6,[]),(9,[]),(10,[]),(11,[.i 12,.n,.n,.n,.n,.n,.n]),(12,[.n,.n,.n,.n,.n,.n,.n,.n,.n,.n,.l [Tg.l [Tg.i 11],Tg.l []],.l [Tg.l [Tg.i 11],Tg.l []],.n,.n,.n,.n,.n,.c]),(13,[.i 11]),(14,[.i 2]),(7,[]),(8,[]),(0,[.i 1,.n,.n,.n,.n,.n,.c]),(1,[])],163⟩ Tryz.call137 (fun F' h=>(t_Load (A) (entAt c ((startC c ke+i).tmod c.topics)) hA he).fr) fun _ n6 _ => ?_
 refine xCy [] [] ((Tg.l [Tg.n,Tg.n,Tg.n])) ⟨[(2,[.n,.n,.n,.n,.n,.n,.n,.n,.n,.i 3,.n,.n,.n,.n,.i 5,.n,.i 6,.l [Tg.i 11],.l [Tg.l [],Tg.l [Tg.i 13,Tg.i 14]],.n,.n,.i 7,.i 8,.n,.n,.n,.c,.c,.n,.n,.c,.i 9,.n,.i 10]),(3,[.i 4]),(4,[.c,.c,.c,.c,.c,.c]),(5,[]),(6,[]),(9,[]),(10,[]),(11,[.i 12,.n,.n,.n,.n,.n,.n]),(12,[.n,.n,.n,.n,.n,.n,.n,.n,.n,.n,.l [Tg.l [Tg.i 11],Tg.l []],.l [Tg.l [Tg.i 11],Tg.l []],.n,.n,.n,.n,.n,.c]),(13,[.i 11]),(14,[.i 2]),(7,[]),(8,[]),(0,[.i 1,.n,.n,.n,.n,.n,.c]),(1,[])],204⟩ Tryz.call140 (fun F' h=>(t_Key (A.ws.getD (entAt c ((startC c ke+i).tmod c.topics)).toNat 0) hU).fr) fun xn10 n10 hxn10 => ?_
 subst hxn10
 refine xO (InK IntKind.i64 (i+1)) (by simp only [InK]; omega) ?_
 refine xT ((keyW (A.ws.getD (entAt c ((startC c ke+i).tmod c.topics)).toNat 0)).is) hk ?_
 refine xB (A.ws.getD (entAt c ((startC c ke+i).tmod c.topics)).toNat 0==0) (fun h11 => ?_) (fun h11 => ?_)
 ·skip
  replace h11:=decT h11
  refine xF (!(keyW (A.ws.getD (entAt c ((startC c ke+i).tmod c.topics)).toNat 0)).is) (by rw [hk]; rfl) ?_
  refine xT ((keyW (A.ws.getD (entAt c ((startC c ke+i).tmod c.topics)).toNat 0)).key==ke) (beq_iff_eq.2 (by omega)) ?_
  refine xCy [⟨(g 0).b,none,0⟩,⟨0,(g 1).a,(g 1).c⟩] [13,14] (Tg.n) ⟨[(2,[.n,.n,.n,.n,.n,.n,.n,.n,.n,.i 3,.n,.n,.n,.n,.i 5,.n,.i 6,.l [Tg.i 11],.l [Tg.l [],Tg.l [Tg.i 13,Tg.i 14]],.n,.n,.i 7,.i 8,.n,.n,.n,.c,.c,.n,.n,.c,.i 9,.n,.i 10]),(3,[.i 4]),(4,[.c,.c,.c,.c,.c,.c]),(5,[]),(6,[]),(9,[]),(10,[]),(11,[.i 12,.n,.n,.n,.n,.n,.n]),(12,[.n,.n,.n,.n,.n,.n,.n,.n,.n,.n,.l [Tg.l [Tg.i 11],Tg.l []],.l [Tg.l [Tg.i 11],Tg.l []],.n,.q 208 false,.n,.n,.n,.c]),(13,[.i 11]),(14,[.i 2]),(7,[]),(8,[]),(0,[.i 1,.n,.n,.n,.n,.n,.c]),(1,[])],251⟩ Tryz.call16 (fun F' h=>(t_Steps (A.n) ((A.load (entAt c ((startC c ke+i).tmod c.topics))).steps) ((A.load (entAt c ((startC c ke+i).tmod c.topics))).lk) ((A.load (entAt c ((startC c ke+i).tmod c.topics))).lw) ((A.load (entAt c ((startC c ke+i).tmod c.topics))).lv) (false) ((A.load (entAt c ((startC c ke+i).tmod c.topics))).ws)).fr) fun _ n16 _ => ?_
  refine xTn (xT:=95) (v:=Value.pointer (some {block:=(g 11).b,off:=0})) taN_153_103 ?_
  exact xR () trivial
 ·skip
  replace h11:=decF h11
  refine xF (!(keyW (A.ws.getD (entAt c ((startC c ke+i).tmod c.topics)).toNat 0)).is) (by rw [hk]; rfl) ?_
  refine xT ((keyW (A.ws.getD (entAt c ((startC c ke+i).tmod c.topics)).toNat 0)).key==ke) (beq_iff_eq.2 (by omega)) ?_
  refine xCy [⟨(g 0).b,none,0⟩,⟨0,(g 1).a,(g 1).c⟩] [13,14] (Tg.n) ⟨[(2,[.n,.n,.n,.n,.n,.n,.n,.n,.n,.i 3,.n,.n,.n,.n,.i 5,.n,.i 6,.l [Tg.i 11],.l [Tg.l [],Tg.l [Tg.i 13,Tg.i 14]],.n,.n,.i 7,.i 8,.n,.n,.n,.c,.c,.n,.n,.c,.i 9,.n,.i 10]),(3,[.i 4]),(4,[.c,.c,.c,.c,.c,.c]),(5,[]),(6,[]),(9,[]),(10,[]),(11,[.i 12,.n,.n,.n,.n,.n,.n]),(12,[.n,.n,.n,.n,.n,.n,.n,.n,.n,.n,.l [Tg.l [Tg.i 11],Tg.l []],.l [Tg.l [Tg.i 11],Tg.l []],.n,.q 208 false,.n,.n,.n,.c]),(13,[.i 11]),(14,[.i 2]),(7,[]),(8,[]),(0,[.i 1,.n,.n,.n,.n,.n,.c]),(1,[])],252⟩ Tryz.call16 (fun F' h=>(t_Steps (A.n) ((A.load (entAt c ((startC c ke+i).tmod c.topics))).steps) ((A.load (entAt c ((startC c ke+i).tmod c.topics))).lk) ((A.load (entAt c ((startC c ke+i).tmod c.topics))).lw) ((A.load (entAt c ((startC c ke+i).tmod c.topics))).lv) (false) ((A.load (entAt c ((startC c ke+i).tmod c.topics))).ws)).fr) fun _ n21 _ => ?_
  refine xTn (xT:=95) (v:=Value.pointer (some {block:=(g 11).b,off:=0})) taN_153_103 ?_
  exact xR () trivial
end Go.Proofs.YtnnoeefjnpcfnaaGreatDoor
/- A client's step: entries of a create. -/
set_option maxRecDepth 100000
set_option maxHeartbeats 0
namespace Go.Proofs.YtnnoeefjnpcfnaaGreatDoor
open Go.Sx
theorem c3d(c:Cfg)(k:Ck)(A:Ar)(hc:c.Ok)(hA:ArI A)(q i fa ti ke w:Int)(hd:Bool)(lg tl:Bool)(pl sn tp te:Int)(at_:Int)(hat:(startC c ke+i).tmod c.topics=at_)(hr:0≤at_∧at_<c.topics)(hs:0≤startC c ke∧startC c ke<c.topics)(he:0≤entAt c at_∧entAt c at_<A.n)(hw:A.ws.getD (entAt c at_).toNat 0=w)(hU:U64 w)(hi:0≤i∧i<c.topics)(hk:(keyW w).is=false)(hp:pl≠-1)(hz:w=0∨i+1=c.topics):
  Ct Tryz.prog 14 (stS A (clCr c k ⟨⟨3,q,i,fa,true,ti,0,ke⟩,lg,pl,sn,tp,te,tl⟩ 11) (A.load (entAt c at_)) (clCr c k ⟨⟨4,q,i+1,fa,true,ti,0,ke⟩,lg,pl,sn,tp,te,tl⟩ 11) .no):=by
 subst hw
 subst hat
 have hc':=hc
 simp only [Cfg.Ok] at hc'
 refine cX 75 xqI Tryz.func14 fun g F => ?_
 refine xCy [] [] (Tg.n) ⟨[(0,[.i 1,.n,.n,.n,.n,.n,.c]),(1,[]),(2,[.n,.n,.n,.n,.n,.n,.n,.n,.n,.i 3,.n,.n,.n,.n,.i 5,.n,.i 6,.l [Tg.i 11],.l [Tg.l [],Tg.l [Tg.i 13,Tg.i 14]],.n,.n,.i 7,.i 8,.n,.n,.n,.c,.c,.n,.n,.c,.i 9,.n,.i 10]),(3,[.i 4]),(4,[.c,.c,.c,.c,.c,.c]),(5,[]),(6,[]),(9,[]),(10,[]),(11,[.i 12,.n,.n,.n,.n,.n,.n]),(12,[.n,.n,.n,.n,.n,.n,.n,.n,.n,.n,.l [Tg.l [Tg.i 11],Tg.l []],.l [Tg.l [Tg.i 11],Tg.l []],.n,.n,.n,.n,.n,.c]),(13,[.i 11]),(14,[.i 2]),(7,[]),(8,[])],80⟩ Tryz.call42 (fun F' h=>(t_Start (c) hc (ke)).fr) fun xn1 n1 hxn1 => ?_
 subst hxn1
 refine xO (InK IntKind.i64 (startC c ke+i)) (by simp only [InK]; omega) ?_
 refine xO (c.topics≠0) (by omega) ?_
 refine xCy [] [] (Tg.n) ⟨[(0,[.i 1,.n,.n,.n,.n,.n,.c]),(1,[]),(2,[.n,.n,.n,.n,.n,.n,.n,.n,.n,.i 3,.n,.n,.n,.n,.i 5,.n,.i 6,.l [Tg.i 11],.l [Tg.l [],Tg.l [Tg.i 13,Tg.i 14]],.n,.n,.i 7,.i 8,.n,.n,.n,.c,.c,.n,.n,.c,.i 9,.n,.i 10]),(3,[.i 4]),(4,[.c,.c,.c,.c,.c,.c]),(5,[]),(6,[]),(9,[]),(10,[]),(11,[.i 12,.n,.n,.n,.n,.n,.n]),(12,[.n,.n,.n,.n,.n,.n,.n,.n,.n,.n,.l [Tg.l [Tg.i 11],Tg.l []],.l [Tg.l [Tg.i 11],Tg.l []],.n,.n,.n,.n,.n,.c]),(13,[.i 11]),(14,[.i 2]),(7,[]),(8,[])],122⟩ Tryz.call141 (fun F' h=>(t_Entry (c) hc ((startC c ke+i).tmod c.topics)).fr) fun xn3 n3 hxn3 => ?_
 subst hxn3
 refine xCy [⟨(g 0).b,none,0⟩,⟨0,(g 1).a,(g 1).c⟩] [0,1] (Tg.n) ⟨[(2,[.n,.n,.n,.n,.n,.n,.n,.n,.n,.i 3,.n,.n,.n,.n,.i 5,.n,.i 6,.l [Tg.i 11],.l [Tg.l [],Tg.l [Tg.i 13,Tg.i 14]],.n,.n,.i 7,.i 8,.n,.n,.n,.c,.c,.n,.n,.c,.i 9,.n,.i 10]),(3,[.i 4]),(4,[.c,.c,.c,.c,.c,.c]),(5,[]),(6,[]),(9,[]),(10,[]),(11,[.i 12,.n,.n,.n,.n,.n,.n]),(12,[.n,.n,.n,.n,.n,.n,.n,.n,.n,.n,.l [Tg.l [Tg.i 11],Tg.l []],.l [Tg.l [Tg.i 11],Tg.l []],.n,.n,.n,.n,.n,.c]),(13,[.i 11]),(14,[.i 2]),(7,[]),(8,[]),(0,[.i 1,.n,.n,.n,.n,.n,.c]),(1,[])],163⟩ Tryz.call137 (fun F' h=>(t_Load (A) (entAt c ((startC c ke+i).tmod c.topics)) hA he).fr) fun _ n6 _ => ?_
 refine xCy [] [] ((Tg.l [Tg.n,Tg.n,Tg.n])) ⟨[(2,[.n,.n,.n,.n,.n,.n,.n,.n,.n,.i 3,.n,.n,.n,.n,.i 5,.n,.i 6,.l [Tg.i 11],.l [Tg.l [],Tg.l [Tg.i 13,Tg.i 14]],.n,.n,.i 7,.i 8,.n,.n,.n,.c,.c,.n,.n,.c,.i 9,.n,.i 10]),(3,[.i 4]),(4,[.c,.c,.c,.c,.c,.c]),(5,[]),(6,[]),(9,[]),(10,[]),(11,[.i 12,.n,.n,.n,.n,.n,.n]),(12,[.n,.n,.n,.n,.n,.n,.n,.n,.n,.n,.l [Tg.l [Tg.i 11],Tg.l []],.l [Tg.l [Tg.i 11],Tg.l []],.n,.n,.n,.n,.n,.c]),(13,[.i 11]),(14,[.i 2]),(7,[]),(8,[]),(0,[.i 1,.n,.n,.n,.n,.n,.c]),(1,[])],204⟩ Tryz.call140 (fun F' h=>(t_Key (A.ws.getD (entAt c ((startC c ke+i).tmod c.topics)).toNat 0) hU).fr) fun xn10 n10 hxn10 => ?_
 subst hxn10
 refine xO (InK IntKind.i64 (i+1)) (by simp only [InK]; omega) ?_
 refine xF ((keyW (A.ws.getD (entAt c ((startC c ke+i).tmod c.topics)).toNat 0)).is) hk ?_
 refine xB (A.ws.getD (entAt c ((startC c ke+i).tmod c.topics)).toNat 0==0) (fun h11 => ?_) (fun h11 => ?_)
 ·skip
  replace h11:=decT h11
  refine xT (!(keyW (A.ws.getD (entAt c ((startC c ke+i).tmod c.topics)).toNat 0)).is) (by rw [hk]; rfl) ?_
  refine xF (pl == -1) (by first | (simp; done) | (simp; omega)) ?_
  refine xF (pl == -1) (by first | (simp; done) | (simp; omega)) ?_
  refine xTn (xT:=95) (v:=Value.pointer (some {block:=(g 11).b,off:=0})) taN_153_103 ?_
  exact xR () trivial
 ·skip
  replace h11:=decF h11
  refine xT (!(keyW (A.ws.getD (entAt c ((startC c ke+i).tmod c.topics)).toNat 0)).is) (by rw [hk]; rfl) ?_
  refine xF (pl == -1) (by first | (simp; done) | (simp; omega)) ?_
  refine xT (i+1==c.topics) (by first | (simp; done) | (simp; omega)) ?_
  refine xF (pl == -1) (by first | (simp; done) | (simp; omega)) ?_
  refine xTn (xT:=95) (v:=Value.pointer (some {block:=(g 11).b,off:=0})) taN_153_103 ?_
  exact xR () trivial
theorem c3e(c:Cfg)(k:Ck)(A:Ar)(hc:c.Ok)(hA:ArI A)(q i fa ti ke w:Int)(hd:Bool)(lg tl:Bool)(pl sn tp te:Int)(at_:Int)(hat:(startC c ke+i).tmod c.topics=at_)(hr:0≤at_∧at_<c.topics)(hs:0≤startC c ke∧startC c ke<c.topics)(he:0≤entAt c at_∧entAt c at_<A.n)(hw:A.ws.getD (entAt c at_).toNat 0=w)(hU:U64 w)(hi:0≤i∧i<c.topics)(hk:(keyW w).is=false)(hp:pl≠-1)(hz:w≠0∧i+1≠c.topics):
  Ct Tryz.prog 14 (stS A (clCr c k ⟨⟨3,q,i,fa,true,ti,0,ke⟩,lg,pl,sn,tp,te,tl⟩ 11) (A.load (entAt c at_)) (clCr c k ⟨⟨3,q,i+1,fa,true,ti,0,ke⟩,lg,pl,sn,tp,te,tl⟩ 11) .no):=by
 subst hw
 subst hat
 have hc':=hc
 simp only [Cfg.Ok] at hc'
 refine cX 75 xqI Tryz.func14 fun g F => ?_
 refine xCy [] [] (Tg.n) ⟨[(0,[.i 1,.n,.n,.n,.n,.n,.c]),(1,[]),(2,[.n,.n,.n,.n,.n,.n,.n,.n,.n,.i 3,.n,.n,.n,.n,.i 5,.n,.i 6,.l [Tg.i 11],.l [Tg.l [],Tg.l [Tg.i 13,Tg.i 14]],.n,.n,.i 7,.i 8,.n,.n,.n,.c,.c,.n,.n,.c,.i 9,.n,.i 10]),(3,[.i 4]),(4,[.c,.c,.c,.c,.c,.c]),(5,[]),(6,[]),(9,[]),(10,[]),(11,[.i 12,.n,.n,.n,.n,.n,.n]),(12,[.n,.n,.n,.n,.n,.n,.n,.n,.n,.n,.l [Tg.l [Tg.i 11],Tg.l []],.l [Tg.l [Tg.i 11],Tg.l []],.n,.n,.n,.n,.n,.c]),(13,[.i 11]),(14,[.i 2]),(7,[]),(8,[])],80⟩ Tryz.call42 (fun F' h=>(t_Start (c) hc (ke)).fr) fun xn1 n1 hxn1 => ?_
 subst hxn1
 refine xO (InK IntKind.i64 (startC c ke+i)) (by simp only [InK]; omega) ?_
 refine xO (c.topics≠0) (by omega) ?_
 refine xCy [] [] (Tg.n) ⟨[(0,[.i 1,.n,.n,.n,.n,.n,.c]),(1,[]),(2,[.n,.n,.n,.n,.n,.n,.n,.n,.n,.i 3,.n,.n,.n,.n,.i 5,.n,.i 6,.l [Tg.i 11],.l [Tg.l [],Tg.l [Tg.i 13,Tg.i 14]],.n,.n,.i 7,.i 8,.n,.n,.n,.c,.c,.n,.n,.c,.i 9,.n,.i 10]),(3,[.i 4]),(4,[.c,.c,.c,.c,.c,.c]),(5,[]),(6,[]),(9,[]),(10,[]),(11,[.i 12,.n,.n,.n,.n,.n,.n]),(12,[.n,.n,.n,.n,.n,.n,.n,.n,.n,.n,.l [Tg.l [Tg.i 11],Tg.l []],.l [Tg.l [Tg.i 11],Tg.l []],.n,.n,.n,.n,.n,.c]),(13,[.i 11]),(14,[.i 2]),(7,[]),(8,[])],122⟩ Tryz.call141 (fun F' h=>(t_Entry (c) hc ((startC c ke+i).tmod c.topics)).fr) fun xn3 n3 hxn3 => ?_
 subst hxn3
 refine xCy [⟨(g 0).b,none,0⟩,⟨0,(g 1).a,(g 1).c⟩] [0,1] (Tg.n) ⟨[(2,[.n,.n,.n,.n,.n,.n,.n,.n,.n,.i 3,.n,.n,.n,.n,.i 5,.n,.i 6,.l [Tg.i 11],.l [Tg.l [],Tg.l [Tg.i 13,Tg.i 14]],.n,.n,.i 7,.i 8,.n,.n,.n,.c,.c,.n,.n,.c,.i 9,.n,.i 10]),(3,[.i 4]),(4,[.c,.c,.c,.c,.c,.c]),(5,[]),(6,[]),(9,[]),(10,[]),(11,[.i 12,.n,.n,.n,.n,.n,.n]),(12,[.n,.n,.n,.n,.n,.n,.n,.n,.n,.n,.l [Tg.l [Tg.i 11],Tg.l []],.l [Tg.l [Tg.i 11],Tg.l []],.n,.n,.n,.n,.n,.c]),(13,[.i 11]),(14,[.i 2]),(7,[]),(8,[]),(0,[.i 1,.n,.n,.n,.n,.n,.c]),(1,[])],163⟩ Tryz.call137 (fun F' h=>(t_Load (A) (entAt c ((startC c ke+i).tmod c.topics)) hA he).fr) fun _ n6 _ => ?_
 refine xCy [] [] ((Tg.l [Tg.n,Tg.n,Tg.n])) ⟨[(2,[.n,.n,.n,.n,.n,.n,.n,.n,.n,.i 3,.n,.n,.n,.n,.i 5,.n,.i 6,.l [Tg.i 11],.l [Tg.l [],Tg.l [Tg.i 13,Tg.i 14]],.n,.n,.i 7,.i 8,.n,.n,.n,.c,.c,.n,.n,.c,.i 9,.n,.i 10]),(3,[.i 4]),(4,[.c,.c,.c,.c,.c,.c]),(5,[]),(6,[]),(9,[]),(10,[]),(11,[.i 12,.n,.n,.n,.n,.n,.n]),(12,[.n,.n,.n,.n,.n,.n,.n,.n,.n,.n,.l [Tg.l [Tg.i 11],Tg.l []],.l [Tg.l [Tg.i 11],Tg.l []],.n,.n,.n,.n,.n,.c]),(13,[.i 11]),(14,[.i 2]),(7,[]),(8,[]),(0,[.i 1,.n,.n,.n,.n,.n,.c]),(1,[])],204⟩ Tryz.call140 (fun F' h=>(t_Key (A.ws.getD (entAt c ((startC c ke+i).tmod c.topics)).toNat 0) hU).fr) fun xn10 n10 hxn10 => ?_
 subst hxn10
 refine xO (InK IntKind.i64 (i+1)) (by simp only [InK]; omega) ?_
 refine xF ((keyW (A.ws.getD (entAt c ((startC c ke+i).tmod c.topics)).toNat 0)).is) hk ?_
 refine xF (A.ws.getD (entAt c ((startC c ke+i).tmod c.topics)).toNat 0==0) (beq_eq_false_iff_ne.2 (by omega)) ?_
 refine xT (!(keyW (A.ws.getD (entAt c ((startC c ke+i).tmod c.topics)).toNat 0)).is) (by rw [hk]; rfl) ?_
 refine xF (pl == -1) (by first | (simp; done) | (simp; omega)) ?_
 refine xF (i+1==c.topics) (by first | (simp; done) | (simp; omega)) ?_
 refine xTn (xT:=95) (v:=Value.pointer (some {block:=(g 11).b,off:=0})) taN_153_103 ?_
 exact xR () trivial
theorem c3f(c:Cfg)(k:Ck)(A:Ar)(hc:c.Ok)(hA:ArI A)(q i fa ti ke w:Int)(hd:Bool)(lg tl:Bool)(pl sn tp te:Int)(at_:Int)(hat:(startC c ke+i).tmod c.topics=at_)(hr:0≤at_∧at_<c.topics)(hs:0≤startC c ke∧startC c ke<c.topics)(he:0≤entAt c at_∧entAt c at_<A.n)(hw:A.ws.getD (entAt c at_).toNat 0=w)(hU:U64 w)(hi:0≤i∧i<c.topics)(hk:(keyW w).is=true)(hk2:(keyW w).key≠ke)(hp:pl = -1)(hz:w=0∨i+1=c.topics):
  Ct Tryz.prog 14 (stS A (clCr c k ⟨⟨3,q,i,fa,true,ti,0,ke⟩,lg,pl,sn,tp,te,tl⟩ 11) (A.load (entAt c at_)) (clCr c k ⟨⟨9,q,i+1,fa,true,A.steps+1,15,ke⟩,lg,pl,sn,tp,te,tl⟩ 11) .no):=by
 subst hw
 subst hat
 have hc':=hc
 simp only [Cfg.Ok] at hc'
 refine cX 75 xqI Tryz.func14 fun g F => ?_
 refine xCy [] [] (Tg.n) ⟨[(0,[.i 1,.n,.n,.n,.n,.n,.c]),(1,[]),(2,[.n,.n,.n,.n,.n,.n,.n,.n,.n,.i 3,.n,.n,.n,.n,.i 5,.n,.i 6,.l [Tg.i 11],.l [Tg.l [],Tg.l [Tg.i 13,Tg.i 14]],.n,.n,.i 7,.i 8,.n,.n,.n,.c,.c,.n,.n,.c,.i 9,.n,.i 10]),(3,[.i 4]),(4,[.c,.c,.c,.c,.c,.c]),(5,[]),(6,[]),(9,[]),(10,[]),(11,[.i 12,.n,.n,.n,.n,.n,.n]),(12,[.n,.n,.n,.n,.n,.n,.n,.n,.n,.n,.l [Tg.l [Tg.i 11],Tg.l []],.l [Tg.l [Tg.i 11],Tg.l []],.n,.n,.n,.n,.n,.c]),(13,[.i 11]),(14,[.i 2]),(7,[]),(8,[])],80⟩ Tryz.call42 (fun F' h=>(t_Start (c) hc (ke)).fr) fun xn1 n1 hxn1 => ?_
 subst hxn1
 refine xO (InK IntKind.i64 (startC c ke+i)) (by simp only [InK]; omega) ?_
 refine xO (c.topics≠0) (by omega) ?_
 refine xCy [] [] (Tg.n) ⟨[(0,[.i 1,.n,.n,.n,.n,.n,.c]),(1,[]),(2,[.n,.n,.n,.n,.n,.n,.n,.n,.n,.i 3,.n,.n,.n,.n,.i 5,.n,.i 6,.l [Tg.i 11],.l [Tg.l [],Tg.l [Tg.i 13,Tg.i 14]],.n,.n,.i 7,.i 8,.n,.n,.n,.c,.c,.n,.n,.c,.i 9,.n,.i 10]),(3,[.i 4]),(4,[.c,.c,.c,.c,.c,.c]),(5,[]),(6,[]),(9,[]),(10,[]),(11,[.i 12,.n,.n,.n,.n,.n,.n]),(12,[.n,.n,.n,.n,.n,.n,.n,.n,.n,.n,.l [Tg.l [Tg.i 11],Tg.l []],.l [Tg.l [Tg.i 11],Tg.l []],.n,.n,.n,.n,.n,.c]),(13,[.i 11]),(14,[.i 2]),(7,[]),(8,[])],122⟩ Tryz.call141 (fun F' h=>(t_Entry (c) hc ((startC c ke+i).tmod c.topics)).fr) fun xn3 n3 hxn3 => ?_
 subst hxn3
 refine xCy [⟨(g 0).b,none,0⟩,⟨0,(g 1).a,(g 1).c⟩] [0,1] (Tg.n) ⟨[(2,[.n,.n,.n,.n,.n,.n,.n,.n,.n,.i 3,.n,.n,.n,.n,.i 5,.n,.i 6,.l [Tg.i 11],.l [Tg.l [],Tg.l [Tg.i 13,Tg.i 14]],.n,.n,.i 7,.i 8,.n,.n,.n,.c,.c,.n,.n,.c,.i 9,.n,.i 10]),(3,[.i 4]),(4,[.c,.c,.c,.c,.c,.c]),(5,[]),(6,[]),(9,[]),(10,[]),(11,[.i 12,.n,.n,.n,.n,.n,.n]),(12,[.n,.n,.n,.n,.n,.n,.n,.n,.n,.n,.l [Tg.l [Tg.i 11],Tg.l []],.l [Tg.l [Tg.i 11],Tg.l []],.n,.n,.n,.n,.n,.c]),(13,[.i 11]),(14,[.i 2]),(7,[]),(8,[]),(0,[.i 1,.n,.n,.n,.n,.n,.c]),(1,[])],163⟩ Tryz.call137 (fun F' h=>(t_Load (A) (entAt c ((startC c ke+i).tmod c.topics)) hA he).fr) fun _ n6 _ => ?_
 refine xCy [] [] ((Tg.l [Tg.n,Tg.n,Tg.n])) ⟨[(2,[.n,.n,.n,.n,.n,.n,.n,.n,.n,.i 3,.n,.n,.n,.n,.i 5,.n,.i 6,.l [Tg.i 11],.l [Tg.l [],Tg.l [Tg.i 13,Tg.i 14]],.n,.n,.i 7,.i 8,.n,.n,.n,.c,.c,.n,.n,.c,.i 9,.n,.i 10]),(3,[.i 4]),(4,[.c,.c,.c,.c,.c,.c]),(5,[]),(6,[]),(9,[]),(10,[]),(11,[.i 12,.n,.n,.n,.n,.n,.n]),(12,[.n,.n,.n,.n,.n,.n,.n,.n,.n,.n,.l [Tg.l [Tg.i 11],Tg.l []],.l [Tg.l [Tg.i 11],Tg.l []],.n,.n,.n,.n,.n,.c]),(13,[.i 11]),(14,[.i 2]),(7,[]),(8,[]),(0,[.i 1,.n,.n,.n,.n,.n,.c]),(1,[])],204⟩ Tryz.call140 (fun F' h=>(t_Key (A.ws.getD (entAt c ((startC c ke+i).tmod c.topics)).toNat 0) hU).fr) fun xn10 n10 hxn10 => ?_
 subst hxn10
 refine xO (InK IntKind.i64 (i+1)) (by simp only [InK]; omega) ?_
 refine xT ((keyW (A.ws.getD (entAt c ((startC c ke+i).tmod c.topics)).toNat 0)).is) hk ?_
 refine xB (A.ws.getD (entAt c ((startC c ke+i).tmod c.topics)).toNat 0==0) (fun h11 => ?_) (fun h11 => ?_)
 ·skip
  replace h11:=decT h11
  refine xF (!(keyW (A.ws.getD (entAt c ((startC c ke+i).tmod c.topics)).toNat 0)).is) (by rw [hk]; rfl) ?_
  refine xF ((keyW (A.ws.getD (entAt c ((startC c ke+i).tmod c.topics)).toNat 0)).key==ke) (beq_eq_false_iff_ne.2 (by omega)) ?_
  refine xT (pl == -1) (by first | (simp; done) | (simp; omega)) ?_
  refine xCy [⟨(g 0).b,none,0⟩,⟨0,(g 1).a,(g 1).c⟩] [13,14] (Tg.n) ⟨[(2,[.n,.n,.n,.n,.n,.n,.n,.n,.n,.i 3,.n,.n,.n,.n,.i 5,.n,.i 6,.l [Tg.i 11],.l [Tg.l [],Tg.l [Tg.i 13,Tg.i 14]],.n,.n,.i 7,.i 8,.n,.n,.n,.c,.c,.n,.n,.c,.i 9,.n,.i 10]),(3,[.i 4]),(4,[.c,.c,.c,.c,.c,.c]),(5,[]),(6,[]),(9,[]),(10,[]),(11,[.i 12,.n,.n,.n,.n,.n,.n]),(12,[.n,.n,.n,.n,.n,.n,.n,.n,.n,.n,.l [Tg.l [Tg.i 11],Tg.l []],.l [Tg.l [Tg.i 11],Tg.l []],.n,.q 208 false,.n,.n,.n,.c]),(13,[.i 11]),(14,[.i 2]),(7,[]),(8,[]),(0,[.i 1,.n,.n,.n,.n,.n,.c]),(1,[])],253⟩ Tryz.call16 (fun F' h=>(t_Steps (A.n) ((A.load (entAt c ((startC c ke+i).tmod c.topics))).steps) ((A.load (entAt c ((startC c ke+i).tmod c.topics))).lk) ((A.load (entAt c ((startC c ke+i).tmod c.topics))).lw) ((A.load (entAt c ((startC c ke+i).tmod c.topics))).lv) (false) ((A.load (entAt c ((startC c ke+i).tmod c.topics))).ws)).fr) fun _ n16 _ => ?_
  refine xTn (xT:=95) (v:=Value.pointer (some {block:=(g 11).b,off:=0})) taN_153_103 ?_
  exact xR () trivial
 ·skip
  replace h11:=decF h11
  refine xF (!(keyW (A.ws.getD (entAt c ((startC c ke+i).tmod c.topics)).toNat 0)).is) (by rw [hk]; rfl) ?_
  refine xF ((keyW (A.ws.getD (entAt c ((startC c ke+i).tmod c.topics)).toNat 0)).key==ke) (beq_eq_false_iff_ne.2 (by omega)) ?_
  refine xT (i+1==c.topics) (by first | (simp; done) | (simp; omega)) ?_
  refine xT (pl == -1) (by first | (simp; done) | (simp; omega)) ?_
  refine xCy [⟨(g 0).b,none,0⟩,⟨0,(g 1).a,(g 1).c⟩] [13,14] (Tg.n) ⟨[(2,[.n,.n,.n,.n,.n,.n,.n,.n,.n,.i 3,.n,.n,.n,.n,.i 5,.n,.i 6,.l [Tg.i 11],.l [Tg.l [],Tg.l [Tg.i 13,Tg.i 14]],.n,.n,.i 7,.i 8,.n,.n,.n,.c,.c,.n,.n,.c,.i 9,.n,.i 10]),(3,[.i 4]),(4,[.c,.c,.c,.c,.c,.c]),(5,[]),(6,[]),(9,[]),(10,[]),(11,[.i 12,.n,.n,.n,.n,.n,.n]),(12,[.n,.n,.n,.n,.n,.n,.n,.n,.n,.n,.l [Tg.l [Tg.i 11],Tg.l []],.l [Tg.l [Tg.i 11],Tg.l []],.n,.q 208 false,.n,.n,.n,.c]),(13,[.i 11]),(14,[.i 2]),(7,[]),(8,[]),(0,[.i 1,.n,.n,.n,.n,.n,.c]),(1,[])],254⟩ Tryz.call16 (fun F' h=>(t_Steps (A.n) ((A.load (entAt c ((startC c ke+i).tmod c.topics))).steps) ((A.load (entAt c ((startC c ke+i).tmod c.topics))).lk) ((A.load (entAt c ((startC c ke+i).tmod c.topics))).lw) ((A.load (entAt c ((startC c ke+i).tmod c.topics))).lv) (false) ((A.load (entAt c ((startC c ke+i).tmod c.topics))).ws)).fr) fun _ n21 _ => ?_
  refine xTn (xT:=95) (v:=Value.pointer (some {block:=(g 11).b,off:=0})) taN_153_103 ?_
  exact xR () trivial
end Go.Proofs.YtnnoeefjnpcfnaaGreatDoor
/- A client's step: entries of a create. -/
set_option maxRecDepth 100000
set_option maxHeartbeats 0
namespace Go.Proofs.YtnnoeefjnpcfnaaGreatDoor
open Go.Sx
theorem c3g(c:Cfg)(k:Ck)(A:Ar)(hc:c.Ok)(hA:ArI A)(q i fa ti ke w:Int)(hd:Bool)(lg tl:Bool)(pl sn tp te:Int)(at_:Int)(hat:(startC c ke+i).tmod c.topics=at_)(hr:0≤at_∧at_<c.topics)(hs:0≤startC c ke∧startC c ke<c.topics)(he:0≤entAt c at_∧entAt c at_<A.n)(hw:A.ws.getD (entAt c at_).toNat 0=w)(hU:U64 w)(hi:0≤i∧i<c.topics)(hk:(keyW w).is=true)(hk2:(keyW w).key≠ke)(hp:pl = -1)(hz:w≠0∧i+1≠c.topics):
  Ct Tryz.prog 14 (stS A (clCr c k ⟨⟨3,q,i,fa,true,ti,0,ke⟩,lg,pl,sn,tp,te,tl⟩ 11) (A.load (entAt c at_)) (clCr c k ⟨⟨3,q,i+1,fa,true,ti,0,ke⟩,lg,pl,sn,tp,te,tl⟩ 11) .no):=by
 subst hw
 subst hat
 have hc':=hc
 simp only [Cfg.Ok] at hc'
 refine cX 75 xqI Tryz.func14 fun g F => ?_
 refine xCy [] [] (Tg.n) ⟨[(0,[.i 1,.n,.n,.n,.n,.n,.c]),(1,[]),(2,[.n,.n,.n,.n,.n,.n,.n,.n,.n,.i 3,.n,.n,.n,.n,.i 5,.n,.i 6,.l [Tg.i 11],.l [Tg.l [],Tg.l [Tg.i 13,Tg.i 14]],.n,.n,.i 7,.i 8,.n,.n,.n,.c,.c,.n,.n,.c,.i 9,.n,.i 10]),(3,[.i 4]),(4,[.c,.c,.c,.c,.c,.c]),(5,[]),(6,[]),(9,[]),(10,[]),(11,[.i 12,.n,.n,.n,.n,.n,.n]),(12,[.n,.n,.n,.n,.n,.n,.n,.n,.n,.n,.l [Tg.l [Tg.i 11],Tg.l []],.l [Tg.l [Tg.i 11],Tg.l []],.n,.n,.n,.n,.n,.c]),(13,[.i 11]),(14,[.i 2]),(7,[]),(8,[])],80⟩ Tryz.call42 (fun F' h=>(t_Start (c) hc (ke)).fr) fun xn1 n1 hxn1 => ?_
 subst hxn1
 refine xO (InK IntKind.i64 (startC c ke+i)) (by simp only [InK]; omega) ?_
 refine xO (c.topics≠0) (by omega) ?_
 refine xCy [] [] (Tg.n) ⟨[(0,[.i 1,.n,.n,.n,.n,.n,.c]),(1,[]),(2,[.n,.n,.n,.n,.n,.n,.n,.n,.n,.i 3,.n,.n,.n,.n,.i 5,.n,.i 6,.l [Tg.i 11],.l [Tg.l [],Tg.l [Tg.i 13,Tg.i 14]],.n,.n,.i 7,.i 8,.n,.n,.n,.c,.c,.n,.n,.c,.i 9,.n,.i 10]),(3,[.i 4]),(4,[.c,.c,.c,.c,.c,.c]),(5,[]),(6,[]),(9,[]),(10,[]),(11,[.i 12,.n,.n,.n,.n,.n,.n]),(12,[.n,.n,.n,.n,.n,.n,.n,.n,.n,.n,.l [Tg.l [Tg.i 11],Tg.l []],.l [Tg.l [Tg.i 11],Tg.l []],.n,.n,.n,.n,.n,.c]),(13,[.i 11]),(14,[.i 2]),(7,[]),(8,[])],122⟩ Tryz.call141 (fun F' h=>(t_Entry (c) hc ((startC c ke+i).tmod c.topics)).fr) fun xn3 n3 hxn3 => ?_
 subst hxn3
 refine xCy [⟨(g 0).b,none,0⟩,⟨0,(g 1).a,(g 1).c⟩] [0,1] (Tg.n) ⟨[(2,[.n,.n,.n,.n,.n,.n,.n,.n,.n,.i 3,.n,.n,.n,.n,.i 5,.n,.i 6,.l [Tg.i 11],.l [Tg.l [],Tg.l [Tg.i 13,Tg.i 14]],.n,.n,.i 7,.i 8,.n,.n,.n,.c,.c,.n,.n,.c,.i 9,.n,.i 10]),(3,[.i 4]),(4,[.c,.c,.c,.c,.c,.c]),(5,[]),(6,[]),(9,[]),(10,[]),(11,[.i 12,.n,.n,.n,.n,.n,.n]),(12,[.n,.n,.n,.n,.n,.n,.n,.n,.n,.n,.l [Tg.l [Tg.i 11],Tg.l []],.l [Tg.l [Tg.i 11],Tg.l []],.n,.n,.n,.n,.n,.c]),(13,[.i 11]),(14,[.i 2]),(7,[]),(8,[]),(0,[.i 1,.n,.n,.n,.n,.n,.c]),(1,[])],163⟩ Tryz.call137 (fun F' h=>(t_Load (A) (entAt c ((startC c ke+i).tmod c.topics)) hA he).fr) fun _ n6 _ => ?_
 refine xCy [] [] ((Tg.l [Tg.n,Tg.n,Tg.n])) ⟨[(2,[.n,.n,.n,.n,.n,.n,.n,.n,.n,.i 3,.n,.n,.n,.n,.i 5,.n,.i 6,.l [Tg.i 11],.l [Tg.l [],Tg.l [Tg.i 13,Tg.i 14]],.n,.n,.i 7,.i 8,.n,.n,.n,.c,.c,.n,.n,.c,.i 9,.n,.i 10]),(3,[.i 4]),(4,[.c,.c,.c,.c,.c,.c]),(5,[]),(6,[]),(9,[]),(10,[]),(11,[.i 12,.n,.n,.n,.n,.n,.n]),(12,[.n,.n,.n,.n,.n,.n,.n,.n,.n,.n,.l [Tg.l [Tg.i 11],Tg.l []],.l [Tg.l [Tg.i 11],Tg.l []],.n,.n,.n,.n,.n,.c]),(13,[.i 11]),(14,[.i 2]),(7,[]),(8,[]),(0,[.i 1,.n,.n,.n,.n,.n,.c]),(1,[])],204⟩ Tryz.call140 (fun F' h=>(t_Key (A.ws.getD (entAt c ((startC c ke+i).tmod c.topics)).toNat 0) hU).fr) fun xn10 n10 hxn10 => ?_
 subst hxn10
 refine xO (InK IntKind.i64 (i+1)) (by simp only [InK]; omega) ?_
 refine xT ((keyW (A.ws.getD (entAt c ((startC c ke+i).tmod c.topics)).toNat 0)).is) hk ?_
 refine xF (A.ws.getD (entAt c ((startC c ke+i).tmod c.topics)).toNat 0==0) (beq_eq_false_iff_ne.2 (by omega)) ?_
 refine xF (!(keyW (A.ws.getD (entAt c ((startC c ke+i).tmod c.topics)).toNat 0)).is) (by rw [hk]; rfl) ?_
 refine xF ((keyW (A.ws.getD (entAt c ((startC c ke+i).tmod c.topics)).toNat 0)).key==ke) (beq_eq_false_iff_ne.2 (by omega)) ?_
 refine xF (i+1==c.topics) (by first | (simp; done) | (simp; omega)) ?_
 refine xTn (xT:=95) (v:=Value.pointer (some {block:=(g 11).b,off:=0})) taN_153_103 ?_
 exact xR () trivial
theorem c3h(c:Cfg)(k:Ck)(A:Ar)(hc:c.Ok)(hA:ArI A)(q i fa ti ke w:Int)(hd:Bool)(lg tl:Bool)(pl sn tp te:Int)(at_:Int)(hat:(startC c ke+i).tmod c.topics=at_)(hr:0≤at_∧at_<c.topics)(hs:0≤startC c ke∧startC c ke<c.topics)(he:0≤entAt c at_∧entAt c at_<A.n)(hw:A.ws.getD (entAt c at_).toNat 0=w)(hU:U64 w)(hi:0≤i∧i<c.topics)(hk:(keyW w).is=true)(hk2:(keyW w).key≠ke)(hp:pl≠-1)(hz:w=0∨i+1=c.topics):
  Ct Tryz.prog 14 (stS A (clCr c k ⟨⟨3,q,i,fa,true,ti,0,ke⟩,lg,pl,sn,tp,te,tl⟩ 11) (A.load (entAt c at_)) (clCr c k ⟨⟨4,q,i+1,fa,true,ti,0,ke⟩,lg,pl,sn,tp,te,tl⟩ 11) .no):=by
 subst hw
 subst hat
 have hc':=hc
 simp only [Cfg.Ok] at hc'
 refine cX 75 xqI Tryz.func14 fun g F => ?_
 refine xCy [] [] (Tg.n) ⟨[(0,[.i 1,.n,.n,.n,.n,.n,.c]),(1,[]),(2,[.n,.n,.n,.n,.n,.n,.n,.n,.n,.i 3,.n,.n,.n,.n,.i 5,.n,.i 6,.l [Tg.i 11],.l [Tg.l [],Tg.l [Tg.i 13,Tg.i 14]],.n,.n,.i 7,.i 8,.n,.n,.n,.c,.c,.n,.n,.c,.i 9,.n,.i 10]),(3,[.i 4]),(4,[.c,.c,.c,.c,.c,.c]),(5,[]),(6,[]),(9,[]),(10,[]),(11,[.i 12,.n,.n,.n,.n,.n,.n]),(12,[.n,.n,.n,.n,.n,.n,.n,.n,.n,.n,.l [Tg.l [Tg.i 11],Tg.l []],.l [Tg.l [Tg.i 11],Tg.l []],.n,.n,.n,.n,.n,.c]),(13,[.i 11]),(14,[.i 2]),(7,[]),(8,[])],80⟩ Tryz.call42 (fun F' h=>(t_Start (c) hc (ke)).fr) fun xn1 n1 hxn1 => ?_
 subst hxn1
 refine xO (InK IntKind.i64 (startC c ke+i)) (by simp only [InK]; omega) ?_
 refine xO (c.topics≠0) (by omega) ?_
 refine xCy [] [] (Tg.n) ⟨[(0,[.i 1,.n,.n,.n,.n,.n,.c]),(1,[]),(2,[.n,.n,.n,.n,.n,.n,.n,.n,.n,.i 3,.n,.n,.n,.n,.i 5,.n,.i 6,.l [Tg.i 11],.l [Tg.l [],Tg.l [Tg.i 13,Tg.i 14]],.n,.n,.i 7,.i 8,.n,.n,.n,.c,.c,.n,.n,.c,.i 9,.n,.i 10]),(3,[.i 4]),(4,[.c,.c,.c,.c,.c,.c]),(5,[]),(6,[]),(9,[]),(10,[]),(11,[.i 12,.n,.n,.n,.n,.n,.n]),(12,[.n,.n,.n,.n,.n,.n,.n,.n,.n,.n,.l [Tg.l [Tg.i 11],Tg.l []],.l [Tg.l [Tg.i 11],Tg.l []],.n,.n,.n,.n,.n,.c]),(13,[.i 11]),(14,[.i 2]),(7,[]),(8,[])],122⟩ Tryz.call141 (fun F' h=>(t_Entry (c) hc ((startC c ke+i).tmod c.topics)).fr) fun xn3 n3 hxn3 => ?_
 subst hxn3
 refine xCy [⟨(g 0).b,none,0⟩,⟨0,(g 1).a,(g 1).c⟩] [0,1] (Tg.n) ⟨[(2,[.n,.n,.n,.n,.n,.n,.n,.n,.n,.i 3,.n,.n,.n,.n,.i 5,.n,.i 6,.l [Tg.i 11],.l [Tg.l [],Tg.l [Tg.i 13,Tg.i 14]],.n,.n,.i 7,.i 8,.n,.n,.n,.c,.c,.n,.n,.c,.i 9,.n,.i 10]),(3,[.i 4]),(4,[.c,.c,.c,.c,.c,.c]),(5,[]),(6,[]),(9,[]),(10,[]),(11,[.i 12,.n,.n,.n,.n,.n,.n]),(12,[.n,.n,.n,.n,.n,.n,.n,.n,.n,.n,.l [Tg.l [Tg.i 11],Tg.l []],.l [Tg.l [Tg.i 11],Tg.l []],.n,.n,.n,.n,.n,.c]),(13,[.i 11]),(14,[.i 2]),(7,[]),(8,[]),(0,[.i 1,.n,.n,.n,.n,.n,.c]),(1,[])],163⟩ Tryz.call137 (fun F' h=>(t_Load (A) (entAt c ((startC c ke+i).tmod c.topics)) hA he).fr) fun _ n6 _ => ?_
 refine xCy [] [] ((Tg.l [Tg.n,Tg.n,Tg.n])) ⟨[(2,[.n,.n,.n,.n,.n,.n,.n,.n,.n,.i 3,.n,.n,.n,.n,.i 5,.n,.i 6,.l [Tg.i 11],.l [Tg.l [],Tg.l [Tg.i 13,Tg.i 14]],.n,.n,.i 7,.i 8,.n,.n,.n,.c,.c,.n,.n,.c,.i 9,.n,.i 10]),(3,[.i 4]),(4,[.c,.c,.c,.c,.c,.c]),(5,[]),(6,[]),(9,[]),(10,[]),(11,[.i 12,.n,.n,.n,.n,.n,.n]),(12,[.n,.n,.n,.n,.n,.n,.n,.n,.n,.n,.l [Tg.l [Tg.i 11],Tg.l []],.l [Tg.l [Tg.i 11],Tg.l []],.n,.n,.n,.n,.n,.c]),(13,[.i 11]),(14,[.i 2]),(7,[]),(8,[]),(0,[.i 1,.n,.n,.n,.n,.n,.c]),(1,[])],204⟩ Tryz.call140 (fun F' h=>(t_Key (A.ws.getD (entAt c ((startC c ke+i).tmod c.topics)).toNat 0) hU).fr) fun xn10 n10 hxn10 => ?_
 subst hxn10
 refine xO (InK IntKind.i64 (i+1)) (by simp only [InK]; omega) ?_
 refine xT ((keyW (A.ws.getD (entAt c ((startC c ke+i).tmod c.topics)).toNat 0)).is) hk ?_
 refine xB (A.ws.getD (entAt c ((startC c ke+i).tmod c.topics)).toNat 0==0) (fun h11 => ?_) (fun h11 => ?_)
 ·skip
  replace h11:=decT h11
  refine xF (!(keyW (A.ws.getD (entAt c ((startC c ke+i).tmod c.topics)).toNat 0)).is) (by rw [hk]; rfl) ?_
  refine xF ((keyW (A.ws.getD (entAt c ((startC c ke+i).tmod c.topics)).toNat 0)).key==ke) (beq_eq_false_iff_ne.2 (by omega)) ?_
  refine xF (pl == -1) (by first | (simp; done) | (simp; omega)) ?_
  refine xTn (xT:=95) (v:=Value.pointer (some {block:=(g 11).b,off:=0})) taN_153_103 ?_
  exact xR () trivial
 ·skip
  replace h11:=decF h11
  refine xF (!(keyW (A.ws.getD (entAt c ((startC c ke+i).tmod c.topics)).toNat 0)).is) (by rw [hk]; rfl) ?_
  refine xF ((keyW (A.ws.getD (entAt c ((startC c ke+i).tmod c.topics)).toNat 0)).key==ke) (beq_eq_false_iff_ne.2 (by omega)) ?_
  refine xT (i+1==c.topics) (by first | (simp; done) | (simp; omega)) ?_
  refine xF (pl == -1) (by first | (simp; done) | (simp; omega)) ?_
  refine xTn (xT:=95) (v:=Value.pointer (some {block:=(g 11).b,off:=0})) taN_153_103 ?_
  exact xR () trivial
theorem c3i(c:Cfg)(k:Ck)(A:Ar)(hc:c.Ok)(hA:ArI A)(q i fa ti ke w:Int)(hd:Bool)(lg tl:Bool)(pl sn tp te:Int)(at_:Int)(hat:(startC c ke+i).tmod c.topics=at_)(hr:0≤at_∧at_<c.topics)(hs:0≤startC c ke∧startC c ke<c.topics)(he:0≤entAt c at_∧entAt c at_<A.n)(hw:A.ws.getD (entAt c at_).toNat 0=w)(hU:U64 w)(hi:0≤i∧i<c.topics)(hk:(keyW w).is=true)(hk2:(keyW w).key≠ke)(hp:pl≠-1)(hz:w≠0∧i+1≠c.topics):
  Ct Tryz.prog 14 (stS A (clCr c k ⟨⟨3,q,i,fa,true,ti,0,ke⟩,lg,pl,sn,tp,te,tl⟩ 11) (A.load (entAt c at_)) (clCr c k ⟨⟨3,q,i+1,fa,true,ti,0,ke⟩,lg,pl,sn,tp,te,tl⟩ 11) .no):=by
 subst hw
 subst hat
 have hc':=hc
 simp only [Cfg.Ok] at hc'
 refine cX 75 xqI Tryz.func14 fun g F => ?_
 refine xCy [] [] (Tg.n) ⟨[(0,[.i 1,.n,.n,.n,.n,.n,.c]),(1,[]),(2,[.n,.n,.n,.n,.n,.n,.n,.n,.n,.i 3,.n,.n,.n,.n,.i 5,.n,.i 6,.l [Tg.i 11],.l [Tg.l [],Tg.l [Tg.i 13,Tg.i 14]],.n,.n,.i 7,.i 8,.n,.n,.n,.c,.c,.n,.n,.c,.i 9,.n,.i 10]),(3,[.i 4]),(4,[.c,.c,.c,.c,.c,.c]),(5,[]),(6,[]),(9,[]),(10,[]),(11,[.i 12,.n,.n,.n,.n,.n,.n]),(12,[.n,.n,.n,.n,.n,.n,.n,.n,.n,.n,.l [Tg.l [Tg.i 11],Tg.l []],.l [Tg.l [Tg.i 11],Tg.l []],.n,.n,.n,.n,.n,.c]),(13,[.i 11]),(14,[.i 2]),(7,[]),(8,[])],80⟩ Tryz.call42 (fun F' h=>(t_Start (c) hc (ke)).fr) fun xn1 n1 hxn1 => ?_
 subst hxn1
 refine xO (InK IntKind.i64 (startC c ke+i)) (by simp only [InK]; omega) ?_
 refine xO (c.topics≠0) (by omega) ?_
 refine xCy [] [] (Tg.n) ⟨[(0,[.i 1,.n,.n,.n,.n,.n,.c]),(1,[]),(2,[.n,.n,.n,.n,.n,.n,.n,.n,.n,.i 3,.n,.n,.n,.n,.i 5,.n,.i 6,.l [Tg.i 11],.l [Tg.l [],Tg.l [Tg.i 13,Tg.i 14]],.n,.n,.i 7,.i 8,.n,.n,.n,.c,.c,.n,.n,.c,.i 9,.n,.i 10]),(3,[.i 4]),(4,[.c,.c,.c,.c,.c,.c]),(5,[]),(6,[]),(9,[]),(10,[]),(11,[.i 12,.n,.n,.n,.n,.n,.n]),(12,[.n,.n,.n,.n,.n,.n,.n,.n,.n,.n,.l [Tg.l [Tg.i 11],Tg.l []],.l [Tg.l [Tg.i 11],Tg.l []],.n,.n,.n,.n,.n,.c]),(13,[.i 11]),(14,[.i 2]),(7,[]),(8,[])],122⟩ Tryz.call141 (fun F' h=>(t_Entry (c) hc ((startC c ke+i).tmod c.topics)).fr) fun xn3 n3 hxn3 => ?_
 subst hxn3
 refine xCy [⟨(g 0).b,none,0⟩,⟨0,(g 1).a,(g 1).c⟩] [0,1] (Tg.n) ⟨[(2,[.n,.n,.n,.n,.n,.n,.n,.n,.n,.i 3,.n,.n,.n,.n,.i 5,.n,.i 6,.l [Tg.i 11],.l [Tg.l [],Tg.l [Tg.i 13,Tg.i 14]],.n,.n,.i 7,.i 8,.n,.n,.n,.c,.c,.n,.n,.c,.i 9,.n,.i 10]),(3,[.i 4]),(4,[.c,.c,.c,.c,.c,.c]),(5,[]),(6,[]),(9,[]),(10,[]),(11,[.i 12,.n,.n,.n,.n,.n,.n]),(12,[.n,.n,.n,.n,.n,.n,.n,.n,.n,.n,.l [Tg.l [Tg.i 11],Tg.l []],.l [Tg.l [Tg.i 11],Tg.l []],.n,.n,.n,.n,.n,.c]),(13,[.i 11]),(14,[.i 2]),(7,[]),(8,[]),(0,[.i 1,.n,.n,.n,.n,.n,.c]),(1,[])],163⟩ Tryz.call137 (fun F' h=>(t_Load (A) (entAt c ((startC c ke+i).tmod c.topics)) hA he).fr) fun _ n6 _ => ?_
 refine xCy [] [] ((Tg.l [Tg.n,Tg.n,Tg.n])) ⟨[(2,[.n,.n,.n,.n,.n,.n,.n,.n,.n,.i 3,.n,.n,.n,.n,.i 5,.n,.i 6,.l [Tg.i 11],.l [Tg.l [],Tg.l [Tg.i 13,Tg.i 14]],.n,.n,.i 7,.i 8,.n,.n,.n,.c,.c,.n,.n,.c,.i 9,.n,.i 10]),(3,[.i 4]),(4,[.c,.c,.c,.c,.c,.c]),(5,[]),(6,[]),(9,[]),(10,[]),(11,[.i 12,.n,.n,.n,.n,.n,.n]),(12,[.n,.n,.n,.n,.n,.n,.n,.n,.n,.n,.l [Tg.l [Tg.i 11],Tg.l []],.l [Tg.l [Tg.i 11],Tg.l []],.n,.n,.n,.n,.n,.c]),(13,[.i 11]),(14,[.i 2]),(7,[]),(8,[]),(0,[.i 1,.n,.n,.n,.n,.n,.c]),(1,[])],204⟩ Tryz.call140 (fun F' h=>(t_Key (A.ws.getD (entAt c ((startC c ke+i).tmod c.topics)).toNat 0) hU).fr) fun xn10 n10 hxn10 => ?_
 subst hxn10
 refine xO (InK IntKind.i64 (i+1)) (by simp only [InK]; omega) ?_
 refine xT ((keyW (A.ws.getD (entAt c ((startC c ke+i).tmod c.topics)).toNat 0)).is) hk ?_
 refine xF (A.ws.getD (entAt c ((startC c ke+i).tmod c.topics)).toNat 0==0) (beq_eq_false_iff_ne.2 (by omega)) ?_
 refine xF (!(keyW (A.ws.getD (entAt c ((startC c ke+i).tmod c.topics)).toNat 0)).is) (by rw [hk]; rfl) ?_
 refine xF ((keyW (A.ws.getD (entAt c ((startC c ke+i).tmod c.topics)).toNat 0)).key==ke) (beq_eq_false_iff_ne.2 (by omega)) ?_
 refine xF (i+1==c.topics) (by first | (simp; done) | (simp; omega)) ?_
 refine xTn (xT:=95) (v:=Value.pointer (some {block:=(g 11).b,off:=0})) taN_153_103 ?_
 exact xR () trivial
end Go.Proofs.YtnnoeefjnpcfnaaGreatDoor
/- A client's step: it is born. -/
set_option maxRecDepth 100000
set_option maxHeartbeats 0
namespace Go.Proofs.YtnnoeefjnpcfnaaGreatDoor
open Go.Sx
theorem c4(c:Cfg)(k:Ck)(A:Ar)(hc:c.Ok)(hA:ArI A)(q i fa ti ke w:Int)(hd:Bool)(lg tl:Bool)(pl sn tp te:Int)(at_:Int)(hp:0≤pl∧pl<c.topics)(he:0≤ctlAt c pl∧ctlAt c pl<A.n)(hw:A.ws.getD (ctlAt c pl).toNat 0=w):
  Ct Tryz.prog 14 (stS A (clCr c k ⟨⟨4,q,i,fa,true,ti,0,ke⟩,lg,pl,sn,tp,te,tl⟩ 11) (A.load (ctlAt c pl)) (clCr c k ⟨⟨5,q,i,fa,true,ti,0,ke⟩,lg,pl,w,tp,te,tl⟩ 11) .no):=by
 subst hw
 refine cX 75 xqI Tryz.func14 fun g F => ?_
 refine xCy [] [] (Tg.n) ⟨[(0,[.i 1,.n,.n,.n,.n,.n,.c]),(1,[]),(2,[.n,.n,.n,.n,.n,.n,.n,.n,.n,.i 3,.n,.n,.n,.n,.i 5,.n,.i 6,.l [Tg.i 11],.l [Tg.l [],Tg.l [Tg.i 13,Tg.i 14]],.n,.n,.i 7,.i 8,.n,.n,.n,.c,.c,.n,.n,.c,.i 9,.n,.i 10]),(3,[.i 4]),(4,[.c,.c,.c,.c,.c,.c]),(5,[]),(6,[]),(9,[]),(10,[]),(11,[.i 12,.n,.n,.n,.n,.n,.n]),(12,[.n,.n,.n,.n,.n,.n,.n,.n,.n,.n,.l [Tg.l [Tg.i 11],Tg.l []],.l [Tg.l [Tg.i 11],Tg.l []],.n,.n,.n,.n,.n,.c]),(13,[.i 11]),(14,[.i 2]),(7,[]),(8,[])],80⟩ Tryz.call194 (fun F' h=>(t_Control (c) hc (pl)).fr) fun xn1 n1 hxn1 => ?_
 subst hxn1
 refine xCy [⟨(g 0).b,none,0⟩,⟨0,(g 1).a,(g 1).c⟩] [0,1] (Tg.n) ⟨[(2,[.n,.n,.n,.n,.n,.n,.n,.n,.n,.i 3,.n,.n,.n,.n,.i 5,.n,.i 6,.l [Tg.i 11],.l [Tg.l [],Tg.l [Tg.i 13,Tg.i 14]],.n,.n,.i 7,.i 8,.n,.n,.n,.c,.c,.n,.n,.c,.i 9,.n,.i 10]),(3,[.i 4]),(4,[.c,.c,.c,.c,.c,.c]),(5,[]),(6,[]),(9,[]),(10,[]),(11,[.i 12,.n,.n,.n,.n,.n,.n]),(12,[.n,.n,.n,.n,.n,.n,.n,.n,.n,.n,.l [Tg.l [Tg.i 11],Tg.l []],.l [Tg.l [Tg.i 11],Tg.l []],.n,.n,.n,.n,.n,.c]),(13,[.i 11]),(14,[.i 2]),(7,[]),(8,[]),(0,[.i 1,.n,.n,.n,.n,.n,.c]),(1,[])],121⟩ Tryz.call137 (fun F' h=>(t_Load (A) (ctlAt c pl) hA he).fr) fun _ n3 _ => ?_
 refine xTn (xT:=95) (v:=Value.pointer (some {block:=(g 11).b,off:=0})) taN_153_103 ?_
 exact xR () trivial
theorem c5(c:Cfg)(k:Ck)(A:Ar)(hc:c.Ok)(hA:ArI A)(q i fa ti ke w:Int)(hd:Bool)(lg tl:Bool)(pl sn tp te:Int)(at_:Int)(hp:0≤pl∧pl<c.topics)(he:0≤ctlAt c pl∧ctlAt c pl<A.n)(hU:U64 sn):
  Ct Tryz.prog 14 (stS A (clCr c k ⟨⟨5,q,i,fa,true,ti,0,ke⟩,lg,pl,sn,tp,te,tl⟩ 11) (A.store (ctlAt c pl) (bornW sn)) (clCr c k ⟨⟨6,q,i,fa,true,A.steps+1,0,ke⟩,lg,pl,sn,pl,ctlEpoch sn,lg⟩ 11) .no):=by
 refine cX 75 xqI Tryz.func14 fun g F => ?_
 refine xCy [] [] (Tg.n) ⟨[(0,[.i 1,.n,.n,.n,.n,.n,.c]),(1,[]),(2,[.n,.n,.n,.n,.n,.n,.n,.n,.n,.i 3,.n,.n,.n,.n,.i 5,.n,.i 6,.l [Tg.i 11],.l [Tg.l [],Tg.l [Tg.i 13,Tg.i 14]],.n,.n,.i 7,.i 8,.n,.n,.n,.c,.c,.n,.n,.c,.i 9,.n,.i 10]),(3,[.i 4]),(4,[.c,.c,.c,.c,.c,.c]),(5,[]),(6,[]),(9,[]),(10,[]),(11,[.i 12,.n,.n,.n,.n,.n,.n]),(12,[.n,.n,.n,.n,.n,.n,.n,.n,.n,.n,.l [Tg.l [Tg.i 11],Tg.l []],.l [Tg.l [Tg.i 11],Tg.l []],.n,.n,.n,.n,.n,.c]),(13,[.i 11]),(14,[.i 2]),(7,[]),(8,[])],80⟩ Tryz.call194 (fun F' h=>(t_Control (c) hc (pl)).fr) fun xn1 n1 hxn1 => ?_
 subst hxn1
 refine xCy [] [] (Tg.n) ⟨[(0,[.i 1,.n,.n,.n,.n,.n,.c]),(1,[]),(2,[.n,.n,.n,.n,.n,.n,.n,.n,.n,.i 3,.n,.n,.n,.n,.i 5,.n,.i 6,.l [Tg.i 11],.l [Tg.l [],Tg.l [Tg.i 13,Tg.i 14]],.n,.n,.i 7,.i 8,.n,.n,.n,.c,.c,.n,.n,.c,.i 9,.n,.i 10]),(3,[.i 4]),(4,[.c,.c,.c,.c,.c,.c]),(5,[]),(6,[]),(9,[]),(10,[]),(11,[.i 12,.n,.n,.n,.n,.n,.n]),(12,[.n,.n,.n,.n,.n,.n,.n,.n,.n,.n,.l [Tg.l [Tg.i 11],Tg.l []],.l [Tg.l [Tg.i 11],Tg.l []],.n,.n,.n,.n,.n,.c]),(13,[.i 11]),(14,[.i 2]),(7,[]),(8,[])],121⟩ Tryz.call235 (fun F' h=>(t_Born (sn) hU).fr) fun _ n4 _ => ?_
 refine xCy [⟨(g 0).b,none,0⟩,⟨0,(g 1).a,(g 1).c⟩] [0,1] ((Tg.l [])) ⟨[(2,[.n,.n,.n,.n,.n,.n,.n,.n,.n,.i 3,.n,.n,.n,.n,.i 5,.n,.i 6,.l [Tg.i 11],.l [Tg.l [],Tg.l [Tg.i 13,Tg.i 14]],.n,.n,.i 7,.i 8,.n,.n,.n,.c,.c,.n,.n,.c,.i 9,.n,.i 10]),(3,[.i 4]),(4,[.c,.c,.c,.c,.c,.c]),(5,[]),(6,[]),(9,[]),(10,[]),(11,[.i 12,.n,.n,.n,.n,.n,.n]),(12,[.n,.n,.n,.n,.n,.n,.n,.n,.n,.n,.l [Tg.l [Tg.i 11],Tg.l []],.l [Tg.l [Tg.i 11],Tg.l []],.n,.n,.n,.n,.n,.c]),(13,[.i 11]),(14,[.i 2]),(7,[]),(8,[]),(0,[.i 1,.n,.n,.n,.n,.n,.c]),(1,[])],162⟩ Tryz.call65 (fun F' h=>(t_Store (A) (ctlAt c pl) (bornW sn) hA he).fr) fun _ n6 _ => ?_
 refine xCy [⟨(g 0).b,none,0⟩,⟨0,(g 1).a,(g 1).c⟩] [13,14] (Tg.n) ⟨[(2,[.n,.n,.n,.n,.n,.n,.n,.n,.n,.i 3,.n,.n,.n,.n,.i 5,.n,.i 6,.l [Tg.i 11],.l [Tg.l [],Tg.l [Tg.i 13,Tg.i 14]],.n,.n,.i 7,.i 8,.n,.n,.n,.c,.c,.n,.n,.c,.i 9,.n,.i 10]),(3,[.i 4]),(4,[.c,.c,.c,.c,.c,.c]),(5,[]),(6,[]),(9,[]),(10,[]),(11,[.i 12,.n,.n,.n,.n,.n,.n]),(12,[.n,.n,.n,.n,.n,.n,.n,.n,.n,.n,.l [Tg.l [Tg.i 11],Tg.l []],.l [Tg.l [Tg.i 11],Tg.l []],.n,.n,.n,.n,.n,.c]),(13,[.i 11]),(14,[.i 2]),(7,[]),(8,[]),(0,[.i 1,.n,.n,.n,.n,.n,.c]),(1,[])],202⟩ Tryz.call16 (fun F' h=>(t_Steps (A.n) ((A.store (ctlAt c pl) (bornW sn)).steps) ((A.store (ctlAt c pl) (bornW sn)).lk) ((A.store (ctlAt c pl) (bornW sn)).lw) ((A.store (ctlAt c pl) (bornW sn)).lv) (true) ((A.store (ctlAt c pl) (bornW sn)).ws)).fr) fun _ n10 _ => ?_
 refine xCy [] [] (Tg.l [Tg.n,Tg.n,Tg.n,Tg.n,Tg.n]) ⟨[(2,[.n,.n,.n,.n,.n,.n,.n,.n,.n,.i 3,.n,.n,.n,.n,.i 5,.n,.i 6,.l [Tg.i 11],.l [Tg.l [],Tg.l [Tg.i 13,Tg.i 14]],.n,.n,.i 7,.i 8,.n,.n,.n,.c,.c,.n,.n,.c,.i 9,.n,.i 10]),(3,[.i 4]),(4,[.c,.c,.c,.c,.c,.c]),(5,[]),(6,[]),(9,[]),(10,[]),(11,[.i 12,.n,.n,.n,.n,.n,.n]),(12,[.n,.n,.n,.n,.n,.n,.n,.n,.n,.n,.l [Tg.l [Tg.i 11],Tg.l []],.l [Tg.l [Tg.i 11],Tg.l []],.n,.n,.n,.n,.q 202 false,.c]),(13,[.i 11]),(14,[.i 2]),(7,[]),(8,[]),(0,[.i 1,.n,.n,.n,.n,.n,.c]),(1,[])],244⟩ Tryz.call197 (fun F' h=>(t_Unpack (sn) hU).fr) fun _ n15 _ => ?_
 refine xTn (xT:=95) (v:=Value.pointer (some {block:=(g 11).b,off:=0})) taN_153_103 ?_
 exact xR () trivial
end Go.Proofs.YtnnoeefjnpcfnaaGreatDoor
/- A client's step: it is entered. -/
set_option maxRecDepth 100000
set_option maxHeartbeats 0
namespace Go.Proofs.YtnnoeefjnpcfnaaGreatDoor
open Go.Sx
theorem c6a(c:Cfg)(k:Ck)(A:Ar)(hc:c.Ok)(hA:ArI A)(q i fa ti ke w:Int)(hd:Bool)(lg tl:Bool)(pl sn tp te:Int)(at_:Int)(hp:0≤pl∧pl<c.topics)(he:0≤entAt c pl∧entAt c pl<A.n)(hl:lg=false)(hk:keyOk ke=true):
  Ct Tryz.prog 14 (stS A (clCr c k ⟨⟨6,q,i,fa,true,ti,0,ke⟩,lg,pl,sn,tp,te,tl⟩ 11) (A.store (entAt c pl) (entW ke false)) (clCr c k ⟨⟨9,q,i,fa,true,ti,0,ke⟩,lg,pl,sn,tp,te,tl⟩ 11) .no):=by
 subst hl
 refine cX 75 xqI Tryz.func14 fun g F => ?_
 refine xCy [] [] (Tg.n) ⟨[(0,[.i 1,.n,.n,.n,.n,.n,.c]),(1,[]),(2,[.n,.n,.n,.n,.n,.n,.n,.n,.n,.i 3,.n,.n,.n,.n,.i 5,.n,.i 6,.l [Tg.i 11],.l [Tg.l [],Tg.l [Tg.i 13,Tg.i 14]],.n,.n,.i 7,.i 8,.n,.n,.n,.c,.c,.n,.n,.c,.i 9,.n,.i 10]),(3,[.i 4]),(4,[.c,.c,.c,.c,.c,.c]),(5,[]),(6,[]),(9,[]),(10,[]),(11,[.i 12,.n,.n,.n,.n,.n,.n]),(12,[.n,.n,.n,.n,.n,.n,.n,.n,.n,.n,.l [Tg.l [Tg.i 11],Tg.l []],.l [Tg.l [Tg.i 11],Tg.l []],.n,.n,.n,.n,.n,.c]),(13,[.i 11]),(14,[.i 2]),(7,[]),(8,[])],80⟩ Tryz.call141 (fun F' h=>(t_Entry (c) hc (pl)).fr) fun xn1 n1 hxn1 => ?_
 subst hxn1
 refine xCy [] [] (Tg.n) ⟨[(0,[.i 1,.n,.n,.n,.n,.n,.c]),(1,[]),(2,[.n,.n,.n,.n,.n,.n,.n,.n,.n,.i 3,.n,.n,.n,.n,.i 5,.n,.i 6,.l [Tg.i 11],.l [Tg.l [],Tg.l [Tg.i 13,Tg.i 14]],.n,.n,.i 7,.i 8,.n,.n,.n,.c,.c,.n,.n,.c,.i 9,.n,.i 10]),(3,[.i 4]),(4,[.c,.c,.c,.c,.c,.c]),(5,[]),(6,[]),(9,[]),(10,[]),(11,[.i 12,.n,.n,.n,.n,.n,.n]),(12,[.n,.n,.n,.n,.n,.n,.n,.n,.n,.n,.l [Tg.l [Tg.i 11],Tg.l []],.l [Tg.l [Tg.i 11],Tg.l []],.n,.n,.n,.n,.n,.c]),(13,[.i 11]),(14,[.i 2]),(7,[]),(8,[])],121⟩ Tryz.call262 (fun F' h=>(t_Entry0 (ke) hk).fr) fun xn4 n4 hxn4 => ?_
 subst hxn4
 refine xCy [⟨(g 0).b,none,0⟩,⟨0,(g 1).a,(g 1).c⟩] [0,1] ((Tg.l [])) ⟨[(2,[.n,.n,.n,.n,.n,.n,.n,.n,.n,.i 3,.n,.n,.n,.n,.i 5,.n,.i 6,.l [Tg.i 11],.l [Tg.l [],Tg.l [Tg.i 13,Tg.i 14]],.n,.n,.i 7,.i 8,.n,.n,.n,.c,.c,.n,.n,.c,.i 9,.n,.i 10]),(3,[.i 4]),(4,[.c,.c,.c,.c,.c,.c]),(5,[]),(6,[]),(9,[]),(10,[]),(11,[.i 12,.n,.n,.n,.n,.n,.n]),(12,[.n,.n,.n,.n,.n,.n,.n,.n,.n,.n,.l [Tg.l [Tg.i 11],Tg.l []],.l [Tg.l [Tg.i 11],Tg.l []],.n,.n,.n,.n,.n,.c]),(13,[.i 11]),(14,[.i 2]),(7,[]),(8,[]),(0,[.i 1,.n,.n,.n,.n,.n,.c]),(1,[])],162⟩ Tryz.call65 (fun F' h=>(t_Store (A) (entAt c pl) (entW ke false) hA he).fr) fun _ n6 _ => ?_
 refine xTn (xT:=95) (v:=Value.pointer (some {block:=(g 11).b,off:=0})) taN_153_103 ?_
 exact xR () trivial
theorem c6b(c:Cfg)(k:Ck)(A:Ar)(hc:c.Ok)(hA:ArI A)(q i fa ti ke w:Int)(hd:Bool)(lg tl:Bool)(pl sn tp te:Int)(at_:Int)(hp:0≤pl∧pl<c.topics)(he:0≤entAt c pl∧entAt c pl<A.n)(hl:lg=true)(hk:keyOk ke=true):
  Ct Tryz.prog 14 (stS A (clCr c k ⟨⟨6,q,i,fa,true,ti,0,ke⟩,lg,pl,sn,tp,te,tl⟩ 11) (A.store (entAt c pl) (entW ke true)) (clCr c k ⟨⟨9,q,i,fa,true,ti,0,ke⟩,lg,pl,sn,tp,te,tl⟩ 11) .no):=by
 subst hl
 refine cX 75 xqI Tryz.func14 fun g F => ?_
 refine xCy [] [] (Tg.n) ⟨[(0,[.i 1,.n,.n,.n,.n,.n,.c]),(1,[]),(2,[.n,.n,.n,.n,.n,.n,.n,.n,.n,.i 3,.n,.n,.n,.n,.i 5,.n,.i 6,.l [Tg.i 11],.l [Tg.l [],Tg.l [Tg.i 13,Tg.i 14]],.n,.n,.i 7,.i 8,.n,.n,.n,.c,.c,.n,.n,.c,.i 9,.n,.i 10]),(3,[.i 4]),(4,[.c,.c,.c,.c,.c,.c]),(5,[]),(6,[]),(9,[]),(10,[]),(11,[.i 12,.n,.n,.n,.n,.n,.n]),(12,[.n,.n,.n,.n,.n,.n,.n,.n,.n,.n,.l [Tg.l [Tg.i 11],Tg.l []],.l [Tg.l [Tg.i 11],Tg.l []],.n,.n,.n,.n,.n,.c]),(13,[.i 11]),(14,[.i 2]),(7,[]),(8,[])],80⟩ Tryz.call141 (fun F' h=>(t_Entry (c) hc (pl)).fr) fun xn1 n1 hxn1 => ?_
 subst hxn1
 refine xCy [] [] (Tg.n) ⟨[(0,[.i 1,.n,.n,.n,.n,.n,.c]),(1,[]),(2,[.n,.n,.n,.n,.n,.n,.n,.n,.n,.i 3,.n,.n,.n,.n,.i 5,.n,.i 6,.l [Tg.i 11],.l [Tg.l [],Tg.l [Tg.i 13,Tg.i 14]],.n,.n,.i 7,.i 8,.n,.n,.n,.c,.c,.n,.n,.c,.i 9,.n,.i 10]),(3,[.i 4]),(4,[.c,.c,.c,.c,.c,.c]),(5,[]),(6,[]),(9,[]),(10,[]),(11,[.i 12,.n,.n,.n,.n,.n,.n]),(12,[.n,.n,.n,.n,.n,.n,.n,.n,.n,.n,.l [Tg.l [Tg.i 11],Tg.l []],.l [Tg.l [Tg.i 11],Tg.l []],.n,.n,.n,.n,.n,.c]),(13,[.i 11]),(14,[.i 2]),(7,[]),(8,[])],121⟩ Tryz.call262 (fun F' h=>(t_Entry1 (ke) hk).fr) fun xn4 n4 hxn4 => ?_
 subst hxn4
 refine xCy [⟨(g 0).b,none,0⟩,⟨0,(g 1).a,(g 1).c⟩] [0,1] ((Tg.l [])) ⟨[(2,[.n,.n,.n,.n,.n,.n,.n,.n,.n,.i 3,.n,.n,.n,.n,.i 5,.n,.i 6,.l [Tg.i 11],.l [Tg.l [],Tg.l [Tg.i 13,Tg.i 14]],.n,.n,.i 7,.i 8,.n,.n,.n,.c,.c,.n,.n,.c,.i 9,.n,.i 10]),(3,[.i 4]),(4,[.c,.c,.c,.c,.c,.c]),(5,[]),(6,[]),(9,[]),(10,[]),(11,[.i 12,.n,.n,.n,.n,.n,.n]),(12,[.n,.n,.n,.n,.n,.n,.n,.n,.n,.n,.l [Tg.l [Tg.i 11],Tg.l []],.l [Tg.l [Tg.i 11],Tg.l []],.n,.n,.n,.n,.n,.c]),(13,[.i 11]),(14,[.i 2]),(7,[]),(8,[]),(0,[.i 1,.n,.n,.n,.n,.n,.c]),(1,[])],162⟩ Tryz.call65 (fun F' h=>(t_Store (A) (entAt c pl) (entW ke true) hA he).fr) fun _ n6 _ => ?_
 refine xTn (xT:=95) (v:=Value.pointer (some {block:=(g 11).b,off:=0})) taN_153_103 ?_
 exact xR () trivial
end Go.Proofs.YtnnoeefjnpcfnaaGreatDoor
/- A client's step: a create lets go. -/
set_option maxRecDepth 100000
set_option maxHeartbeats 0
namespace Go.Proofs.YtnnoeefjnpcfnaaGreatDoor
open Go.Sx
theorem c9a(c:Cfg)(k:Ck)(A:Ar)(hc:c.Ok)(hA:ArI A)(q i fa ti ke w:Int)(hd:Bool)(lg tl:Bool)(pl sn tp te:Int)(at_:Int)(hn:2<A.n)(F:Fr)(hF:HF F):
  CtF Tryz.prog F 14 (stV A (clCr c k ⟨⟨9,q,i,fa,true,ti,0,ke⟩,lg,pl,sn,tp,te,tl⟩ 11) (A.store 2 (IntKind.u64.wrap (q+2))) fun v=>clZ c (k.code 0 ti) v):=by
 refine cF 75 xqI Tryz.func14 fun g => ?_
 refine xCy [⟨(g 0).b,none,0⟩,⟨0,(g 1).a,(g 1).c⟩] [0,1] ((Tg.l [])) ⟨[(2,[.n,.n,.n,.n,.n,.n,.n,.n,.n,.i 3,.n,.n,.n,.n,.i 5,.n,.i 6,.l [Tg.i 11],.l [Tg.l [],Tg.l [Tg.i 13,Tg.i 14]],.n,.n,.i 7,.i 8,.n,.n,.n,.c,.c,.n,.n,.c,.i 9,.n,.i 10]),(3,[.i 4]),(4,[.c,.c,.c,.c,.c,.c]),(5,[]),(6,[]),(9,[]),(10,[]),(11,[.i 12,.n,.n,.n,.n,.n,.n]),(12,[.n,.n,.n,.n,.n,.n,.n,.n,.n,.n,.l [Tg.l [Tg.i 12],Tg.l []],.l [Tg.l [Tg.i 11],Tg.l []],.n,.n,.n,.n,.n,.c]),(13,[.i 11]),(14,[.i 2]),(7,[]),(8,[]),(0,[.i 1,.n,.n,.n,.n,.n,.c]),(1,[])],80⟩ Tryz.call65 (fun F' h=>(t_Store (A) (2) (IntKind.u64.wrap (q+2)) hA (by omega)).fr) fun _ n1 _ => ?_
 refine xTn (xT:=95) (v:=Value.pointer (some {block:=(g 11).b,off:=0})) taN_153_103 ?_
 refine xN fun b2 => ?_
 refine xN fun b3 => ?_
 refine xCy [] [] (Tg.c) ⟨[(2,[.n,.n,.n,.n,.n,.n,.n,.n,.n,.i 3,.n,.n,.n,.n,.i 5,.n,.i 6,.l [Tg.i 11],.l [Tg.l [],Tg.l [Tg.i 13,Tg.i 14]],.n,.n,.i 7,.i 8,.n,.n,.n,.c,.c,.n,.n,.c,.i 9,.n,.i 10]),(3,[.i 4]),(4,[.c,.c,.c,.c,.c,.c]),(5,[]),(6,[]),(9,[]),(10,[]),(11,[.i 12,.n,.n,.n,.n,.n,.n]),(12,[.n,.n,.n,.n,.n,.n,.n,.n,.n,.n,.c,.l [Tg.l [Tg.i 11],Tg.l []],.n,.n,.n,.c,.n,.c]),(13,[.i 11]),(14,[.i 2]),(7,[]),(8,[]),(0,[.i 1,.n,.n,.n,.n,.n,.c]),(1,[]),(82,[.n,.n,.n]),(84,[.n,.n,.n])],126⟩ Tryz.call74 (fun F' h=>(t_top0).fr) fun _ n5 _ => ?_
 refine xN fun b6 => ?_
 exact xR (Value.func (Fn.func (85:Nat)) {toList:=[]} {toList:=[Value.pointer (some {block:=(g ((11:Nat)+(2:Nat))).b,off:=(0:Nat)}),Value.pointer (some {block:=(g ((11:Nat)+(3:Nat))).b,off:=(0:Nat)})]}) (by omega)
theorem c9b(c:Cfg)(k:Ck)(A:Ar)(hc:c.Ok)(hA:ArI A)(q i fa ti ke w:Int)(hd:Bool)(lg tl:Bool)(pl sn tp te:Int)(at_:Int)(hn:2<A.n)(F:Fr)(hF:HF F):
  CtF Tryz.prog F 14 (stV A (clCr c k ⟨⟨9,q,i,fa,true,ti,14,ke⟩,lg,pl,sn,tp,te,tl⟩ 11) (A.store 2 (IntKind.u64.wrap (q+2))) fun v=>clZ c (k.code 14 ti) v):=by
 refine cF 75 xqI Tryz.func14 fun g => ?_
 refine xCy [⟨(g 0).b,none,0⟩,⟨0,(g 1).a,(g 1).c⟩] [0,1] ((Tg.l [])) ⟨[(2,[.n,.n,.n,.n,.n,.n,.n,.n,.n,.i 3,.n,.n,.n,.n,.i 5,.n,.i 6,.l [Tg.i 11],.l [Tg.l [],Tg.l [Tg.i 13,Tg.i 14]],.n,.n,.i 7,.i 8,.n,.n,.n,.c,.c,.n,.n,.c,.i 9,.n,.i 10]),(3,[.i 4]),(4,[.c,.c,.c,.c,.c,.c]),(5,[]),(6,[]),(9,[]),(10,[]),(11,[.i 12,.n,.n,.n,.n,.n,.n]),(12,[.n,.n,.n,.n,.n,.n,.n,.n,.n,.n,.l [Tg.l [Tg.i 12],Tg.l []],.l [Tg.l [Tg.i 11],Tg.l []],.n,.n,.n,.n,.n,.l [Tg.c]]),(13,[.i 11]),(14,[.i 2]),(7,[]),(8,[]),(0,[.i 1,.n,.n,.n,.n,.n,.c]),(1,[])],80⟩ Tryz.call65 (fun F' h=>(t_Store (A) (2) (IntKind.u64.wrap (q+2)) hA (by omega)).fr) fun _ n1 _ => ?_
 refine xTn (xT:=95) (v:=Value.pointer (some {block:=(g 11).b,off:=0})) taN_153_103 ?_
 refine xN fun b2 => ?_
 refine xN fun b3 => ?_
 refine xCy [] [] (Tg.n) ⟨[(2,[.n,.n,.n,.n,.n,.n,.n,.n,.n,.i 3,.n,.n,.n,.n,.i 5,.n,.i 6,.l [Tg.i 11],.l [Tg.l [],Tg.l [Tg.i 13,Tg.i 14]],.n,.n,.i 7,.i 8,.n,.n,.n,.c,.c,.n,.n,.c,.i 9,.n,.i 10]),(3,[.i 4]),(4,[.c,.c,.c,.c,.c,.c]),(5,[]),(6,[]),(9,[]),(10,[]),(11,[.i 12,.n,.n,.n,.n,.n,.n]),(12,[.n,.n,.n,.n,.n,.n,.n,.n,.n,.n,.c,.l [Tg.l [Tg.i 11],Tg.l []],.n,.n,.n,.c,.n,.l [Tg.c]]),(13,[.i 11]),(14,[.i 2]),(7,[]),(8,[]),(0,[.i 1,.n,.n,.n,.n,.n,.c]),(1,[]),(82,[.c,.c,.c]),(84,[.c,.c,.c])],126⟩ Tryz.call74 (fun F' h=>t_topE (14) F' (hF.mono h)) fun _ n5 _ => ?_
 refine xN fun b6 => ?_
 exact xR (Value.func (Fn.func (85:Nat)) {toList:=[]} {toList:=[Value.pointer (some {block:=(g ((11:Nat)+(2:Nat))).b,off:=(0:Nat)}),Value.pointer (some {block:=(g ((11:Nat)+(3:Nat))).b,off:=(0:Nat)})]}) (by omega)
theorem c9c(c:Cfg)(k:Ck)(A:Ar)(hc:c.Ok)(hA:ArI A)(q i fa ti ke w:Int)(hd:Bool)(lg tl:Bool)(pl sn tp te:Int)(at_:Int)(hn:2<A.n)(F:Fr)(hF:HF F):
  CtF Tryz.prog F 14 (stV A (clCr c k ⟨⟨9,q,i,fa,true,ti,15,ke⟩,lg,pl,sn,tp,te,tl⟩ 11) (A.store 2 (IntKind.u64.wrap (q+2))) fun v=>clZ c (k.code 15 ti) v):=by
 refine cF 75 xqI Tryz.func14 fun g => ?_
 refine xCy [⟨(g 0).b,none,0⟩,⟨0,(g 1).a,(g 1).c⟩] [0,1] ((Tg.l [])) ⟨[(2,[.n,.n,.n,.n,.n,.n,.n,.n,.n,.i 3,.n,.n,.n,.n,.i 5,.n,.i 6,.l [Tg.i 11],.l [Tg.l [],Tg.l [Tg.i 13,Tg.i 14]],.n,.n,.i 7,.i 8,.n,.n,.n,.c,.c,.n,.n,.c,.i 9,.n,.i 10]),(3,[.i 4]),(4,[.c,.c,.c,.c,.c,.c]),(5,[]),(6,[]),(9,[]),(10,[]),(11,[.i 12,.n,.n,.n,.n,.n,.n]),(12,[.n,.n,.n,.n,.n,.n,.n,.n,.n,.n,.l [Tg.l [Tg.i 12],Tg.l []],.l [Tg.l [Tg.i 11],Tg.l []],.n,.n,.n,.n,.n,.l [Tg.c]]),(13,[.i 11]),(14,[.i 2]),(7,[]),(8,[]),(0,[.i 1,.n,.n,.n,.n,.n,.c]),(1,[])],80⟩ Tryz.call65 (fun F' h=>(t_Store (A) (2) (IntKind.u64.wrap (q+2)) hA (by omega)).fr) fun _ n1 _ => ?_
 refine xTn (xT:=95) (v:=Value.pointer (some {block:=(g 11).b,off:=0})) taN_153_103 ?_
 refine xN fun b2 => ?_
 refine xN fun b3 => ?_
 refine xCy [] [] (Tg.n) ⟨[(2,[.n,.n,.n,.n,.n,.n,.n,.n,.n,.i 3,.n,.n,.n,.n,.i 5,.n,.i 6,.l [Tg.i 11],.l [Tg.l [],Tg.l [Tg.i 13,Tg.i 14]],.n,.n,.i 7,.i 8,.n,.n,.n,.c,.c,.n,.n,.c,.i 9,.n,.i 10]),(3,[.i 4]),(4,[.c,.c,.c,.c,.c,.c]),(5,[]),(6,[]),(9,[]),(10,[]),(11,[.i 12,.n,.n,.n,.n,.n,.n]),(12,[.n,.n,.n,.n,.n,.n,.n,.n,.n,.n,.c,.l [Tg.l [Tg.i 11],Tg.l []],.n,.n,.n,.c,.n,.l [Tg.c]]),(13,[.i 11]),(14,[.i 2]),(7,[]),(8,[]),(0,[.i 1,.n,.n,.n,.n,.n,.c]),(1,[]),(82,[.c,.c,.c]),(84,[.c,.c,.c])],126⟩ Tryz.call74 (fun F' h=>t_topE (15) F' (hF.mono h)) fun _ n5 _ => ?_
 refine xN fun b6 => ?_
 exact xR (Value.func (Fn.func (85:Nat)) {toList:=[]} {toList:=[Value.pointer (some {block:=(g ((11:Nat)+(2:Nat))).b,off:=(0:Nat)}),Value.pointer (some {block:=(g ((11:Nat)+(3:Nat))).b,off:=(0:Nat)})]}) (by omega)
end Go.Proofs.YtnnoeefjnpcfnaaGreatDoor
/- What holds the directory looks at an entry that is free. -/
set_option maxRecDepth 100000
set_option maxHeartbeats 0
namespace Go.Proofs.YtnnoeefjnpcfnaaGreatDoor
open Go.Sx
abbrev hoE(c:Cfg)(ke q i fa ti:Int)(nx he er:Value)(r:Nat): SE:=.pts r (cfgS c++[.i .i64 ke,.o nx,.o he,.i .u64 q,.i .i64 i,.i .i64 fa,.yes,.i .i64 ti,.o er]) 203
structure LB where
 l:Bool
theorem t_lookBI(c:Cfg)(A:Ar)(hc:c.Ok)(hA:ArI A)(ke q i fa ti w at_:Int)(nx hev er:Value)(hat:(startC c ke+i).tmod c.topics=at_)(hr:0≤at_∧at_<c.topics)(hs:0≤startC c ke∧startC c ke<c.topics)(he:0≤entAt c at_∧entAt c at_<A.n)(hw:A.ws.getD (entAt c at_).toNat 0=w)(hU:U64 w)(hi:0≤i∧i<c.topics)(hk:(keyW w).is=false)(hz:w=0∨i+1=c.topics):
  Ct Tryz.prog 152 (⟨[.s (.p 2 0),.s (.p 0 0)],ARp A 0 1++[hoE c ke q i fa ti nx hev er 2],3,fun x=>x.l=true,fun x=>[.s (.i .i64 at_),.s .no,.s (.bo (!(keyW w).is)),.s (.bo x.l)],fun _=>ARp (A.load (entAt c at_)) 0 1++[hoE c ke q (i+1) fa ti nx hev er 2]⟩:Sp LB):=by
 subst hw
 subst hat
 have hc':=hc
 simp only [Cfg.Ok] at hc'
 refine cX 79 xqI Tryz.func152 fun g F => ?_
 refine xCy [] [] (Tg.n) ⟨[(0,[.i 1,.n,.n,.n,.n,.n,.c]),(1,[]),(2,[.n,.n,.n,.n,.n,.n,.n,.n,.n,.n,.n,.n,.n,.n,.n,.c,.n,.n])],43⟩ Tryz.call42 (fun F' h=>(t_Start (c) hc (ke)).fr) fun xn1 n1 hxn1 => ?_
 subst hxn1
 refine xO (InK IntKind.i64 (startC c ke+i)) (by simp only [InK]; omega) ?_
 refine xO (c.topics≠0) (by omega) ?_
 refine xCy [] [] (Tg.n) ⟨[(0,[.i 1,.n,.n,.n,.n,.n,.c]),(1,[]),(2,[.n,.n,.n,.n,.n,.n,.n,.n,.n,.n,.n,.n,.n,.n,.n,.c,.n,.n])],85⟩ Tryz.call141 (fun F' h=>(t_Entry (c) hc ((startC c ke+i).tmod c.topics)).fr) fun xn3 n3 hxn3 => ?_
 subst hxn3
 refine xCy [⟨(g 0).b,none,0⟩,⟨0,(g 1).a,(g 1).c⟩] [0,1] (Tg.n) ⟨[(2,[.n,.n,.n,.n,.n,.n,.n,.n,.n,.n,.n,.n,.n,.n,.n,.c,.n,.n]),(0,[.i 1,.n,.n,.n,.n,.n,.c]),(1,[])],126⟩ Tryz.call137 (fun F' h=>(t_Load (A) (entAt c ((startC c ke+i).tmod c.topics)) hA he).fr) fun _ n6 _ => ?_
 refine xCy [] [] ((Tg.l [Tg.n,Tg.n,Tg.n])) ⟨[(2,[.n,.n,.n,.n,.n,.n,.n,.n,.n,.n,.n,.n,.n,.n,.n,.c,.n,.n]),(0,[.i 1,.n,.n,.n,.n,.n,.c]),(1,[])],167⟩ Tryz.call140 (fun F' h=>(t_Key (A.ws.getD (entAt c ((startC c ke+i).tmod c.topics)).toNat 0) hU).fr) fun xn10 n10 hxn10 => ?_
 subst hxn10
 refine xO (InK IntKind.i64 (i+1)) (by simp only [InK]; omega) ?_
 refine xF ((keyW (A.ws.getD (entAt c ((startC c ke+i).tmod c.topics)).toNat 0)).is) hk ?_
 refine xB (A.ws.getD (entAt c ((startC c ke+i).tmod c.topics)).toNat 0==0) (fun h11 => ?_) (fun h11 => ?_)
 ·skip
  replace h11:=decT h11
  exact xR ({l:=true}) (by first | rfl | (exact beq_iff_eq.2 (by omega)))
 ·skip
  replace h11:=decF h11
  exact xR ({l:=i+1==c.topics}) (by first | rfl | (exact beq_iff_eq.2 (by omega)))
theorem t_lookB(c:Cfg)(A:Ar)(hc:c.Ok)(hA:ArI A)(ke q i fa ti w at_:Int)(nx hev er:Value)(hat:(startC c ke+i).tmod c.topics=at_)(hr:0≤at_∧at_<c.topics)(hs:0≤startC c ke∧startC c ke<c.topics)(he:0≤entAt c at_∧entAt c at_<A.n)(hw:A.ws.getD (entAt c at_).toNat 0=w)(hU:U64 w)(hi:0≤i∧i<c.topics)(hk:(keyW w).is=false)(hz:w=0∨i+1=c.topics):
  Ct Tryz.prog 152 (sU [.s (.p 2 0),.s (.p 0 0)] (ARp A 0 1++[hoE c ke q i fa ti nx hev er 2]) 3 [.s (.i .i64 at_),.s .no,.s .yes,.s .yes] (ARp (A.load (entAt c at_)) 0 1++[hoE c ke q (i+1) fa ti nx hev er 2])):=by
 intro g F w' hi'
 refine(t_lookBI c A hc hA ke q i fa ti w at_ nx hev er hat hr hs he hw hU hi hk hz g F w' hi').mono ?_
 rintro e w2 ⟨v,post,rfl,⟨x,ν,hx,rfl,hp⟩,hw2⟩
 refine⟨_,_,rfl,⟨(),ν,trivial, ?_,hp⟩,hw2⟩
 have hx':x.l=true:=hx
 show retV _ [.s (.i .i64 at_),.s .no,.s (.bo (!(keyW w).is)),.s (.bo x.l)] = _
 rw [hk,hx']; rfl
theorem t_lookCI(c:Cfg)(A:Ar)(hc:c.Ok)(hA:ArI A)(ke q i fa ti w at_:Int)(nx hev er:Value)(hat:(startC c ke+i).tmod c.topics=at_)(hr:0≤at_∧at_<c.topics)(hs:0≤startC c ke∧startC c ke<c.topics)(he:0≤entAt c at_∧entAt c at_<A.n)(hw:A.ws.getD (entAt c at_).toNat 0=w)(hU:U64 w)(hi:0≤i∧i<c.topics)(hk:(keyW w).is=false)(hz:w≠0∧i+1≠c.topics):
  Ct Tryz.prog 152 (⟨[.s (.p 2 0),.s (.p 0 0)],ARp A 0 1++[hoE c ke q i fa ti nx hev er 2],3,fun x=>x.l=false,fun x=>[.s (.i .i64 at_),.s .no,.s (.bo (!(keyW w).is)),.s (.bo x.l)],fun _=>ARp (A.load (entAt c at_)) 0 1++[hoE c ke q (i+1) fa ti nx hev er 2]⟩:Sp LB):=by
 subst hw
 subst hat
 have hc':=hc
 simp only [Cfg.Ok] at hc'
 refine cX 79 xqI Tryz.func152 fun g F => ?_
 refine xCy [] [] (Tg.n) ⟨[(0,[.i 1,.n,.n,.n,.n,.n,.c]),(1,[]),(2,[.n,.n,.n,.n,.n,.n,.n,.n,.n,.n,.n,.n,.n,.n,.n,.c,.n,.n])],43⟩ Tryz.call42 (fun F' h=>(t_Start (c) hc (ke)).fr) fun xn1 n1 hxn1 => ?_
 subst hxn1
 refine xO (InK IntKind.i64 (startC c ke+i)) (by simp only [InK]; omega) ?_
 refine xO (c.topics≠0) (by omega) ?_
 refine xCy [] [] (Tg.n) ⟨[(0,[.i 1,.n,.n,.n,.n,.n,.c]),(1,[]),(2,[.n,.n,.n,.n,.n,.n,.n,.n,.n,.n,.n,.n,.n,.n,.n,.c,.n,.n])],85⟩ Tryz.call141 (fun F' h=>(t_Entry (c) hc ((startC c ke+i).tmod c.topics)).fr) fun xn3 n3 hxn3 => ?_
 subst hxn3
 refine xCy [⟨(g 0).b,none,0⟩,⟨0,(g 1).a,(g 1).c⟩] [0,1] (Tg.n) ⟨[(2,[.n,.n,.n,.n,.n,.n,.n,.n,.n,.n,.n,.n,.n,.n,.n,.c,.n,.n]),(0,[.i 1,.n,.n,.n,.n,.n,.c]),(1,[])],126⟩ Tryz.call137 (fun F' h=>(t_Load (A) (entAt c ((startC c ke+i).tmod c.topics)) hA he).fr) fun _ n6 _ => ?_
 refine xCy [] [] ((Tg.l [Tg.n,Tg.n,Tg.n])) ⟨[(2,[.n,.n,.n,.n,.n,.n,.n,.n,.n,.n,.n,.n,.n,.n,.n,.c,.n,.n]),(0,[.i 1,.n,.n,.n,.n,.n,.c]),(1,[])],167⟩ Tryz.call140 (fun F' h=>(t_Key (A.ws.getD (entAt c ((startC c ke+i).tmod c.topics)).toNat 0) hU).fr) fun xn10 n10 hxn10 => ?_
 subst hxn10
 refine xO (InK IntKind.i64 (i+1)) (by simp only [InK]; omega) ?_
 refine xF ((keyW (A.ws.getD (entAt c ((startC c ke+i).tmod c.topics)).toNat 0)).is) hk ?_
 refine xF (A.ws.getD (entAt c ((startC c ke+i).tmod c.topics)).toNat 0==0) (beq_eq_false_iff_ne.2 (by omega)) ?_
 exact xR ({l:=i+1==c.topics}) (beq_eq_false_iff_ne.2 hz.2)
theorem t_lookC(c:Cfg)(A:Ar)(hc:c.Ok)(hA:ArI A)(ke q i fa ti w at_:Int)(nx hev er:Value)(hat:(startC c ke+i).tmod c.topics=at_)(hr:0≤at_∧at_<c.topics)(hs:0≤startC c ke∧startC c ke<c.topics)(he:0≤entAt c at_∧entAt c at_<A.n)(hw:A.ws.getD (entAt c at_).toNat 0=w)(hU:U64 w)(hi:0≤i∧i<c.topics)(hk:(keyW w).is=false)(hz:w≠0∧i+1≠c.topics):
  Ct Tryz.prog 152 (sU [.s (.p 2 0),.s (.p 0 0)] (ARp A 0 1++[hoE c ke q i fa ti nx hev er 2]) 3 [.s (.i .i64 at_),.s .no,.s .yes,.s .no] (ARp (A.load (entAt c at_)) 0 1++[hoE c ke q (i+1) fa ti nx hev er 2])):=by
 intro g F w' hi'
 refine(t_lookCI c A hc hA ke q i fa ti w at_ nx hev er hat hr hs he hw hU hi hk hz g F w' hi').mono ?_
 rintro e w2 ⟨v,post,rfl,⟨x,ν,hx,rfl,hp⟩,hw2⟩
 refine⟨_,_,rfl,⟨(),ν,trivial, ?_,hp⟩,hw2⟩
 have hx':x.l=false:=hx
 show retV _ [.s (.i .i64 at_),.s .no,.s (.bo (!(keyW w).is)),.s (.bo x.l)] = _
 rw [hk,hx']; rfl
end Go.Proofs.YtnnoeefjnpcfnaaGreatDoor
/- A client's step: entries of a create: a free one. -/
set_option maxRecDepth 100000
set_option maxHeartbeats 0
namespace Go.Proofs.YtnnoeefjnpcfnaaGreatDoor
open Go.Sx
theorem c3b(c:Cfg)(k:Ck)(A:Ar)(hc:c.Ok)(hA:ArI A)(q i fa ti ke w:Int)(hd:Bool)(lg tl:Bool)(pl sn tp te:Int)(at_:Int)(hat:(startC c ke+i).tmod c.topics=at_)(hr:0≤at_∧at_<c.topics)(hs:0≤startC c ke∧startC c ke<c.topics)(he:0≤entAt c at_∧entAt c at_<A.n)(hw:A.ws.getD (entAt c at_).toNat 0=w)(hU:U64 w)(hi:0≤i∧i<c.topics)(hk:(keyW w).is=false)(hp:pl = -1)(hz:w=0∨i+1=c.topics):
  Ct Tryz.prog 14 (stS A (clCr c k ⟨⟨3,q,i,fa,true,ti,0,ke⟩,lg,pl,sn,tp,te,tl⟩ 11) (A.load (entAt c at_)) (clCr c k ⟨⟨4,q,i+1,fa,true,ti,0,ke⟩,lg,at_,sn,tp,te,tl⟩ 11) .no):=by
 subst hw
 subst hat
 have hc':=hc
 simp only [Cfg.Ok] at hc'
 refine cX 75 xlI Tryz.func14 fun g F => ?_
 refine xCy [⟨(g 0).b,none,0⟩,⟨0,(g 1).a,(g 1).c⟩,⟨(g (11+1)).b,none,0⟩] [0,1,10] ((Tg.l [Tg.n,Tg.c,Tg.c,Tg.c])) ⟨[(2,[.n,.n,.n,.n,.n,.n,.n,.n,.n,.i 3,.n,.n,.n,.n,.i 5,.n,.i 6,.l [Tg.i 11],.l [Tg.l [],Tg.l [Tg.i 13,Tg.i 14]],.n,.n,.i 7,.i 8,.n,.n,.n,.c,.c,.n,.n,.c,.i 9,.n,.i 10]),(3,[.i 4]),(4,[.c,.c,.c,.c,.c,.c]),(5,[]),(6,[]),(9,[]),(10,[]),(11,[.i 12,.n,.n,.n,.n,.n,.n]),(13,[.i 11]),(14,[.i 2]),(7,[]),(8,[]),(0,[.i 1,.n,.n,.n,.n,.n,.c]),(1,[]),(12,[.n,.n,.n,.n,.n,.n,.n,.n,.n,.n,.n,.n,.n,.n,.n,.c,.n,.n])],80⟩ Tryz.call152 (fun F' h=>(t_lookB (c) (A) hc hA (ke) (q) (i) (fa) (ti) _ _ (Value.func (Fn.func (120:Nat)) {toList:=[Value.pointer (some {block:=(g (11:Nat)).b,off:=(0:Nat)})]} {toList:=[]}) (Value.func (Fn.func (120:Nat)) {toList:=[Value.pointer (some {block:=(g (11:Nat)).b,off:=(0:Nat)})]} {toList:=[]}) (Value.nilIface) rfl hr hs he rfl hU hi hk hz).fr) fun _ n1 _ => ?_
 refine xT (pl == -1) (by first | (simp; done) | (simp; omega)) ?_
 refine xF ((startC c ke+i).tmod c.topics == -1) (by first | (simp; done) | (simp; omega)) ?_
 refine xTn (xT:=95) (v:=Value.pointer (some {block:=(g 11).b,off:=0})) taN_153_103 ?_
 exact xR () trivial
theorem c3c(c:Cfg)(k:Ck)(A:Ar)(hc:c.Ok)(hA:ArI A)(q i fa ti ke w:Int)(hd:Bool)(lg tl:Bool)(pl sn tp te:Int)(at_:Int)(hat:(startC c ke+i).tmod c.topics=at_)(hr:0≤at_∧at_<c.topics)(hs:0≤startC c ke∧startC c ke<c.topics)(he:0≤entAt c at_∧entAt c at_<A.n)(hw:A.ws.getD (entAt c at_).toNat 0=w)(hU:U64 w)(hi:0≤i∧i<c.topics)(hk:(keyW w).is=false)(hp:pl = -1)(hz:w≠0∧i+1≠c.topics):
  Ct Tryz.prog 14 (stS A (clCr c k ⟨⟨3,q,i,fa,true,ti,0,ke⟩,lg,pl,sn,tp,te,tl⟩ 11) (A.load (entAt c at_)) (clCr c k ⟨⟨3,q,i+1,fa,true,ti,0,ke⟩,lg,at_,sn,tp,te,tl⟩ 11) .no):=by
 subst hw
 subst hat
 have hc':=hc
 simp only [Cfg.Ok] at hc'
 refine cX 75 xlI Tryz.func14 fun g F => ?_
 refine xCy [⟨(g 0).b,none,0⟩,⟨0,(g 1).a,(g 1).c⟩,⟨(g (11+1)).b,none,0⟩] [0,1,10] ((Tg.l [Tg.n,Tg.c,Tg.c,Tg.c])) ⟨[(2,[.n,.n,.n,.n,.n,.n,.n,.n,.n,.i 3,.n,.n,.n,.n,.i 5,.n,.i 6,.l [Tg.i 11],.l [Tg.l [],Tg.l [Tg.i 13,Tg.i 14]],.n,.n,.i 7,.i 8,.n,.n,.n,.c,.c,.n,.n,.c,.i 9,.n,.i 10]),(3,[.i 4]),(4,[.c,.c,.c,.c,.c,.c]),(5,[]),(6,[]),(9,[]),(10,[]),(11,[.i 12,.n,.n,.n,.n,.n,.n]),(13,[.i 11]),(14,[.i 2]),(7,[]),(8,[]),(0,[.i 1,.n,.n,.n,.n,.n,.c]),(1,[]),(12,[.n,.n,.n,.n,.n,.n,.n,.n,.n,.n,.n,.n,.n,.n,.n,.c,.n,.n])],80⟩ Tryz.call152 (fun F' h=>(t_lookC (c) (A) hc hA (ke) (q) (i) (fa) (ti) _ _ (Value.func (Fn.func (120:Nat)) {toList:=[Value.pointer (some {block:=(g (11:Nat)).b,off:=(0:Nat)})]} {toList:=[]}) (Value.func (Fn.func (120:Nat)) {toList:=[Value.pointer (some {block:=(g (11:Nat)).b,off:=(0:Nat)})]} {toList:=[]}) (Value.nilIface) rfl hr hs he rfl hU hi hk hz).fr) fun _ n1 _ => ?_
 refine xT (pl == -1) (by first | (simp; done) | (simp; omega)) ?_
 refine xTn (xT:=95) (v:=Value.pointer (some {block:=(g 11).b,off:=0})) taN_153_103 ?_
 refine xF (false) rfl ?_
 exact xR () trivial
end Go.Proofs.YtnnoeefjnpcfnaaGreatDoor
/- A client's step, as one thing: it creates. -/
set_option linter.unusedSimpArgs false
set_option maxRecDepth 100000
namespace Go.Proofs.YtnnoeefjnpcfnaaGreatDoor
open Go.Sx
structure CrOk (c:Cfg) (K:Cr):Prop where
 ph:(1≤K.h.ph∧K.h.ph≤6)∨K.h.ph=9
 failed:0≤K.h.failed∧K.h.failed<c.retry
 key:startC c K.h.key≠-1
 err:K.h.err=0∨(K.h.ph=9∧(K.h.err=14∨K.h.err=15))
 holds:K.h.ph=3∨K.h.ph=4∨K.h.ph=5∨K.h.ph=6∨K.h.ph=9→K.h.holds=true
 i:K.h.ph=3→0≤K.h.i∧K.h.i<c.topics
 pl:K.h.ph=3→K.pl = -1∨(0≤K.pl∧K.pl<c.topics)
 pl2:K.h.ph=4∨K.h.ph=5∨K.h.ph=6→0≤K.pl∧K.pl<c.topics
 seen:K.h.ph=5→U64 K.seen
theorem ck_create{c:Cfg}{sk:Int}{k:Ck}{A A':Ar}{S S':Cr}(hk:k.part = .create S)(h:S.step c A=(S' ,A'))(hp:S'.h.ph≠0): k.step c sk A=({k with part:=.create S'},A'):=by
 simp only [Ck.step,hk,h]; rw [if_neg hp]
theorem ck_createE{c:Cfg}{sk:Int}{k:Ck}{A A':Ar}{S S':Cr}(hk:k.part = .create S)(h:S.step c A=(S' ,A'))(hp:S'.h.ph=0): k.step c sk A=(k.code S'.h.err S'.h.time,A'):=by
 simp only [Ck.step,hk,h]; rw [if_pos hp]
theorem start_key{c:Cfg}{k:Int}(h:startC c k≠-1): keyOk k=true:=by
 unfold startC at h
 by_cases hk:keyOk k=true
 ·exact hk
 ·rw [if_neg hk] at h; exact absurd rfl h
theorem st_create{c:Cfg}(hc:c.Ok){sk:Int}{F:Fr}(hF:HF F){k:Ck}{A:Ar}{n:Int}(hA:ArW c A n)(hn:n≤1000000000){S:Cr}(hk:k.part = .create S)(hS:CrOk c S): CkT c sk F k A:=by
 intro E hE
 simp only [Frm,hk] at hE
 subst hE
 have hI:=hA.ari hc hn
 have h2:=hA.n2 hc
 have hN:=hA.2.1
 have hc':=hc
 simp only [Cfg.Ok] at hc'
 obtain⟨⟨ph,q,i,fa,hd,ti,er,ke⟩,lg,pl,sn,tp,te,tl⟩:=S
 obtain⟨s1,s2,s3,s4,s5,s6,s7,s8,s9⟩:=hS
 simp only at s1 s2 s3 s4 s5 s6 s7 s8 s9
 have hst:=start_rng hc s3
 have hky:=start_key s3
 obtain rfl | rfl | rfl | rfl | rfl | rfl | rfl:ph=1∨ph=2∨ph=3∨ph=4∨ph=5∨ph=6∨ph=9:=by omega
 ·obtain rfl:er=0:=by omega
  by_cases hw:(A.ws.getD 2 0) % 2=1
  ·by_cases hr:fa+1=c.retry
   ·have e:k.step c sk A=(k.code 17 ti,A.load 2):=ck_createE (S':=⟨⟨0,A.ws.getD 2 0,i,fa+1,hd,ti,17,ke⟩,lg,pl,sn,tp,te,tl⟩) hk (by simp only [Cr.step,Hd.begin,Hd.fail]; rw [if_pos hw,if_pos hr]) rfl
    rw [e]
    exact bx_done (c1c c k A hc hI q i fa ti ke _ hd lg tl pl sn tp te h2 rfl (by rw [tm2 (hA.u64 2)]; exact hw) (by omega) hr F hF) fun v=>cls_Z rfl rfl rfl
   ·have e:k.step c sk A=({k with part:=.create ⟨⟨1,A.ws.getD 2 0,i,fa+1,hd,ti,0,ke⟩,lg,pl,sn,tp,te,tl⟩},A.load 2):=ck_create hk (by simp only [Cr.step,Hd.begin,Hd.fail]; rw [if_pos hw,if_neg hr]) (by simp)
    rw [e]
    exact bx_more (c1b c k A hc hI q i fa ti ke _ hd lg tl pl sn tp te h2 rfl (by rw [tm2 (hA.u64 2)]; exact hw) (by omega) hr).fr (cls_ren [] rfl fun h u=>by kernel_rfl)
  ·have e:k.step c sk A=({k with part:=.create ⟨⟨2,A.ws.getD 2 0,i,fa,hd,ti,0,ke⟩,lg,pl,sn,tp,te,tl⟩},A.load 2):=ck_create hk (by simp only [Cr.step,Hd.begin,Hd.fail]; rw [if_neg hw]) (by simp)
   rw [e]
   exact bx_more (c1a c k A hc hI q i fa ti ke _ hd lg tl pl sn tp te h2 rfl (by rw [tm2 (hA.u64 2)]; exact hw)).fr (cls_ren [] rfl fun h u=>by kernel_rfl)
 ·obtain rfl:er=0:=by omega
  by_cases hw:A.ws.getD 2 0=q
  ·have e:k.step c sk A=({k with part:=.create ⟨⟨3,q,i,fa,true,ti,0,ke⟩,lg,pl,sn,tp,te,tl⟩},A.swapT 2 (IntKind.u64.wrap (q+1))):=ck_create hk (by simp only [Cr.step,Hd.take]; rw [if_pos hw]) (by simp)
   rw [e]
   exact bx_more (c2a c k A hc hI q i fa ti ke 0 hd lg tl pl sn tp te h2 hw).fr (cls_ren [] rfl fun h u=>by kernel_rfl)
  ·by_cases hr:fa+1=c.retry
   ·have e:k.step c sk A=(k.code 17 ti,A.swapF 2):=ck_createE (S':=⟨⟨0,q,i,fa+1,false,ti,17,ke⟩,lg,pl,sn,tp,te,tl⟩) hk (by simp only [Cr.step,Hd.take,Hd.fail]; rw [if_neg hw,if_pos hr]) rfl
    rw [e]
    exact bx_done (c2c c k A hc hI q i fa ti ke 0 hd lg tl pl sn tp te h2 hw (by omega) hr F hF) fun v=>cls_Z rfl rfl rfl
   ·have e:k.step c sk A=({k with part:=.create ⟨⟨1,q,i,fa+1,false,ti,0,ke⟩,lg,pl,sn,tp,te,tl⟩},A.swapF 2):=ck_create hk (by simp only [Cr.step,Hd.take,Hd.fail]; rw [if_neg hw,if_neg hr]) (by simp)
    rw [e]
    exact bx_more (c2b c k A hc hI q i fa ti ke 0 hd lg tl pl sn tp te h2 hw (by omega) hr).fr (cls_ren [] rfl fun h u=>by kernel_rfl)
 ·obtain rfl:er=0:=by omega
  obtain rfl:=s5 (.inl rfl)
  have hi:=s6 rfl
  have hpl:=s7 rfl
  have hp:=place_eq hc hst.1 hi.1
  have he:=entAt_ok hc hp.2
  have hU:=hA.u64 (entAt c ((startC c ke+i) % c.topics)).toNat
  generalize hat:(startC c ke+i) % c.topics=at_ at *
  generalize hw:A.ws.getD (entAt c at_).toNat 0=w at *
  cases h1:(keyW w).is with
  | true=>
   by_cases hq:(keyW w).key=ke
   ·skip
    have e:k.step c sk A=({k with part:=.create ⟨⟨9,q,i+1,fa,true,A.steps+1,14,ke⟩,lg,pl,sn,tp,te,tl⟩},A.load (entAt c at_)):=ck_create hk (by simp only [Cr.step,Hd.place,Hd.stop,hat,hw]; simp [h1,hq,Ar.load]) (by simp)
    rw [e]
    exact bx_more (c3a c k A hc hI q i fa ti ke w true lg tl pl sn tp te at_ (hp.1) hp.2 hst (by omega) hw hU hi h1 hq).fr (cls_ren [] rfl fun h u=>by kernel_rfl)
   ·by_cases hm:pl = -1
    ·by_cases hz:w=0∨i+1=c.topics
     ·skip
      have e:k.step c sk A=({k with part:=.create ⟨⟨9,q,i+1,fa,true,A.steps+1,15,ke⟩,lg,pl,sn,tp,te,tl⟩},A.load (entAt c at_)):=ck_create hk (by simp only [Cr.step,Hd.place,Hd.stop,hat,hw]; simp [h1,hq,hm,hz,Ar.load]) (by simp)
      rw [e]
      exact bx_more (c3f c k A hc hI q i fa ti ke w true lg tl pl sn tp te at_ (hp.1) hp.2 hst (by omega) hw hU hi h1 hq hm hz).fr (cls_ren [] rfl fun h u=>by kernel_rfl)
     ·skip
      have e:k.step c sk A=({k with part:=.create ⟨⟨3,q,i+1,fa,true,ti,0,ke⟩,lg,pl,sn,tp,te,tl⟩},A.load (entAt c at_)):=ck_create hk (by simp only [Cr.step,Hd.place,Hd.stop,hat,hw]; simp [h1,hq,hm,hz]) (by simp)
      rw [e]
      exact bx_more (c3g c k A hc hI q i fa ti ke w true lg tl pl sn tp te at_ (hp.1) hp.2 hst (by omega) hw hU hi h1 hq hm (not_or.1 hz)).fr (cls_ren [] rfl fun h u=>by kernel_rfl)
    ·by_cases hz:w=0∨i+1=c.topics
     ·skip
      have e:k.step c sk A=({k with part:=.create ⟨⟨4,q,i+1,fa,true,ti,0,ke⟩,lg,pl,sn,tp,te,tl⟩},A.load (entAt c at_)):=ck_create hk (by simp only [Cr.step,Hd.place,Hd.stop,hat,hw]; simp [h1,hq,hm,hz]) (by simp)
      rw [e]
      exact bx_more (c3h c k A hc hI q i fa ti ke w true lg tl pl sn tp te at_ (hp.1) hp.2 hst (by omega) hw hU hi h1 hq hm hz).fr (cls_ren [] rfl fun h u=>by kernel_rfl)
     ·skip
      have e:k.step c sk A=({k with part:=.create ⟨⟨3,q,i+1,fa,true,ti,0,ke⟩,lg,pl,sn,tp,te,tl⟩},A.load (entAt c at_)):=ck_create hk (by simp only [Cr.step,Hd.place,Hd.stop,hat,hw]; simp [h1,hq,hm,hz]) (by simp)
      rw [e]
      exact bx_more (c3i c k A hc hI q i fa ti ke w true lg tl pl sn tp te at_ (hp.1) hp.2 hst (by omega) hw hU hi h1 hq hm (not_or.1 hz)).fr (cls_ren [] rfl fun h u=>by kernel_rfl)
  | false=>
   by_cases hm:pl = -1
   ·have hnn:¬at_ = -1:=by omega
    by_cases hz:w=0∨i+1=c.topics
    ·skip
     have e:k.step c sk A=({k with part:=.create ⟨⟨4,q,i+1,fa,true,ti,0,ke⟩,lg,at_,sn,tp,te,tl⟩},A.load (entAt c at_)):=ck_create hk (by simp only [Cr.step,Hd.place,Hd.stop,hat,hw]; simp [h1,hm,hz,hnn]) (by simp)
     rw [e]
     exact bx_more (c3b c k A hc hI q i fa ti ke w true lg tl pl sn tp te at_ (hp.1) hp.2 hst (by omega) hw hU hi h1 hm hz).fr (cls_ren [] rfl fun h u=>by kernel_rfl)
    ·skip
     have e:k.step c sk A=({k with part:=.create ⟨⟨3,q,i+1,fa,true,ti,0,ke⟩,lg,at_,sn,tp,te,tl⟩},A.load (entAt c at_)):=ck_create hk (by simp only [Cr.step,Hd.place,Hd.stop,hat,hw]; simp [h1,hm,hz,hnn]) (by simp)
     rw [e]
     exact bx_more (c3c c k A hc hI q i fa ti ke w true lg tl pl sn tp te at_ (hp.1) hp.2 hst (by omega) hw hU hi h1 hm (not_or.1 hz)).fr (cls_ren [] rfl fun h u=>by kernel_rfl)
   ·by_cases hz:w=0∨i+1=c.topics
    ·skip
     have e:k.step c sk A=({k with part:=.create ⟨⟨4,q,i+1,fa,true,ti,0,ke⟩,lg,pl,sn,tp,te,tl⟩},A.load (entAt c at_)):=ck_create hk (by simp only [Cr.step,Hd.place,Hd.stop,hat,hw]; simp [h1,hm,hz]) (by simp)
     rw [e]
     exact bx_more (c3d c k A hc hI q i fa ti ke w true lg tl pl sn tp te at_ (hp.1) hp.2 hst (by omega) hw hU hi h1 hm hz).fr (cls_ren [] rfl fun h u=>by kernel_rfl)
    ·skip
     have e:k.step c sk A=({k with part:=.create ⟨⟨3,q,i+1,fa,true,ti,0,ke⟩,lg,pl,sn,tp,te,tl⟩},A.load (entAt c at_)):=ck_create hk (by simp only [Cr.step,Hd.place,Hd.stop,hat,hw]; simp [h1,hm,hz]) (by simp)
     rw [e]
     exact bx_more (c3e c k A hc hI q i fa ti ke w true lg tl pl sn tp te at_ (hp.1) hp.2 hst (by omega) hw hU hi h1 hm (not_or.1 hz)).fr (cls_ren [] rfl fun h u=>by kernel_rfl)
 ·obtain rfl:er=0:=by omega
  obtain rfl:=s5 (by omega)
  have hp:=s8 (by omega)
  have he:=ctlAt_ok hc hp
  have e:k.step c sk A=({k with part:=.create ⟨⟨5,q,i,fa,true,ti,0,ke⟩,lg,pl,A.ws.getD (ctlAt c pl).toNat 0,tp,te,tl⟩},A.load (ctlAt c pl)):=ck_create hk rfl (by simp)
  rw [e]
  exact bx_more (c4 c k A hc hI q i fa ti ke _ true lg tl pl sn tp te 0 hp (by omega) rfl).fr (cls_ren [] rfl fun h u=>by kernel_rfl)
 ·obtain rfl:er=0:=by omega
  obtain rfl:=s5 (by omega)
  have hp:=s8 (by omega)
  have he:=ctlAt_ok hc hp
  have e:k.step c sk A=({k with part:=.create ⟨⟨6,q,i,fa,true,A.steps+1,0,ke⟩,lg,pl,sn,pl,ctlEpoch sn,lg⟩},A.store (ctlAt c pl) (bornW sn)):=ck_create hk rfl (by simp)
  rw [e]
  exact bx_more (c5 c k A hc hI q i fa ti ke 0 true lg tl pl sn tp te 0 hp (by omega) (s9 rfl)).fr (cls_ren [] rfl fun h u=>by kernel_rfl)
 ·obtain rfl:er=0:=by omega
  obtain rfl:=s5 (by omega)
  have hp:=s8 (by omega)
  have he:=entAt_ok hc hp
  have e:k.step c sk A=({k with part:=.create ⟨⟨9,q,i,fa,true,ti,0,ke⟩,lg,pl,sn,tp,te,tl⟩},A.store (entAt c pl) (entW ke lg)):=ck_create hk rfl (by simp)
  rw [e]
  cases lg with
  | false=>exact bx_more (c6a c k A hc hI q i fa ti ke 0 true false tl pl sn tp te 0 hp (by omega) rfl hky).fr (cls_ren [] rfl fun h u=>by kernel_rfl)
  | true=>exact bx_more (c6b c k A hc hI q i fa ti ke 0 true true tl pl sn tp te 0 hp (by omega) rfl hky).fr (cls_ren [] rfl fun h u=>by kernel_rfl)
 ·obtain rfl:=s5 (by omega)
  have e:k.step c sk A=(k.code er ti,A.store 2 (IntKind.u64.wrap (q+2))):=ck_createE (S':=⟨⟨0,q,i,fa,false,ti,er,ke⟩,lg,pl,sn,tp,te,tl⟩) hk rfl rfl
  rw [e]
  rcases (by omega:er=0∨er=14∨er=15) with rfl | rfl | rfl
  ·exact bx_done (c9a c k A hc hI q i fa ti ke 0 true lg tl pl sn tp te 0 h2 F hF) fun v=>cls_Z rfl rfl rfl
  ·exact bx_done (c9b c k A hc hI q i fa ti ke 0 true lg tl pl sn tp te 0 h2 F hF) fun v=>cls_Z rfl rfl rfl
  ·exact bx_done (c9c c k A hc hI q i fa ti ke 0 true lg tl pl sn tp te 0 h2 F hF) fun v=>cls_Z rfl rfl rfl
end Go.Proofs.YtnnoeefjnpcfnaaGreatDoor
/- A client's step: a read looks. -/
set_option maxRecDepth 100000
set_option maxHeartbeats 0
namespace Go.Proofs.YtnnoeefjnpcfnaaGreatDoor
open Go.Sx
theorem r1a(c:Cfg)(k:Ck)(A:Ar)(hc:c.Ok)(hA:ArI A)(nu ep se fa cm ti i w:Int)(ws:List Int)(hp:0≤nu∧nu<c.topics)(he:0≤ctlAt c nu∧ctlAt c nu<A.n)(hw:A.ws.getD (ctlAt c nu).toNat 0=w)(hU:U64 w)(hl:ctlLive w=true)(hep:ctlEpoch w=ep)(hg:ctlGen w≠0):
  Ct Tryz.prog 14 (stS A (clSr c k ⟨⟨nu,ep,1,se,fa,cm,ti,0⟩,ws⟩ 11 12) (A.load (ctlAt c nu)) (clSr0 c k ⟨nu,ep,3,w,fa,cm,A.steps+1,0⟩ 11) .no):=by
 subst hw
 have hc':=hc
 simp only [Cfg.Ok] at hc'
 refine cX 75 xqI Tryz.func14 fun g F => ?_
 refine xN fun b1 => ?_
 refine xCy [] [] (Tg.n) ⟨[(0,[.i 1,.n,.n,.n,.n,.n,.c]),(1,[]),(2,[.n,.n,.n,.n,.n,.n,.n,.n,.n,.i 3,.n,.n,.n,.n,.i 5,.n,.i 6,.l [Tg.i 11],.l [Tg.l [],Tg.l [Tg.i 13,Tg.i 14]],.n,.n,.i 7,.i 8,.n,.n,.n,.c,.c,.n,.n,.c,.i 9,.n,.i 10]),(3,[.i 4]),(4,[.c,.c,.c,.c,.c,.c]),(5,[]),(6,[]),(9,[]),(10,[]),(11,[.n,.n,.n,.n,.n,.n,.n,.n,.n,.n,.n,.c,.n,.n,.n,.n,.c,.c]),(12,[]),(13,[.i 11]),(14,[.l [Tg.l [],Tg.l [Tg.i 15]]]),(15,[.i 2]),(7,[]),(8,[]),(41,[.c,.c,.c,.c,.c])],82⟩ Tryz.call194 (fun F' h=>(t_Control (c) hc (nu)).fr) fun xn2 n2 hxn2 => ?_
 subst hxn2
 refine xCy [⟨(g 0).b,none,0⟩,⟨0,(g 1).a,(g 1).c⟩] [0,1] (Tg.n) ⟨[(2,[.n,.n,.n,.n,.n,.n,.n,.n,.n,.i 3,.n,.n,.n,.n,.i 5,.n,.i 6,.l [Tg.i 11],.l [Tg.l [],Tg.l [Tg.i 13,Tg.i 14]],.n,.n,.i 7,.i 8,.n,.n,.n,.c,.c,.n,.n,.c,.i 9,.n,.i 10]),(3,[.i 4]),(4,[.c,.c,.c,.c,.c,.c]),(5,[]),(6,[]),(9,[]),(10,[]),(11,[.n,.n,.n,.n,.n,.n,.n,.n,.n,.n,.n,.c,.n,.n,.n,.n,.c,.c]),(12,[]),(13,[.i 11]),(14,[.l [Tg.l [],Tg.l [Tg.i 15]]]),(15,[.i 2]),(7,[]),(8,[]),(41,[.c,.c,.c,.c,.c]),(0,[.i 1,.n,.n,.n,.n,.n,.c]),(1,[])],123⟩ Tryz.call137 (fun F' h=>(t_Load (A) (ctlAt c nu) hA he).fr) fun _ n4 _ => ?_
 refine xCy [⟨(g 0).b,none,0⟩,⟨0,(g 1).a,(g 1).c⟩] [15,16] (Tg.n) ⟨[(2,[.n,.n,.n,.n,.n,.n,.n,.n,.n,.i 3,.n,.n,.n,.n,.i 5,.n,.i 6,.l [Tg.i 11],.l [Tg.l [],Tg.l [Tg.i 13,Tg.i 14]],.n,.n,.i 7,.i 8,.n,.n,.n,.c,.c,.n,.n,.c,.i 9,.n,.i 10]),(3,[.i 4]),(4,[.c,.c,.c,.c,.c,.c]),(5,[]),(6,[]),(9,[]),(10,[]),(11,[.n,.n,.n,.n,.n,.n,.n,.n,.n,.n,.n,.c,.q 123 false,.n,.n,.n,.c,.c]),(12,[]),(13,[.i 11]),(14,[.l [Tg.l [],Tg.l [Tg.i 15]]]),(15,[.i 2]),(7,[]),(8,[]),(41,[.c,.c,.c,.c,.c]),(0,[.i 1,.n,.n,.n,.n,.n,.c]),(1,[])],165⟩ Tryz.call16 (fun F' h=>(t_Steps (A.n) ((A.load (ctlAt c nu)).steps) ((A.load (ctlAt c nu)).lk) ((A.load (ctlAt c nu)).lw) ((A.load (ctlAt c nu)).lv) (false) ((A.load (ctlAt c nu)).ws)).fr) fun _ n7 _ => ?_
 refine xCy [] [] (Tg.l [Tg.n,Tg.n,Tg.n,Tg.n,Tg.n]) ⟨[(2,[.n,.n,.n,.n,.n,.n,.n,.n,.n,.i 3,.n,.n,.n,.n,.i 5,.n,.i 6,.l [Tg.i 11],.l [Tg.l [],Tg.l [Tg.i 13,Tg.i 14]],.n,.n,.i 7,.i 8,.n,.n,.n,.c,.c,.n,.n,.c,.i 9,.n,.i 10]),(3,[.i 4]),(4,[.c,.c,.c,.c,.c,.c]),(5,[]),(6,[]),(9,[]),(10,[]),(11,[.n,.n,.n,.n,.n,.n,.n,.n,.n,.n,.n,.c,.q 123 false,.n,.n,.q 165 false,.c,.c]),(12,[]),(13,[.i 11]),(14,[.l [Tg.l [],Tg.l [Tg.i 15]]]),(15,[.i 2]),(7,[]),(8,[]),(41,[.c,.c,.c,.c,.c]),(0,[.i 1,.n,.n,.n,.n,.n,.c]),(1,[])],207⟩ Tryz.call197 (fun F' h=>(t_Unpack (A.ws.getD (ctlAt c nu).toNat 0) hU).fr) fun _ n11 _ => ?_
 refine xN fun b12 => ?_
 refine xF (!ctlLive (A.ws.getD (ctlAt c nu).toNat 0)) (by rw [hl]; rfl) ?_
 refine xF (ctlEpoch (A.ws.getD (ctlAt c nu).toNat 0) != ep) (bne_eq_false_iff_eq.2 (by omega)) ?_
 refine xN fun b13 => ?_
 refine xF (ctlGen (A.ws.getD (ctlAt c nu).toNat 0)==0) (beq_eq_false_iff_ne.2 (by omega)) ?_
 refine xTn (xT:=95) (v:=Value.pointer (some {block:=(g 11).b,off:=0})) taN_249_103 ?_
 exact xR () trivial
theorem r1b(c:Cfg)(k:Ck)(A:Ar)(hc:c.Ok)(hA:ArI A)(nu ep se fa cm ti i w:Int)(ws:List Int)(hp:0≤nu∧nu<c.topics)(he:0≤ctlAt c nu∧ctlAt c nu<A.n)(hw:A.ws.getD (ctlAt c nu).toNat 0=w)(hU:U64 w)(hl:ctlLive w=true)(hep:ctlEpoch w=ep)(hg:ctlGen w=0)(F:Fr)(hF:HF F):
  CtF Tryz.prog F 14 (stV A (clSr c k ⟨⟨nu,ep,1,se,fa,cm,ti,0⟩,ws⟩ 11 12) (A.load (ctlAt c nu)) fun v=>clZ c (k.code 20 (A.steps+1)) v):=by
 subst hw
 have hc':=hc
 simp only [Cfg.Ok] at hc'
 refine cF 75 xqI Tryz.func14 fun g => ?_
 refine xN fun b1 => ?_
 refine xCy [] [] (Tg.n) ⟨[(0,[.i 1,.n,.n,.n,.n,.n,.c]),(1,[]),(2,[.n,.n,.n,.n,.n,.n,.n,.n,.n,.i 3,.n,.n,.n,.n,.i 5,.n,.i 6,.l [Tg.i 11],.l [Tg.l [],Tg.l [Tg.i 13,Tg.i 14]],.n,.n,.i 7,.i 8,.n,.n,.n,.c,.c,.n,.n,.c,.i 9,.n,.i 10]),(3,[.i 4]),(4,[.c,.c,.c,.c,.c,.c]),(5,[]),(6,[]),(9,[]),(10,[]),(11,[.n,.n,.n,.n,.n,.n,.n,.n,.n,.n,.n,.c,.n,.n,.n,.n,.c,.c]),(12,[]),(13,[.i 11]),(14,[.l [Tg.l [],Tg.l [Tg.i 15]]]),(15,[.i 2]),(7,[]),(8,[]),(41,[.c,.c,.c,.c,.c])],82⟩ Tryz.call194 (fun F' h=>(t_Control (c) hc (nu)).fr) fun xn2 n2 hxn2 => ?_
 subst hxn2
 refine xCy [⟨(g 0).b,none,0⟩,⟨0,(g 1).a,(g 1).c⟩] [0,1] (Tg.n) ⟨[(2,[.n,.n,.n,.n,.n,.n,.n,.n,.n,.i 3,.n,.n,.n,.n,.i 5,.n,.i 6,.l [Tg.i 11],.l [Tg.l [],Tg.l [Tg.i 13,Tg.i 14]],.n,.n,.i 7,.i 8,.n,.n,.n,.c,.c,.n,.n,.c,.i 9,.n,.i 10]),(3,[.i 4]),(4,[.c,.c,.c,.c,.c,.c]),(5,[]),(6,[]),(9,[]),(10,[]),(11,[.n,.n,.n,.n,.n,.n,.n,.n,.n,.n,.n,.c,.n,.n,.n,.n,.c,.c]),(12,[]),(13,[.i 11]),(14,[.l [Tg.l [],Tg.l [Tg.i 15]]]),(15,[.i 2]),(7,[]),(8,[]),(41,[.c,.c,.c,.c,.c]),(0,[.i 1,.n,.n,.n,.n,.n,.c]),(1,[])],123⟩ Tryz.call137 (fun F' h=>(t_Load (A) (ctlAt c nu) hA he).fr) fun _ n4 _ => ?_
 refine xCy [⟨(g 0).b,none,0⟩,⟨0,(g 1).a,(g 1).c⟩] [15,16] (Tg.n) ⟨[(2,[.n,.n,.n,.n,.n,.n,.n,.n,.n,.i 3,.n,.n,.n,.n,.i 5,.n,.i 6,.l [Tg.i 11],.l [Tg.l [],Tg.l [Tg.i 13,Tg.i 14]],.n,.n,.i 7,.i 8,.n,.n,.n,.c,.c,.n,.n,.c,.i 9,.n,.i 10]),(3,[.i 4]),(4,[.c,.c,.c,.c,.c,.c]),(5,[]),(6,[]),(9,[]),(10,[]),(11,[.n,.n,.n,.n,.n,.n,.n,.n,.n,.n,.n,.c,.q 123 false,.n,.n,.n,.c,.c]),(12,[]),(13,[.i 11]),(14,[.l [Tg.l [],Tg.l [Tg.i 15]]]),(15,[.i 2]),(7,[]),(8,[]),(41,[.c,.c,.c,.c,.c]),(0,[.i 1,.n,.n,.n,.n,.n,.c]),(1,[])],165⟩ Tryz.call16 (fun F' h=>(t_Steps (A.n) ((A.load (ctlAt c nu)).steps) ((A.load (ctlAt c nu)).lk) ((A.load (ctlAt c nu)).lw) ((A.load (ctlAt c nu)).lv) (false) ((A.load (ctlAt c nu)).ws)).fr) fun _ n7 _ => ?_
 refine xCy [] [] (Tg.l [Tg.n,Tg.n,Tg.n,Tg.n,Tg.n]) ⟨[(2,[.n,.n,.n,.n,.n,.n,.n,.n,.n,.i 3,.n,.n,.n,.n,.i 5,.n,.i 6,.l [Tg.i 11],.l [Tg.l [],Tg.l [Tg.i 13,Tg.i 14]],.n,.n,.i 7,.i 8,.n,.n,.n,.c,.c,.n,.n,.c,.i 9,.n,.i 10]),(3,[.i 4]),(4,[.c,.c,.c,.c,.c,.c]),(5,[]),(6,[]),(9,[]),(10,[]),(11,[.n,.n,.n,.n,.n,.n,.n,.n,.n,.n,.n,.c,.q 123 false,.n,.n,.q 165 false,.c,.c]),(12,[]),(13,[.i 11]),(14,[.l [Tg.l [],Tg.l [Tg.i 15]]]),(15,[.i 2]),(7,[]),(8,[]),(41,[.c,.c,.c,.c,.c]),(0,[.i 1,.n,.n,.n,.n,.n,.c]),(1,[])],207⟩ Tryz.call197 (fun F' h=>(t_Unpack (A.ws.getD (ctlAt c nu).toNat 0) hU).fr) fun _ n11 _ => ?_
 refine xN fun b12 => ?_
 refine xF (!ctlLive (A.ws.getD (ctlAt c nu).toNat 0)) (by rw [hl]; rfl) ?_
 refine xF (ctlEpoch (A.ws.getD (ctlAt c nu).toNat 0) != ep) (bne_eq_false_iff_eq.2 (by omega)) ?_
 refine xN fun b13 => ?_
 refine xT (ctlGen (A.ws.getD (ctlAt c nu).toNat 0)==0) (beq_iff_eq.2 (by omega)) ?_
 refine xTn (xT:=95) (v:=Value.pointer (some {block:=(g 11).b,off:=0})) taN_249_103 ?_
 refine xCy [] [] (Tg.n) ⟨[(2,[.n,.n,.n,.n,.n,.n,.n,.n,.n,.i 3,.n,.n,.n,.n,.i 5,.n,.i 6,.l [Tg.i 11],.l [Tg.l [],Tg.l [Tg.i 13,Tg.i 14]],.n,.n,.i 7,.i 8,.n,.n,.n,.c,.c,.n,.n,.c,.i 9,.n,.i 10]),(3,[.i 4]),(4,[.c,.c,.c,.c,.c,.c]),(5,[]),(6,[]),(9,[]),(10,[]),(11,[.n,.n,.n,.n,.n,.n,.n,.n,.n,.n,.n,.c,.q 123 false,.n,.n,.q 165 false,.l [Tg.c],.c]),(12,[]),(13,[.i 11]),(14,[.l [Tg.l [],Tg.l [Tg.i 15]]]),(15,[.i 2]),(7,[]),(8,[]),(41,(List.replicate 5 .n)),(0,[.i 1,.n,.n,.n,.n,.n,.c]),(1,[]),(207,(List.replicate 5 .n)),(210,(List.replicate 5 .n))],256⟩ Tryz.call209 (fun F' h=>(t_hasE (20)).fr) fun _ n19 _ => ?_
 refine xT (!(20:Int)==(22:Int)) rfl ?_
 refine xCy [] [] (Tg.n) ⟨[(2,[.n,.n,.n,.n,.n,.n,.n,.n,.n,.i 3,.n,.n,.n,.n,.i 5,.n,.i 6,.l [Tg.i 11],.l [Tg.l [],Tg.l [Tg.i 13,Tg.i 14]],.n,.n,.i 7,.i 8,.n,.n,.n,.c,.c,.n,.n,.c,.i 9,.n,.i 10]),(3,[.i 4]),(4,[.c,.c,.c,.c,.c,.c]),(5,[]),(6,[]),(9,[]),(10,[]),(11,[.n,.n,.n,.n,.n,.n,.n,.n,.n,.n,.n,.c,.q 123 false,.n,.n,.q 165 false,.l [Tg.c],.c]),(12,[]),(13,[.i 11]),(14,[.l [Tg.l [],Tg.l [Tg.i 15]]]),(15,[.i 2]),(7,[]),(8,[]),(41,(List.replicate 5 .n)),(0,[.i 1,.n,.n,.n,.n,.n,.c]),(1,[]),(207,(List.replicate 5 .n)),(210,(List.replicate 5 .n))],297⟩ Tryz.call74 (fun F' h=>t_topE (20) F' (hF.mono h)) fun _ n24 _ => ?_
 refine xN fun b25 => ?_
 exact xR (Value.func (Fn.func (172:Nat)) {toList:=[]} {toList:=[Value.pointer (some {block:=(g ((11:Nat)+(2:Nat))).b,off:=(0:Nat)}),Value.pointer (some {block:=(g ((11:Nat)+(3:Nat))).b,off:=(0:Nat)})]}) (by omega)
theorem r1e(c:Cfg)(k:Ck)(A:Ar)(hc:c.Ok)(hA:ArI A)(nu ep se fa cm ti i w:Int)(ws:List Int)(hp:0≤nu∧nu<c.topics)(he:0≤ctlAt c nu∧ctlAt c nu<A.n)(hw:A.ws.getD (ctlAt c nu).toNat 0=w)(hU:U64 w)(hl:ctlLive w=true)(hep:ctlEpoch w≠ep)(hfa:0≤k.failed∧k.failed<100)(hr:k.failed+1≠c.retry)(hs:startC c k.key≠-1):
  Ct Tryz.prog 14 (stS A (clSr c k ⟨⟨nu,ep,1,se,fa,cm,ti,0⟩,ws⟩ 11 12) (A.load (ctlAt c nu)) (clFd c {k with failed:=k.failed+1} (newFnd k.key) 41) .no):=by
 subst hw
 have hc':=hc
 simp only [Cfg.Ok] at hc'
 refine cX 75 xqI Tryz.func14 fun g F => ?_
 refine xN fun b1 => ?_
 refine xCy [] [] (Tg.n) ⟨[(0,[.i 1,.n,.n,.n,.n,.n,.c]),(1,[]),(2,[.n,.n,.n,.n,.n,.n,.n,.n,.n,.i 3,.n,.n,.n,.n,.i 5,.n,.i 6,.l [Tg.i 11],.l [Tg.l [],Tg.l [Tg.i 13,Tg.i 14]],.n,.n,.i 7,.i 8,.n,.n,.n,.c,.c,.n,.n,.c,.i 9,.n,.i 10]),(3,[.i 4]),(4,[.c,.c,.c,.c,.c,.c]),(5,[]),(6,[]),(9,[]),(10,[]),(11,[.n,.n,.n,.n,.n,.n,.n,.n,.n,.n,.n,.c,.n,.n,.n,.n,.c,.c]),(12,[]),(13,[.i 11]),(14,[.l [Tg.l [],Tg.l [Tg.i 15]]]),(15,[.i 2]),(7,[]),(8,[]),(41,[.c,.c,.c,.c,.c])],82⟩ Tryz.call194 (fun F' h=>(t_Control (c) hc (nu)).fr) fun xn2 n2 hxn2 => ?_
 subst hxn2
 refine xCy [⟨(g 0).b,none,0⟩,⟨0,(g 1).a,(g 1).c⟩] [0,1] (Tg.n) ⟨[(2,[.n,.n,.n,.n,.n,.n,.n,.n,.n,.i 3,.n,.n,.n,.n,.i 5,.n,.i 6,.l [Tg.i 11],.l [Tg.l [],Tg.l [Tg.i 13,Tg.i 14]],.n,.n,.i 7,.i 8,.n,.n,.n,.c,.c,.n,.n,.c,.i 9,.n,.i 10]),(3,[.i 4]),(4,[.c,.c,.c,.c,.c,.c]),(5,[]),(6,[]),(9,[]),(10,[]),(11,[.n,.n,.n,.n,.n,.n,.n,.n,.n,.n,.n,.c,.n,.n,.n,.n,.c,.c]),(12,[]),(13,[.i 11]),(14,[.l [Tg.l [],Tg.l [Tg.i 15]]]),(15,[.i 2]),(7,[]),(8,[]),(41,[.c,.c,.c,.c,.c]),(0,[.i 1,.n,.n,.n,.n,.n,.c]),(1,[])],123⟩ Tryz.call137 (fun F' h=>(t_Load (A) (ctlAt c nu) hA he).fr) fun _ n4 _ => ?_
 refine xCy [⟨(g 0).b,none,0⟩,⟨0,(g 1).a,(g 1).c⟩] [15,16] (Tg.n) ⟨[(2,[.n,.n,.n,.n,.n,.n,.n,.n,.n,.i 3,.n,.n,.n,.n,.i 5,.n,.i 6,.l [Tg.i 11],.l [Tg.l [],Tg.l [Tg.i 13,Tg.i 14]],.n,.n,.i 7,.i 8,.n,.n,.n,.c,.c,.n,.n,.c,.i 9,.n,.i 10]),(3,[.i 4]),(4,[.c,.c,.c,.c,.c,.c]),(5,[]),(6,[]),(9,[]),(10,[]),(11,[.n,.n,.n,.n,.n,.n,.n,.n,.n,.n,.n,.c,.q 123 false,.n,.n,.n,.c,.c]),(12,[]),(13,[.i 11]),(14,[.l [Tg.l [],Tg.l [Tg.i 15]]]),(15,[.i 2]),(7,[]),(8,[]),(41,[.c,.c,.c,.c,.c]),(0,[.i 1,.n,.n,.n,.n,.n,.c]),(1,[])],165⟩ Tryz.call16 (fun F' h=>(t_Steps (A.n) ((A.load (ctlAt c nu)).steps) ((A.load (ctlAt c nu)).lk) ((A.load (ctlAt c nu)).lw) ((A.load (ctlAt c nu)).lv) (false) ((A.load (ctlAt c nu)).ws)).fr) fun _ n7 _ => ?_
 refine xCy [] [] (Tg.l [Tg.n,Tg.n,Tg.n,Tg.n,Tg.n]) ⟨[(2,[.n,.n,.n,.n,.n,.n,.n,.n,.n,.i 3,.n,.n,.n,.n,.i 5,.n,.i 6,.l [Tg.i 11],.l [Tg.l [],Tg.l [Tg.i 13,Tg.i 14]],.n,.n,.i 7,.i 8,.n,.n,.n,.c,.c,.n,.n,.c,.i 9,.n,.i 10]),(3,[.i 4]),(4,[.c,.c,.c,.c,.c,.c]),(5,[]),(6,[]),(9,[]),(10,[]),(11,[.n,.n,.n,.n,.n,.n,.n,.n,.n,.n,.n,.c,.q 123 false,.n,.n,.q 165 false,.c,.c]),(12,[]),(13,[.i 11]),(14,[.l [Tg.l [],Tg.l [Tg.i 15]]]),(15,[.i 2]),(7,[]),(8,[]),(41,[.c,.c,.c,.c,.c]),(0,[.i 1,.n,.n,.n,.n,.n,.c]),(1,[])],207⟩ Tryz.call197 (fun F' h=>(t_Unpack (A.ws.getD (ctlAt c nu).toNat 0) hU).fr) fun _ n11 _ => ?_
 refine xN fun b12 => ?_
 refine xF (!ctlLive (A.ws.getD (ctlAt c nu).toNat 0)) (by rw [hl]; rfl) ?_
 refine xT (ctlEpoch (A.ws.getD (ctlAt c nu).toNat 0) != ep) (bne_iff_ne.2 hep) ?_
 refine xN fun b13 => ?_
 refine xTn (xT:=95) (v:=Value.pointer (some {block:=(g 11).b,off:=0})) taN_249_103 ?_
 refine xCy [] [] (Tg.n) ⟨[(2,[.n,.n,.n,.n,.n,.n,.n,.n,.n,.i 3,.n,.n,.n,.n,.i 5,.n,.i 6,.l [Tg.i 11],.l [Tg.l [],Tg.l [Tg.i 13,Tg.i 14]],.n,.n,.i 7,.i 8,.n,.n,.n,.c,.c,.n,.n,.c,.i 9,.n,.i 10]),(3,[.i 4]),(4,[.c,.c,.c,.c,.c,.c]),(5,[]),(6,[]),(9,[]),(10,[]),(11,[.n,.n,.n,.n,.n,.n,.n,.n,.n,.n,.n,.c,.q 123 false,.n,.n,.q 165 false,.l [Tg.c],.c]),(12,[]),(13,[.i 11]),(14,[.l [Tg.l [],Tg.l [Tg.i 15]]]),(15,[.i 2]),(7,[]),(8,[]),(41,(List.replicate 5 .n)),(0,[.i 1,.n,.n,.n,.n,.n,.c]),(1,[]),(207,(List.replicate 5 .n)),(212,(List.replicate 5 .n))],254⟩ Tryz.call209 (fun F' h=>(t_hasE (22)).fr) fun _ n18 _ => ?_
 refine xF (!(22:Int)==(22:Int)) rfl ?_
 refine xO (InK IntKind.i64 (k.failed+1)) (by simp only [InK]; omega) ?_
 refine xF (k.failed+1==c.retry) (by first | (simp; done) | (simp; omega)) ?_
 refine xN fun b19 => ?_
 refine xA ?_ ?_
 ·skip
  refine xN fun b20 => ?_
  refine xCy [] [] (Tg.n) ⟨[(2,[.n,.n,.n,.n,.n,.n,.n,.n,.n,.i 3,.n,.n,.n,.n,.i 5,.n,.i 6,.l [Tg.i 11],.l [Tg.l [],Tg.l [Tg.i 13,Tg.i 14]],.q 256 false,.n,.i 7,.i 8,.n,.n,.n,.c,.c,.n,.n,.c,.i 9,.n,.i 10]),(3,[.i 4]),(4,[.c,.c,.c,.c,.c,.c]),(5,[]),(6,[]),(9,[]),(10,[]),(11,[.n,.n,.n,.n,.n,.n,.n,.n,.n,.n,.n,.c,.q 123 false,.n,.n,.q 165 false,.l [Tg.c],.c]),(12,[]),(13,[.i 11]),(14,[.l [Tg.l [],Tg.l [Tg.i 15]]]),(15,[.i 2]),(7,[]),(8,[]),(41,(List.replicate 5 .n)),(0,[.i 1,.n,.n,.n,.n,.n,.c]),(1,[]),(207,(List.replicate 5 .n)),(212,(List.replicate 5 .n)),(258,[.i 2]),(259,(List.replicate 9 .n))],301⟩ Tryz.call42 (fun F' h=>(t_Start (c) hc (k.key)).fr) fun xn26 n26 hxn26 => ?_
  subst hxn26
  refine xF (startC c k.key == -1) (by first | (simp; done) | (simp; omega)) ?_
  refine xN fun b27 => ?_
  refine xN fun b28 => ?_
  exact xR () trivial
 ·skip
  refine xN fun b29 => ?_
  refine xN fun b30 => ?_
  refine xCy [] [] (Tg.n) ⟨[(2,[.n,.n,.n,.n,.n,.n,.n,.n,.n,.i 3,.n,.n,.n,.n,.i 5,.n,.i 6,.l [Tg.i 11],.l [Tg.l [],Tg.l [Tg.i 13,Tg.i 14]],.q 256 false,.n,.i 7,.i 8,.n,.n,.n,.c,.c,.n,.n,.c,.i 9,.n,.i 10]),(3,[.i 4]),(4,[.c,.c,.c,.c,.c,.c]),(5,[]),(6,[]),(9,[]),(10,[]),(11,[.n,.n,.n,.n,.n,.n,.n,.n,.n,.n,.n,.c,.q 123 false,.n,.n,.q 165 false,.l [Tg.c],.c]),(12,[]),(13,[.i 11]),(14,[.l [Tg.l [],Tg.l [Tg.i 15]]]),(15,[.i 2]),(7,[]),(8,[]),(41,(List.replicate 5 .n)),(0,[.i 1,.n,.n,.n,.n,.n,.c]),(1,[]),(207,(List.replicate 5 .n)),(212,(List.replicate 5 .n)),(258,[.i 2]),(259,[.c]),(260,(List.replicate 9 .n))],302⟩ Tryz.call42 (fun F' h=>(t_Start (c) hc (k.key)).fr) fun xn36 n36 hxn36 => ?_
  subst hxn36
  refine xF (startC c k.key == -1) (by first | (simp; done) | (simp; omega)) ?_
  refine xN fun b37 => ?_
  exact xR () trivial
theorem r1f(c:Cfg)(k:Ck)(A:Ar)(hc:c.Ok)(hA:ArI A)(nu ep se fa cm ti i w:Int)(ws:List Int)(hp:0≤nu∧nu<c.topics)(he:0≤ctlAt c nu∧ctlAt c nu<A.n)(hw:A.ws.getD (ctlAt c nu).toNat 0=w)(hU:U64 w)(hl:ctlLive w=true)(hep:ctlEpoch w≠ep)(hfa:0≤k.failed∧k.failed<100)(hr:k.failed+1=c.retry)(F:Fr)(hF:HF F):
  CtF Tryz.prog F 14 (stV A (clSr c k ⟨⟨nu,ep,1,se,fa,cm,ti,0⟩,ws⟩ 11 12) (A.load (ctlAt c nu)) fun v=>clZ c (({k with failed:=k.failed+1}:Ck).code 17 0) v):=by
 subst hw
 have hc':=hc
 simp only [Cfg.Ok] at hc'
 refine cF 75 xqI Tryz.func14 fun g => ?_
 refine xN fun b1 => ?_
 refine xCy [] [] (Tg.n) ⟨[(0,[.i 1,.n,.n,.n,.n,.n,.c]),(1,[]),(2,[.n,.n,.n,.n,.n,.n,.n,.n,.n,.i 3,.n,.n,.n,.n,.i 5,.n,.i 6,.l [Tg.i 11],.l [Tg.l [],Tg.l [Tg.i 13,Tg.i 14]],.n,.n,.i 7,.i 8,.n,.n,.n,.c,.c,.n,.n,.c,.i 9,.n,.i 10]),(3,[.i 4]),(4,[.c,.c,.c,.c,.c,.c]),(5,[]),(6,[]),(9,[]),(10,[]),(11,[.n,.n,.n,.n,.n,.n,.n,.n,.n,.n,.n,.c,.n,.n,.n,.n,.c,.c]),(12,[]),(13,[.i 11]),(14,[.l [Tg.l [],Tg.l [Tg.i 15]]]),(15,[.i 2]),(7,[]),(8,[]),(41,[.c,.c,.c,.c,.c])],82⟩ Tryz.call194 (fun F' h=>(t_Control (c) hc (nu)).fr) fun xn2 n2 hxn2 => ?_
 subst hxn2
 refine xCy [⟨(g 0).b,none,0⟩,⟨0,(g 1).a,(g 1).c⟩] [0,1] (Tg.n) ⟨[(2,[.n,.n,.n,.n,.n,.n,.n,.n,.n,.i 3,.n,.n,.n,.n,.i 5,.n,.i 6,.l [Tg.i 11],.l [Tg.l [],Tg.l [Tg.i 13,Tg.i 14]],.n,.n,.i 7,.i 8,.n,.n,.n,.c,.c,.n,.n,.c,.i 9,.n,.i 10]),(3,[.i 4]),(4,[.c,.c,.c,.c,.c,.c]),(5,[]),(6,[]),(9,[]),(10,[]),(11,[.n,.n,.n,.n,.n,.n,.n,.n,.n,.n,.n,.c,.n,.n,.n,.n,.c,.c]),(12,[]),(13,[.i 11]),(14,[.l [Tg.l [],Tg.l [Tg.i 15]]]),(15,[.i 2]),(7,[]),(8,[]),(41,[.c,.c,.c,.c,.c]),(0,[.i 1,.n,.n,.n,.n,.n,.c]),(1,[])],123⟩ Tryz.call137 (fun F' h=>(t_Load (A) (ctlAt c nu) hA he).fr) fun _ n4 _ => ?_
 refine xCy [⟨(g 0).b,none,0⟩,⟨0,(g 1).a,(g 1).c⟩] [15,16] (Tg.n) ⟨[(2,[.n,.n,.n,.n,.n,.n,.n,.n,.n,.i 3,.n,.n,.n,.n,.i 5,.n,.i 6,.l [Tg.i 11],.l [Tg.l [],Tg.l [Tg.i 13,Tg.i 14]],.n,.n,.i 7,.i 8,.n,.n,.n,.c,.c,.n,.n,.c,.i 9,.n,.i 10]),(3,[.i 4]),(4,[.c,.c,.c,.c,.c,.c]),(5,[]),(6,[]),(9,[]),(10,[]),(11,[.n,.n,.n,.n,.n,.n,.n,.n,.n,.n,.n,.c,.q 123 false,.n,.n,.n,.c,.c]),(12,[]),(13,[.i 11]),(14,[.l [Tg.l [],Tg.l [Tg.i 15]]]),(15,[.i 2]),(7,[]),(8,[]),(41,[.c,.c,.c,.c,.c]),(0,[.i 1,.n,.n,.n,.n,.n,.c]),(1,[])],165⟩ Tryz.call16 (fun F' h=>(t_Steps (A.n) ((A.load (ctlAt c nu)).steps) ((A.load (ctlAt c nu)).lk) ((A.load (ctlAt c nu)).lw) ((A.load (ctlAt c nu)).lv) (false) ((A.load (ctlAt c nu)).ws)).fr) fun _ n7 _ => ?_
 refine xCy [] [] (Tg.l [Tg.n,Tg.n,Tg.n,Tg.n,Tg.n]) ⟨[(2,[.n,.n,.n,.n,.n,.n,.n,.n,.n,.i 3,.n,.n,.n,.n,.i 5,.n,.i 6,.l [Tg.i 11],.l [Tg.l [],Tg.l [Tg.i 13,Tg.i 14]],.n,.n,.i 7,.i 8,.n,.n,.n,.c,.c,.n,.n,.c,.i 9,.n,.i 10]),(3,[.i 4]),(4,[.c,.c,.c,.c,.c,.c]),(5,[]),(6,[]),(9,[]),(10,[]),(11,[.n,.n,.n,.n,.n,.n,.n,.n,.n,.n,.n,.c,.q 123 false,.n,.n,.q 165 false,.c,.c]),(12,[]),(13,[.i 11]),(14,[.l [Tg.l [],Tg.l [Tg.i 15]]]),(15,[.i 2]),(7,[]),(8,[]),(41,[.c,.c,.c,.c,.c]),(0,[.i 1,.n,.n,.n,.n,.n,.c]),(1,[])],207⟩ Tryz.call197 (fun F' h=>(t_Unpack (A.ws.getD (ctlAt c nu).toNat 0) hU).fr) fun _ n11 _ => ?_
 refine xN fun b12 => ?_
 refine xF (!ctlLive (A.ws.getD (ctlAt c nu).toNat 0)) (by rw [hl]; rfl) ?_
 refine xT (ctlEpoch (A.ws.getD (ctlAt c nu).toNat 0) != ep) (bne_iff_ne.2 hep) ?_
 refine xN fun b13 => ?_
 refine xTn (xT:=95) (v:=Value.pointer (some {block:=(g 11).b,off:=0})) taN_249_103 ?_
 refine xCy [] [] (Tg.n) ⟨[(2,[.n,.n,.n,.n,.n,.n,.n,.n,.n,.i 3,.n,.n,.n,.n,.i 5,.n,.i 6,.l [Tg.i 11],.l [Tg.l [],Tg.l [Tg.i 13,Tg.i 14]],.n,.n,.i 7,.i 8,.n,.n,.n,.c,.c,.n,.n,.c,.i 9,.n,.i 10]),(3,[.i 4]),(4,[.c,.c,.c,.c,.c,.c]),(5,[]),(6,[]),(9,[]),(10,[]),(11,[.n,.n,.n,.n,.n,.n,.n,.n,.n,.n,.n,.c,.q 123 false,.n,.n,.q 165 false,.l [Tg.c],.c]),(12,[]),(13,[.i 11]),(14,[.l [Tg.l [],Tg.l [Tg.i 15]]]),(15,[.i 2]),(7,[]),(8,[]),(41,(List.replicate 5 .n)),(0,[.i 1,.n,.n,.n,.n,.n,.c]),(1,[]),(207,(List.replicate 5 .n)),(212,(List.replicate 5 .n))],254⟩ Tryz.call209 (fun F' h=>(t_hasE (22)).fr) fun _ n18 _ => ?_
 refine xF (!(22:Int)==(22:Int)) rfl ?_
 refine xO (InK IntKind.i64 (k.failed+1)) (by simp only [InK]; omega) ?_
 refine xT (k.failed+1==c.retry) (by first | (simp; done) | (simp; omega)) ?_
 refine xN fun b19 => ?_
 exact xR (Value.func (Fn.func (172:Nat)) {toList:=[]} {toList:=[Value.pointer (some {block:=(g ((11:Nat)+(2:Nat))).b,off:=(0:Nat)}),Value.pointer (some {block:=(g ((11:Nat)+(3:Nat))).b,off:=(0:Nat)})]}) (by omega)
end Go.Proofs.YtnnoeefjnpcfnaaGreatDoor
/- A client's step: a read has none. -/
set_option maxRecDepth 100000
set_option maxHeartbeats 0
namespace Go.Proofs.YtnnoeefjnpcfnaaGreatDoor
open Go.Sx
theorem r1g(c:Cfg)(k:Ck)(A:Ar)(hc:c.Ok)(hA:ArI A)(nu ep se fa cm ti i w:Int)(ws:List Int)(hp:0≤nu∧nu<c.topics)(he:0≤ctlAt c nu∧ctlAt c nu<A.n)(hw:A.ws.getD (ctlAt c nu).toNat 0=w)(hU:U64 w)(hl:ctlLive w=false)(hfa:0≤k.failed∧k.failed<100)(hr:k.failed+1≠c.retry)(hs:startC c k.key≠-1):
  Ct Tryz.prog 14 (stS A (clSr c k ⟨⟨nu,ep,1,se,fa,cm,ti,0⟩,ws⟩ 11 12) (A.load (ctlAt c nu)) (clFd c {k with failed:=k.failed+1} (newFnd k.key) 41) .no):=by
 subst hw
 have hc':=hc
 simp only [Cfg.Ok] at hc'
 refine cX 75 xqI Tryz.func14 fun g F => ?_
 refine xN fun b1 => ?_
 refine xCy [] [] (Tg.n) ⟨[(0,[.i 1,.n,.n,.n,.n,.n,.c]),(1,[]),(2,[.n,.n,.n,.n,.n,.n,.n,.n,.n,.i 3,.n,.n,.n,.n,.i 5,.n,.i 6,.l [Tg.i 11],.l [Tg.l [],Tg.l [Tg.i 13,Tg.i 14]],.n,.n,.i 7,.i 8,.n,.n,.n,.c,.c,.n,.n,.c,.i 9,.n,.i 10]),(3,[.i 4]),(4,[.c,.c,.c,.c,.c,.c]),(5,[]),(6,[]),(9,[]),(10,[]),(11,[.n,.n,.n,.n,.n,.n,.n,.n,.n,.n,.n,.c,.n,.n,.n,.n,.c,.c]),(12,[]),(13,[.i 11]),(14,[.l [Tg.l [],Tg.l [Tg.i 15]]]),(15,[.i 2]),(7,[]),(8,[]),(41,[.c,.c,.c,.c,.c])],82⟩ Tryz.call194 (fun F' h=>(t_Control (c) hc (nu)).fr) fun xn2 n2 hxn2 => ?_
 subst hxn2
 refine xCy [⟨(g 0).b,none,0⟩,⟨0,(g 1).a,(g 1).c⟩] [0,1] (Tg.n) ⟨[(2,[.n,.n,.n,.n,.n,.n,.n,.n,.n,.i 3,.n,.n,.n,.n,.i 5,.n,.i 6,.l [Tg.i 11],.l [Tg.l [],Tg.l [Tg.i 13,Tg.i 14]],.n,.n,.i 7,.i 8,.n,.n,.n,.c,.c,.n,.n,.c,.i 9,.n,.i 10]),(3,[.i 4]),(4,[.c,.c,.c,.c,.c,.c]),(5,[]),(6,[]),(9,[]),(10,[]),(11,[.n,.n,.n,.n,.n,.n,.n,.n,.n,.n,.n,.c,.n,.n,.n,.n,.c,.c]),(12,[]),(13,[.i 11]),(14,[.l [Tg.l [],Tg.l [Tg.i 15]]]),(15,[.i 2]),(7,[]),(8,[]),(41,[.c,.c,.c,.c,.c]),(0,[.i 1,.n,.n,.n,.n,.n,.c]),(1,[])],123⟩ Tryz.call137 (fun F' h=>(t_Load (A) (ctlAt c nu) hA he).fr) fun _ n4 _ => ?_
 refine xCy [⟨(g 0).b,none,0⟩,⟨0,(g 1).a,(g 1).c⟩] [15,16] (Tg.n) ⟨[(2,[.n,.n,.n,.n,.n,.n,.n,.n,.n,.i 3,.n,.n,.n,.n,.i 5,.n,.i 6,.l [Tg.i 11],.l [Tg.l [],Tg.l [Tg.i 13,Tg.i 14]],.n,.n,.i 7,.i 8,.n,.n,.n,.c,.c,.n,.n,.c,.i 9,.n,.i 10]),(3,[.i 4]),(4,[.c,.c,.c,.c,.c,.c]),(5,[]),(6,[]),(9,[]),(10,[]),(11,[.n,.n,.n,.n,.n,.n,.n,.n,.n,.n,.n,.c,.q 123 false,.n,.n,.n,.c,.c]),(12,[]),(13,[.i 11]),(14,[.l [Tg.l [],Tg.l [Tg.i 15]]]),(15,[.i 2]),(7,[]),(8,[]),(41,[.c,.c,.c,.c,.c]),(0,[.i 1,.n,.n,.n,.n,.n,.c]),(1,[])],165⟩ Tryz.call16 (fun F' h=>(t_Steps (A.n) ((A.load (ctlAt c nu)).steps) ((A.load (ctlAt c nu)).lk) ((A.load (ctlAt c nu)).lw) ((A.load (ctlAt c nu)).lv) (false) ((A.load (ctlAt c nu)).ws)).fr) fun _ n7 _ => ?_
 refine xCy [] [] (Tg.l [Tg.n,Tg.n,Tg.n,Tg.c,Tg.n]) ⟨[(2,[.n,.n,.n,.n,.n,.n,.n,.n,.n,.i 3,.n,.n,.n,.n,.i 5,.n,.i 6,.l [Tg.i 11],.l [Tg.l [],Tg.l [Tg.i 13,Tg.i 14]],.n,.n,.i 7,.i 8,.n,.n,.n,.c,.c,.n,.n,.c,.i 9,.n,.i 10]),(3,[.i 4]),(4,[.c,.c,.c,.c,.c,.c]),(5,[]),(6,[]),(9,[]),(10,[]),(11,[.n,.n,.n,.n,.n,.n,.n,.n,.n,.n,.n,.c,.q 123 false,.n,.n,.q 165 false,.c,.c]),(12,[]),(13,[.i 11]),(14,[.l [Tg.l [],Tg.l [Tg.i 15]]]),(15,[.i 2]),(7,[]),(8,[]),(41,[.c,.c,.c,.c,.c]),(0,[.i 1,.n,.n,.n,.n,.n,.c]),(1,[])],207⟩ Tryz.call197 (fun F' h=>(t_UnpackN (A.ws.getD (ctlAt c nu).toNat 0) hU (by omega)).fr) fun _ n11 _ => ?_
 refine xN fun b12 => ?_
 refine xN fun b13 => ?_
 refine xTn (xT:=95) (v:=Value.pointer (some {block:=(g 11).b,off:=0})) taN_249_103 ?_
 refine xCy [] [] (Tg.n) ⟨[(2,[.n,.n,.n,.n,.n,.n,.n,.n,.n,.i 3,.n,.n,.n,.n,.i 5,.n,.i 6,.l [Tg.i 11],.l [Tg.l [],Tg.l [Tg.i 13,Tg.i 14]],.n,.n,.i 7,.i 8,.n,.n,.n,.c,.c,.n,.n,.c,.i 9,.n,.i 10]),(3,[.i 4]),(4,[.c,.c,.c,.c,.c,.c]),(5,[]),(6,[]),(9,[]),(10,[]),(11,[.n,.n,.n,.n,.n,.n,.n,.n,.n,.n,.n,.c,.q 123 false,.n,.n,.q 165 false,.l [Tg.c],.c]),(12,[]),(13,[.i 11]),(14,[.l [Tg.l [],Tg.l [Tg.i 15]]]),(15,[.i 2]),(7,[]),(8,[]),(41,[.n,.n,.n,.c,.n]),(0,[.i 1,.n,.n,.n,.n,.n,.c]),(1,[]),(207,[.n,.n,.n,.c,.n]),(212,[.n,.n,.n,.c,.n])],254⟩ Tryz.call209 (fun F' h=>(t_hasE (22)).fr) fun _ n18 _ => ?_
 refine xF (!(22:Int)==(22:Int)) rfl ?_
 refine xO (InK IntKind.i64 (k.failed+1)) (by simp only [InK]; omega) ?_
 refine xF (k.failed+1==c.retry) (by first | (simp; done) | (simp; omega)) ?_
 refine xN fun b19 => ?_
 refine xA ?_ ?_
 ·skip
  refine xN fun b20 => ?_
  refine xCy [] [] (Tg.n) ⟨[(2,[.n,.n,.n,.n,.n,.n,.n,.n,.n,.i 3,.n,.n,.n,.n,.i 5,.n,.i 6,.l [Tg.i 11],.l [Tg.l [],Tg.l [Tg.i 13,Tg.i 14]],.q 256 false,.n,.i 7,.i 8,.n,.n,.n,.c,.c,.n,.n,.c,.i 9,.n,.i 10]),(3,[.i 4]),(4,[.c,.c,.c,.c,.c,.c]),(5,[]),(6,[]),(9,[]),(10,[]),(11,[.n,.n,.n,.n,.n,.n,.n,.n,.n,.n,.n,.c,.q 123 false,.n,.n,.q 165 false,.l [Tg.c],.c]),(12,[]),(13,[.i 11]),(14,[.l [Tg.l [],Tg.l [Tg.i 15]]]),(15,[.i 2]),(7,[]),(8,[]),(41,[.n,.n,.n,.c,.n]),(0,[.i 1,.n,.n,.n,.n,.n,.c]),(1,[]),(207,[.n,.n,.n,.c,.n]),(212,[.n,.n,.n,.c,.n]),(258,[.i 2]),(259,(List.replicate 9 .n))],301⟩ Tryz.call42 (fun F' h=>(t_Start (c) hc (k.key)).fr) fun xn26 n26 hxn26 => ?_
  subst hxn26
  refine xF (startC c k.key == -1) (by first | (simp; done) | (simp; omega)) ?_
  refine xN fun b27 => ?_
  refine xN fun b28 => ?_
  exact xR () trivial
 ·skip
  refine xN fun b29 => ?_
  refine xN fun b30 => ?_
  refine xCy [] [] (Tg.n) ⟨[(2,[.n,.n,.n,.n,.n,.n,.n,.n,.n,.i 3,.n,.n,.n,.n,.i 5,.n,.i 6,.l [Tg.i 11],.l [Tg.l [],Tg.l [Tg.i 13,Tg.i 14]],.q 256 false,.n,.i 7,.i 8,.n,.n,.n,.c,.c,.n,.n,.c,.i 9,.n,.i 10]),(3,[.i 4]),(4,[.c,.c,.c,.c,.c,.c]),(5,[]),(6,[]),(9,[]),(10,[]),(11,[.n,.n,.n,.n,.n,.n,.n,.n,.n,.n,.n,.c,.q 123 false,.n,.n,.q 165 false,.l [Tg.c],.c]),(12,[]),(13,[.i 11]),(14,[.l [Tg.l [],Tg.l [Tg.i 15]]]),(15,[.i 2]),(7,[]),(8,[]),(41,[.n,.n,.n,.c,.n]),(0,[.i 1,.n,.n,.n,.n,.n,.c]),(1,[]),(207,[.n,.n,.n,.c,.n]),(212,[.n,.n,.n,.c,.n]),(258,[.i 2]),(259,[.c]),(260,(List.replicate 9 .n))],302⟩ Tryz.call42 (fun F' h=>(t_Start (c) hc (k.key)).fr) fun xn36 n36 hxn36 => ?_
  subst hxn36
  refine xF (startC c k.key == -1) (by first | (simp; done) | (simp; omega)) ?_
  refine xN fun b37 => ?_
  exact xR () trivial
theorem r1h(c:Cfg)(k:Ck)(A:Ar)(hc:c.Ok)(hA:ArI A)(nu ep se fa cm ti i w:Int)(ws:List Int)(hp:0≤nu∧nu<c.topics)(he:0≤ctlAt c nu∧ctlAt c nu<A.n)(hw:A.ws.getD (ctlAt c nu).toNat 0=w)(hU:U64 w)(hl:ctlLive w=false)(hfa:0≤k.failed∧k.failed<100)(hr:k.failed+1=c.retry)(F:Fr)(hF:HF F):
  CtF Tryz.prog F 14 (stV A (clSr c k ⟨⟨nu,ep,1,se,fa,cm,ti,0⟩,ws⟩ 11 12) (A.load (ctlAt c nu)) fun v=>clZ c (({k with failed:=k.failed+1}:Ck).code 17 0) v):=by
 subst hw
 have hc':=hc
 simp only [Cfg.Ok] at hc'
 refine cF 75 xqI Tryz.func14 fun g => ?_
 refine xN fun b1 => ?_
 refine xCy [] [] (Tg.n) ⟨[(0,[.i 1,.n,.n,.n,.n,.n,.c]),(1,[]),(2,[.n,.n,.n,.n,.n,.n,.n,.n,.n,.i 3,.n,.n,.n,.n,.i 5,.n,.i 6,.l [Tg.i 11],.l [Tg.l [],Tg.l [Tg.i 13,Tg.i 14]],.n,.n,.i 7,.i 8,.n,.n,.n,.c,.c,.n,.n,.c,.i 9,.n,.i 10]),(3,[.i 4]),(4,[.c,.c,.c,.c,.c,.c]),(5,[]),(6,[]),(9,[]),(10,[]),(11,[.n,.n,.n,.n,.n,.n,.n,.n,.n,.n,.n,.c,.n,.n,.n,.n,.c,.c]),(12,[]),(13,[.i 11]),(14,[.l [Tg.l [],Tg.l [Tg.i 15]]]),(15,[.i 2]),(7,[]),(8,[]),(41,[.c,.c,.c,.c,.c])],82⟩ Tryz.call194 (fun F' h=>(t_Control (c) hc (nu)).fr) fun xn2 n2 hxn2 => ?_
 subst hxn2
 refine xCy [⟨(g 0).b,none,0⟩,⟨0,(g 1).a,(g 1).c⟩] [0,1] (Tg.n) ⟨[(2,[.n,.n,.n,.n,.n,.n,.n,.n,.n,.i 3,.n,.n,.n,.n,.i 5,.n,.i 6,.l [Tg.i 11],.l [Tg.l [],Tg.l [Tg.i 13,Tg.i 14]],.n,.n,.i 7,.i 8,.n,.n,.n,.c,.c,.n,.n,.c,.i 9,.n,.i 10]),(3,[.i 4]),(4,[.c,.c,.c,.c,.c,.c]),(5,[]),(6,[]),(9,[]),(10,[]),(11,[.n,.n,.n,.n,.n,.n,.n,.n,.n,.n,.n,.c,.n,.n,.n,.n,.c,.c]),(12,[]),(13,[.i 11]),(14,[.l [Tg.l [],Tg.l [Tg.i 15]]]),(15,[.i 2]),(7,[]),(8,[]),(41,[.c,.c,.c,.c,.c]),(0,[.i 1,.n,.n,.n,.n,.n,.c]),(1,[])],123⟩ Tryz.call137 (fun F' h=>(t_Load (A) (ctlAt c nu) hA he).fr) fun _ n4 _ => ?_
 refine xCy [⟨(g 0).b,none,0⟩,⟨0,(g 1).a,(g 1).c⟩] [15,16] (Tg.n) ⟨[(2,[.n,.n,.n,.n,.n,.n,.n,.n,.n,.i 3,.n,.n,.n,.n,.i 5,.n,.i 6,.l [Tg.i 11],.l [Tg.l [],Tg.l [Tg.i 13,Tg.i 14]],.n,.n,.i 7,.i 8,.n,.n,.n,.c,.c,.n,.n,.c,.i 9,.n,.i 10]),(3,[.i 4]),(4,[.c,.c,.c,.c,.c,.c]),(5,[]),(6,[]),(9,[]),(10,[]),(11,[.n,.n,.n,.n,.n,.n,.n,.n,.n,.n,.n,.c,.q 123 false,.n,.n,.n,.c,.c]),(12,[]),(13,[.i 11]),(14,[.l [Tg.l [],Tg.l [Tg.i 15]]]),(15,[.i 2]),(7,[]),(8,[]),(41,[.c,.c,.c,.c,.c]),(0,[.i 1,.n,.n,.n,.n,.n,.c]),(1,[])],165⟩ Tryz.call16 (fun F' h=>(t_Steps (A.n) ((A.load (ctlAt c nu)).steps) ((A.load (ctlAt c nu)).lk) ((A.load (ctlAt c nu)).lw) ((A.load (ctlAt c nu)).lv) (false) ((A.load (ctlAt c nu)).ws)).fr) fun _ n7 _ => ?_
 refine xCy [] [] (Tg.l [Tg.n,Tg.n,Tg.n,Tg.c,Tg.n]) ⟨[(2,[.n,.n,.n,.n,.n,.n,.n,.n,.n,.i 3,.n,.n,.n,.n,.i 5,.n,.i 6,.l [Tg.i 11],.l [Tg.l [],Tg.l [Tg.i 13,Tg.i 14]],.n,.n,.i 7,.i 8,.n,.n,.n,.c,.c,.n,.n,.c,.i 9,.n,.i 10]),(3,[.i 4]),(4,[.c,.c,.c,.c,.c,.c]),(5,[]),(6,[]),(9,[]),(10,[]),(11,[.n,.n,.n,.n,.n,.n,.n,.n,.n,.n,.n,.c,.q 123 false,.n,.n,.q 165 false,.c,.c]),(12,[]),(13,[.i 11]),(14,[.l [Tg.l [],Tg.l [Tg.i 15]]]),(15,[.i 2]),(7,[]),(8,[]),(41,[.c,.c,.c,.c,.c]),(0,[.i 1,.n,.n,.n,.n,.n,.c]),(1,[])],207⟩ Tryz.call197 (fun F' h=>(t_UnpackN (A.ws.getD (ctlAt c nu).toNat 0) hU (by omega)).fr) fun _ n11 _ => ?_
 refine xN fun b12 => ?_
 refine xN fun b13 => ?_
 refine xTn (xT:=95) (v:=Value.pointer (some {block:=(g 11).b,off:=0})) taN_249_103 ?_
 refine xCy [] [] (Tg.n) ⟨[(2,[.n,.n,.n,.n,.n,.n,.n,.n,.n,.i 3,.n,.n,.n,.n,.i 5,.n,.i 6,.l [Tg.i 11],.l [Tg.l [],Tg.l [Tg.i 13,Tg.i 14]],.n,.n,.i 7,.i 8,.n,.n,.n,.c,.c,.n,.n,.c,.i 9,.n,.i 10]),(3,[.i 4]),(4,[.c,.c,.c,.c,.c,.c]),(5,[]),(6,[]),(9,[]),(10,[]),(11,[.n,.n,.n,.n,.n,.n,.n,.n,.n,.n,.n,.c,.q 123 false,.n,.n,.q 165 false,.l [Tg.c],.c]),(12,[]),(13,[.i 11]),(14,[.l [Tg.l [],Tg.l [Tg.i 15]]]),(15,[.i 2]),(7,[]),(8,[]),(41,[.n,.n,.n,.c,.n]),(0,[.i 1,.n,.n,.n,.n,.n,.c]),(1,[]),(207,[.n,.n,.n,.c,.n]),(212,[.n,.n,.n,.c,.n])],254⟩ Tryz.call209 (fun F' h=>(t_hasE (22)).fr) fun _ n18 _ => ?_
 refine xF (!(22:Int)==(22:Int)) rfl ?_
 refine xO (InK IntKind.i64 (k.failed+1)) (by simp only [InK]; omega) ?_
 refine xT (k.failed+1==c.retry) (by first | (simp; done) | (simp; omega)) ?_
 refine xN fun b19 => ?_
 exact xR (Value.func (Fn.func (172:Nat)) {toList:=[]} {toList:=[Value.pointer (some {block:=(g ((11:Nat)+(2:Nat))).b,off:=(0:Nat)}),Value.pointer (some {block:=(g ((11:Nat)+(3:Nat))).b,off:=(0:Nat)})]}) (by omega)
end Go.Proofs.YtnnoeefjnpcfnaaGreatDoor
/- A client's step: a read reads. -/
set_option maxRecDepth 100000
set_option maxHeartbeats 0
namespace Go.Proofs.YtnnoeefjnpcfnaaGreatDoor
open Go.Sx
theorem r3a(c:Cfg)(k:Ck)(A:Ar)(hc:c.Ok)(hA:ArI A)(nu ep se fa cm ti i w:Int)(ws:List Int)(at_:Int)(hU:U64 se)(hp:0≤nu∧nu<c.topics)(hb:bufAt c nu ((ctlGen se).tmod 2)=at_)(hat:0≤at_∧at_≤4000)(ha:at_+(ws.length:Int)<A.n)(hl:(ws.length:Int)≤1000)(hw:A.ws.getD (at_+(ws.length:Int)).toNat 0=w)(hr:(ws.length:Int)+1≠c.small):
  Ct Tryz.prog 14 (stS A (clSr c k ⟨⟨nu,ep,3,se,fa,cm,ti,0⟩,ws⟩ 11 12) (A.load (at_+(ws.length:Int))) (clSr c k ⟨⟨nu,ep,3,se,fa,cm,ti,0⟩,ws++[w]⟩ 11 42) .no):=by
 subst hw
 subst hb
 have hg:=ctl_rng hU
 refine cX 75 xqI Tryz.func14 fun g F => ?_
 refine xCy [] [] (Tg.l [Tg.n,Tg.n,Tg.n,Tg.n,Tg.n]) ⟨[(0,[.i 1,.n,.n,.n,.n,.n,.c]),(1,[]),(2,[.n,.n,.n,.n,.n,.n,.n,.n,.n,.i 3,.n,.n,.n,.n,.i 5,.n,.i 6,.l [Tg.i 11],.l [Tg.l [],Tg.l [Tg.i 13,Tg.i 14]],.n,.n,.i 7,.i 8,.n,.n,.n,.c,.c,.n,.n,.c,.i 9,.n,.i 10]),(3,[.i 4]),(4,[.c,.c,.c,.c,.c,.c]),(5,[]),(6,[]),(9,[]),(10,[]),(11,[.n,.n,.n,.n,.n,.n,.n,.n,.n,.n,.n,.c,.n,.n,.n,.n,.c,.i 12]),(12,[]),(13,[.i 11]),(14,[.l [Tg.l [],Tg.l [Tg.i 15]]]),(15,[.i 2]),(7,[]),(8,[])],81⟩ Tryz.call197 (fun F' h=>(t_Unpack (se) hU).fr) fun _ n1 _ => ?_
 refine xO ((2:Int)≠(0:Int)) (by omega) ?_
 refine xCy [] [] (Tg.n) ⟨[(0,[.i 1,.n,.n,.n,.n,.n,.c]),(1,[]),(2,[.n,.n,.n,.n,.n,.n,.n,.n,.n,.i 3,.n,.n,.n,.n,.i 5,.n,.i 6,.l [Tg.i 11],.l [Tg.l [],Tg.l [Tg.i 13,Tg.i 14]],.n,.n,.i 7,.i 8,.n,.n,.n,.c,.c,.n,.n,.c,.i 9,.n,.i 10]),(3,[.i 4]),(4,[.c,.c,.c,.c,.c,.c]),(5,[]),(6,[]),(9,[]),(10,[]),(11,[.n,.n,.n,.n,.n,.n,.n,.n,.n,.n,.n,.c,.n,.n,.n,.n,.c,.i 12]),(12,[]),(13,[.i 11]),(14,[.l [Tg.l [],Tg.l [Tg.i 15]]]),(15,[.i 2]),(7,[]),(8,[])],122⟩ Tryz.call369 (fun F' h=>(t_Buffer (c) hc (nu) ((ctlGen se).tmod (2:Int))).fr) fun xn3 n3 hxn3 => ?_
 subst hxn3
 refine xO (InK IntKind.i64 (bufAt c nu ((ctlGen se).tmod (2:Int))+(↑ws.length:Int))) (by simp only [InK]; omega) ?_
 refine xCy [⟨(g 0).b,none,0⟩,⟨0,(g 1).a,(g 1).c⟩] [0,1] (Tg.n) ⟨[(2,[.n,.n,.n,.n,.n,.n,.n,.n,.n,.i 3,.n,.n,.n,.n,.i 5,.n,.i 6,.l [Tg.i 11],.l [Tg.l [],Tg.l [Tg.i 13,Tg.i 14]],.n,.n,.i 7,.i 8,.n,.n,.n,.c,.c,.n,.n,.c,.i 9,.n,.i 10]),(3,[.i 4]),(4,[.c,.c,.c,.c,.c,.c]),(5,[]),(6,[]),(9,[]),(10,[]),(11,[.n,.n,.n,.n,.n,.n,.n,.n,.n,.n,.n,.c,.n,.n,.n,.n,.c,.i 12]),(12,[]),(13,[.i 11]),(14,[.l [Tg.l [],Tg.l [Tg.i 15]]]),(15,[.i 2]),(7,[]),(8,[]),(0,[.i 1,.n,.n,.n,.n,.n,.c]),(1,[])],163⟩ Tryz.call137 (fun F' h=>(t_Load (A) (bufAt c nu ((ctlGen se).tmod (2:Int))+(↑ws.length:Int)) hA (by omega)).fr) fun _ n6 _ => ?_
 refine xN fun b7 => ?_
 refine xAp 8 ((g 12).a) ((g 12).c) (encI .u64) 0 1 (ws) 54 [A.ws.getD (bufAt c nu ((ctlGen se).tmod (2:Int))+(↑ws.length:Int)).toNat (0:Int)] (.i 12) (oneI _) 8 (.slice (some ⟨b7,0,none⟩) 1 1) (by first | (simp; done) | (simp; omega)) (fun F=>(src_pts (i:=16) (n:=1) (c:=1) (cs:=cellsOf (encI .u64) [A.ws.getD (bufAt c nu ((ctlGen se).tmod (2:Int))+(↑ws.length:Int)).toNat (0:Int)]) (t:=54) (by kernel_rfl))) (fun a8_ c8_ => ?_)
 refine xF ((↑(ws++[A.ws.getD (bufAt c nu ((ctlGen se).tmod (2:Int))+(↑ws.length:Int)).toNat (0:Int)]).length:Int)==c.small) (by first | (simp; done) | (simp; omega)) ?_
 refine xTn (xT:=95) (v:=Value.pointer (some {block:=(g 11).b,off:=0})) taN_249_103 ?_
 exact xR () trivial
theorem r3b(c:Cfg)(k:Ck)(A:Ar)(hc:c.Ok)(hA:ArI A)(nu ep se fa cm ti i w:Int)(ws:List Int)(at_:Int)(hU:U64 se)(hp:0≤nu∧nu<c.topics)(hb:bufAt c nu ((ctlGen se).tmod 2)=at_)(hat:0≤at_∧at_≤4000)(ha:at_+(ws.length:Int)<A.n)(hl:(ws.length:Int)≤1000)(hw:A.ws.getD (at_+(ws.length:Int)).toNat 0=w)(hr:(ws.length:Int)+1=c.small):
  Ct Tryz.prog 14 (stS A (clSr c k ⟨⟨nu,ep,3,se,fa,cm,ti,0⟩,ws⟩ 11 12) (A.load (at_+(ws.length:Int))) (clSr c k ⟨⟨nu,ep,4,se,fa,cm,ti,0⟩,ws++[w]⟩ 11 42) .no):=by
 subst hw
 subst hb
 have hg:=ctl_rng hU
 refine cX 75 xqI Tryz.func14 fun g F => ?_
 refine xCy [] [] (Tg.l [Tg.n,Tg.n,Tg.n,Tg.n,Tg.n]) ⟨[(0,[.i 1,.n,.n,.n,.n,.n,.c]),(1,[]),(2,[.n,.n,.n,.n,.n,.n,.n,.n,.n,.i 3,.n,.n,.n,.n,.i 5,.n,.i 6,.l [Tg.i 11],.l [Tg.l [],Tg.l [Tg.i 13,Tg.i 14]],.n,.n,.i 7,.i 8,.n,.n,.n,.c,.c,.n,.n,.c,.i 9,.n,.i 10]),(3,[.i 4]),(4,[.c,.c,.c,.c,.c,.c]),(5,[]),(6,[]),(9,[]),(10,[]),(11,[.n,.n,.n,.n,.n,.n,.n,.n,.n,.n,.n,.c,.n,.n,.n,.n,.c,.i 12]),(12,[]),(13,[.i 11]),(14,[.l [Tg.l [],Tg.l [Tg.i 15]]]),(15,[.i 2]),(7,[]),(8,[])],81⟩ Tryz.call197 (fun F' h=>(t_Unpack (se) hU).fr) fun _ n1 _ => ?_
 refine xO ((2:Int)≠(0:Int)) (by omega) ?_
 refine xCy [] [] (Tg.n) ⟨[(0,[.i 1,.n,.n,.n,.n,.n,.c]),(1,[]),(2,[.n,.n,.n,.n,.n,.n,.n,.n,.n,.i 3,.n,.n,.n,.n,.i 5,.n,.i 6,.l [Tg.i 11],.l [Tg.l [],Tg.l [Tg.i 13,Tg.i 14]],.n,.n,.i 7,.i 8,.n,.n,.n,.c,.c,.n,.n,.c,.i 9,.n,.i 10]),(3,[.i 4]),(4,[.c,.c,.c,.c,.c,.c]),(5,[]),(6,[]),(9,[]),(10,[]),(11,[.n,.n,.n,.n,.n,.n,.n,.n,.n,.n,.n,.c,.n,.n,.n,.n,.c,.i 12]),(12,[]),(13,[.i 11]),(14,[.l [Tg.l [],Tg.l [Tg.i 15]]]),(15,[.i 2]),(7,[]),(8,[])],122⟩ Tryz.call369 (fun F' h=>(t_Buffer (c) hc (nu) ((ctlGen se).tmod (2:Int))).fr) fun xn3 n3 hxn3 => ?_
 subst hxn3
 refine xO (InK IntKind.i64 (bufAt c nu ((ctlGen se).tmod (2:Int))+(↑ws.length:Int))) (by simp only [InK]; omega) ?_
 refine xCy [⟨(g 0).b,none,0⟩,⟨0,(g 1).a,(g 1).c⟩] [0,1] (Tg.n) ⟨[(2,[.n,.n,.n,.n,.n,.n,.n,.n,.n,.i 3,.n,.n,.n,.n,.i 5,.n,.i 6,.l [Tg.i 11],.l [Tg.l [],Tg.l [Tg.i 13,Tg.i 14]],.n,.n,.i 7,.i 8,.n,.n,.n,.c,.c,.n,.n,.c,.i 9,.n,.i 10]),(3,[.i 4]),(4,[.c,.c,.c,.c,.c,.c]),(5,[]),(6,[]),(9,[]),(10,[]),(11,[.n,.n,.n,.n,.n,.n,.n,.n,.n,.n,.n,.c,.n,.n,.n,.n,.c,.i 12]),(12,[]),(13,[.i 11]),(14,[.l [Tg.l [],Tg.l [Tg.i 15]]]),(15,[.i 2]),(7,[]),(8,[]),(0,[.i 1,.n,.n,.n,.n,.n,.c]),(1,[])],163⟩ Tryz.call137 (fun F' h=>(t_Load (A) (bufAt c nu ((ctlGen se).tmod (2:Int))+(↑ws.length:Int)) hA (by omega)).fr) fun _ n6 _ => ?_
 refine xN fun b7 => ?_
 refine xAp 8 ((g 12).a) ((g 12).c) (encI .u64) 0 1 (ws) 54 [A.ws.getD (bufAt c nu ((ctlGen se).tmod (2:Int))+(↑ws.length:Int)).toNat (0:Int)] (.i 12) (oneI _) 8 (.slice (some ⟨b7,0,none⟩) 1 1) (by first | (simp; done) | (simp; omega)) (fun F=>(src_pts (i:=16) (n:=1) (c:=1) (cs:=cellsOf (encI .u64) [A.ws.getD (bufAt c nu ((ctlGen se).tmod (2:Int))+(↑ws.length:Int)).toNat (0:Int)]) (t:=54) (by kernel_rfl))) (fun a8_ c8_ => ?_)
 refine xT ((↑(ws++[A.ws.getD (bufAt c nu ((ctlGen se).tmod (2:Int))+(↑ws.length:Int)).toNat (0:Int)]).length:Int)==c.small) (by first | (simp; done) | (simp; omega)) ?_
 refine xTn (xT:=95) (v:=Value.pointer (some {block:=(g 11).b,off:=0})) taN_249_103 ?_
 exact xR () trivial
end Go.Proofs.YtnnoeefjnpcfnaaGreatDoor
/- A client's step: a read closes. -/
set_option maxRecDepth 100000
set_option maxHeartbeats 0
namespace Go.Proofs.YtnnoeefjnpcfnaaGreatDoor
open Go.Sx
theorem r4a(c:Cfg)(k:Ck)(A:Ar)(hc:c.Ok)(hA:ArI A)(nu ep se fa cm ti i w:Int)(ws:List Int)(hp:0≤nu∧nu<c.topics)(he:0≤ctlAt c nu∧ctlAt c nu<A.n)(hU:U64 se)(hw:A.ws.getD (ctlAt c nu).toNat 0=w)(hW:U64 w)(hs:stillW se w=true)(hl:(ws.length:Int)≤1000)(F:Fr)(hF:HF F):
  CtF Tryz.prog F 14 (stV A (clSr c k ⟨⟨nu,ep,4,se,fa,cm,ti,0⟩,ws⟩ 11 12) (A.load (ctlAt c nu)) fun v=>clY 47 c (k.fin ⟨0,ws,[],0,ti⟩) v):=by
 subst hw
 refine cF 75 xqI Tryz.func14 fun g => ?_
 refine xCy [] [] (Tg.n) ⟨[(0,[.i 1,.n,.n,.n,.n,.n,.c]),(1,[]),(2,[.n,.n,.n,.n,.n,.n,.n,.n,.n,.i 3,.n,.n,.n,.n,.i 5,.n,.i 6,.l [Tg.i 11],.l [Tg.l [],Tg.l [Tg.i 13,Tg.i 14]],.n,.n,.i 7,.i 8,.n,.n,.n,.c,.c,.n,.n,.c,.i 9,.n,.i 10]),(3,[.i 4]),(4,[.c,.c,.c,.c,.c,.c]),(5,[]),(6,[]),(9,[]),(10,[]),(11,[.n,.n,.n,.n,.n,.n,.n,.n,.n,.n,.n,.c,.n,.n,.n,.n,.c,.i 12]),(12,[]),(13,[.i 11]),(14,[.l [Tg.l [],Tg.l [Tg.i 15]]]),(15,[.i 2]),(7,[]),(8,[])],80⟩ Tryz.call194 (fun F' h=>(t_Control (c) hc (nu)).fr) fun xn1 n1 hxn1 => ?_
 subst hxn1
 refine xCy [⟨(g 0).b,none,0⟩,⟨0,(g 1).a,(g 1).c⟩] [0,1] (Tg.n) ⟨[(2,[.n,.n,.n,.n,.n,.n,.n,.n,.n,.i 3,.n,.n,.n,.n,.i 5,.n,.i 6,.l [Tg.i 11],.l [Tg.l [],Tg.l [Tg.i 13,Tg.i 14]],.n,.n,.i 7,.i 8,.n,.n,.n,.c,.c,.n,.n,.c,.i 9,.n,.i 10]),(3,[.i 4]),(4,[.c,.c,.c,.c,.c,.c]),(5,[]),(6,[]),(9,[]),(10,[]),(11,[.n,.n,.n,.n,.n,.n,.n,.n,.n,.n,.n,.c,.n,.n,.n,.n,.c,.i 12]),(12,[]),(13,[.i 11]),(14,[.l [Tg.l [],Tg.l [Tg.i 15]]]),(15,[.i 2]),(7,[]),(8,[]),(0,[.i 1,.n,.n,.n,.n,.n,.c]),(1,[])],121⟩ Tryz.call137 (fun F' h=>(t_Load (A) (ctlAt c nu) hA he).fr) fun _ n3 _ => ?_
 refine xCy [] [] (Tg.n) ⟨[(2,[.n,.n,.n,.n,.n,.n,.n,.n,.n,.i 3,.n,.n,.n,.n,.i 5,.n,.i 6,.l [Tg.i 11],.l [Tg.l [],Tg.l [Tg.i 13,Tg.i 14]],.n,.n,.i 7,.i 8,.n,.n,.n,.c,.c,.n,.n,.c,.i 9,.n,.i 10]),(3,[.i 4]),(4,[.c,.c,.c,.c,.c,.c]),(5,[]),(6,[]),(9,[]),(10,[]),(11,[.n,.n,.n,.n,.n,.n,.n,.n,.n,.n,.n,.c,.n,.n,.n,.n,.c,.i 12]),(12,[]),(13,[.i 11]),(14,[.l [Tg.l [],Tg.l [Tg.i 15]]]),(15,[.i 2]),(7,[]),(8,[]),(0,[.i 1,.n,.n,.n,.n,.n,.c]),(1,[])],162⟩ Tryz.call374 (fun F' h=>(t_Still (se) (A.ws.getD (ctlAt c nu).toNat 0) hU hW).fr) fun xn6 n6 hxn6 => ?_
 subst hxn6
 refine xT (stillW se (A.ws.getD (ctlAt c nu).toNat 0)) (by assumption) ?_
 refine xTn (xT:=95) (v:=Value.pointer (some {block:=(g 11).b,off:=0})) taN_249_103 ?_
 refine xCy [⟨0,(g 12).a,(g 12).c⟩] [8] (Tg.i 165) ⟨[(2,[.n,.n,.n,.n,.n,.n,.n,.n,.n,.i 3,.n,.n,.n,.n,.i 5,.n,.i 6,.l [Tg.i 11],.l [Tg.l [],Tg.l [Tg.i 13,Tg.i 14]],.n,.n,.i 7,.i 8,.n,.n,.n,.c,.c,.n,.n,.c,.i 9,.n,.i 10]),(3,[.i 4]),(4,[.c,.c,.c,.c,.c,.c]),(5,[]),(6,[]),(9,[]),(10,[]),(11,[.n,.n,.n,.n,.n,.n,.n,.n,.n,.n,.n,.c,.n,.n,.n,.n,.c,.i 12]),(13,[.i 11]),(14,[.l [Tg.l [],Tg.l [Tg.i 15]]]),(15,[.i 2]),(7,[]),(8,[]),(0,[.i 1,.n,.n,.n,.n,.n,.c]),(1,[]),(12,[]),(165,[])],205⟩ Tryz.call51 (fun F' h=>(t_cloneU (ws) (by omega)).fr) fun _ n10 _ => ?_
 refine xCy [] [] (Tg.c) ⟨[(2,[.n,.n,.n,.n,.n,.n,.n,.n,.n,.i 3,.n,.n,.n,.n,.i 5,.n,.i 6,.l [Tg.i 11],.l [Tg.l [],Tg.l [Tg.i 13,Tg.i 14]],.n,.n,.i 7,.i 8,.n,.n,.n,.c,.c,.n,.n,.c,.i 9,.n,.i 10]),(3,[.i 4]),(4,[.c,.c,.c,.c,.c,.c]),(5,[]),(6,[]),(9,[]),(10,[]),(11,[.n,.n,.n,.n,.n,.n,.n,.n,.n,.n,.n,.c,.n,.n,.n,.n,.c,.i 12]),(13,[.i 11]),(14,[.l [Tg.l [],Tg.l [Tg.i 15]]]),(15,[.i 2]),(7,[]),(8,[]),(0,[.i 1,.n,.n,.n,.n,.n,.c]),(1,[]),(12,[]),(165,[])],246⟩ Tryz.call209 (fun F' h=>(t_has0).fr) fun _ n15 _ => ?_
 refine xCy [] [] (Tg.c) ⟨[(2,[.n,.n,.n,.n,.n,.n,.n,.n,.n,.i 3,.n,.n,.n,.n,.i 5,.n,.i 6,.l [Tg.i 11],.l [Tg.l [],Tg.l [Tg.i 13,Tg.i 14]],.n,.n,.i 7,.i 8,.n,.n,.n,.c,.c,.n,.n,.c,.i 9,.n,.i 10]),(3,[.i 4]),(4,[.c,.c,.c,.c,.c,.c]),(5,[]),(6,[]),(9,[]),(10,[]),(11,[.n,.n,.n,.n,.n,.n,.n,.n,.n,.n,.n,.c,.n,.n,.n,.n,.c,.i 12]),(13,[.i 11]),(14,[.l [Tg.l [],Tg.l [Tg.i 15]]]),(15,[.i 2]),(7,[]),(8,[]),(0,[.i 1,.n,.n,.n,.n,.n,.c]),(1,[]),(12,[]),(165,[])],286⟩ Tryz.call74 (fun F' h=>(t_top0).fr) fun _ n21 _ => ?_
 refine xN fun b22 => ?_
 exact xR (Value.func (Fn.func (172:Nat)) {toList:=[]} {toList:=[Value.pointer (some {block:=(g ((11:Nat)+(2:Nat))).b,off:=(0:Nat)}),Value.pointer (some {block:=(g ((11:Nat)+(3:Nat))).b,off:=(0:Nat)})]}) (by omega)
theorem r4b(c:Cfg)(k:Ck)(A:Ar)(hc:c.Ok)(hA:ArI A)(nu ep se fa cm ti i w:Int)(ws:List Int)(hp:0≤nu∧nu<c.topics)(he:0≤ctlAt c nu∧ctlAt c nu<A.n)(hU:U64 se)(hw:A.ws.getD (ctlAt c nu).toNat 0=w)(hW:U64 w)(hs:stillW se w=false)(hf:0≤fa∧fa<100)(hr:fa+1≠c.retry):
  Ct Tryz.prog 14 (stS A (clSr c k ⟨⟨nu,ep,4,se,fa,cm,ti,0⟩,ws⟩ 11 12) (A.load (ctlAt c nu)) (clSr c k ⟨⟨nu,ep,1,se,fa+1,cm,ti,0⟩,ws⟩ 11 12) .no):=by
 subst hw
 refine cX 75 xqI Tryz.func14 fun g F => ?_
 refine xCy [] [] (Tg.n) ⟨[(0,[.i 1,.n,.n,.n,.n,.n,.c]),(1,[]),(2,[.n,.n,.n,.n,.n,.n,.n,.n,.n,.i 3,.n,.n,.n,.n,.i 5,.n,.i 6,.l [Tg.i 11],.l [Tg.l [],Tg.l [Tg.i 13,Tg.i 14]],.n,.n,.i 7,.i 8,.n,.n,.n,.c,.c,.n,.n,.c,.i 9,.n,.i 10]),(3,[.i 4]),(4,[.c,.c,.c,.c,.c,.c]),(5,[]),(6,[]),(9,[]),(10,[]),(11,[.n,.n,.n,.n,.n,.n,.n,.n,.n,.n,.n,.c,.n,.n,.n,.n,.c,.i 12]),(12,[]),(13,[.i 11]),(14,[.l [Tg.l [],Tg.l [Tg.i 15]]]),(15,[.i 2]),(7,[]),(8,[])],80⟩ Tryz.call194 (fun F' h=>(t_Control (c) hc (nu)).fr) fun xn1 n1 hxn1 => ?_
 subst hxn1
 refine xCy [⟨(g 0).b,none,0⟩,⟨0,(g 1).a,(g 1).c⟩] [0,1] (Tg.n) ⟨[(2,[.n,.n,.n,.n,.n,.n,.n,.n,.n,.i 3,.n,.n,.n,.n,.i 5,.n,.i 6,.l [Tg.i 11],.l [Tg.l [],Tg.l [Tg.i 13,Tg.i 14]],.n,.n,.i 7,.i 8,.n,.n,.n,.c,.c,.n,.n,.c,.i 9,.n,.i 10]),(3,[.i 4]),(4,[.c,.c,.c,.c,.c,.c]),(5,[]),(6,[]),(9,[]),(10,[]),(11,[.n,.n,.n,.n,.n,.n,.n,.n,.n,.n,.n,.c,.n,.n,.n,.n,.c,.i 12]),(12,[]),(13,[.i 11]),(14,[.l [Tg.l [],Tg.l [Tg.i 15]]]),(15,[.i 2]),(7,[]),(8,[]),(0,[.i 1,.n,.n,.n,.n,.n,.c]),(1,[])],121⟩ Tryz.call137 (fun F' h=>(t_Load (A) (ctlAt c nu) hA he).fr) fun _ n3 _ => ?_
 refine xCy [] [] (Tg.n) ⟨[(2,[.n,.n,.n,.n,.n,.n,.n,.n,.n,.i 3,.n,.n,.n,.n,.i 5,.n,.i 6,.l [Tg.i 11],.l [Tg.l [],Tg.l [Tg.i 13,Tg.i 14]],.n,.n,.i 7,.i 8,.n,.n,.n,.c,.c,.n,.n,.c,.i 9,.n,.i 10]),(3,[.i 4]),(4,[.c,.c,.c,.c,.c,.c]),(5,[]),(6,[]),(9,[]),(10,[]),(11,[.n,.n,.n,.n,.n,.n,.n,.n,.n,.n,.n,.c,.n,.n,.n,.n,.c,.i 12]),(12,[]),(13,[.i 11]),(14,[.l [Tg.l [],Tg.l [Tg.i 15]]]),(15,[.i 2]),(7,[]),(8,[]),(0,[.i 1,.n,.n,.n,.n,.n,.c]),(1,[])],162⟩ Tryz.call374 (fun F' h=>(t_Still (se) (A.ws.getD (ctlAt c nu).toNat 0) hU hW).fr) fun xn6 n6 hxn6 => ?_
 subst hxn6
 refine xF (stillW se (A.ws.getD (ctlAt c nu).toNat 0)) (by assumption) ?_
 refine xO (InK IntKind.i64 (fa+1)) (by simp only [InK]; omega) ?_
 refine xF (fa+1==c.retry) (by first | (simp; done) | (simp; omega)) ?_
 refine xTn (xT:=95) (v:=Value.pointer (some {block:=(g 11).b,off:=0})) taN_249_103 ?_
 exact xR () trivial
theorem r4c(c:Cfg)(k:Ck)(A:Ar)(hc:c.Ok)(hA:ArI A)(nu ep se fa cm ti i w:Int)(ws:List Int)(hp:0≤nu∧nu<c.topics)(he:0≤ctlAt c nu∧ctlAt c nu<A.n)(hU:U64 se)(hw:A.ws.getD (ctlAt c nu).toNat 0=w)(hW:U64 w)(hs:stillW se w=false)(hf:0≤fa∧fa<100)(hr:fa+1=c.retry)(F:Fr)(hF:HF F):
  CtF Tryz.prog F 14 (stV A (clSr c k ⟨⟨nu,ep,4,se,fa,cm,ti,0⟩,ws⟩ 11 12) (A.load (ctlAt c nu)) fun v=>clZ c (k.code 17 ti) v):=by
 subst hw
 refine cF 75 xqI Tryz.func14 fun g => ?_
 refine xCy [] [] (Tg.n) ⟨[(0,[.i 1,.n,.n,.n,.n,.n,.c]),(1,[]),(2,[.n,.n,.n,.n,.n,.n,.n,.n,.n,.i 3,.n,.n,.n,.n,.i 5,.n,.i 6,.l [Tg.i 11],.l [Tg.l [],Tg.l [Tg.i 13,Tg.i 14]],.n,.n,.i 7,.i 8,.n,.n,.n,.c,.c,.n,.n,.c,.i 9,.n,.i 10]),(3,[.i 4]),(4,[.c,.c,.c,.c,.c,.c]),(5,[]),(6,[]),(9,[]),(10,[]),(11,[.n,.n,.n,.n,.n,.n,.n,.n,.n,.n,.n,.c,.n,.n,.n,.n,.c,.i 12]),(12,[]),(13,[.i 11]),(14,[.l [Tg.l [],Tg.l [Tg.i 15]]]),(15,[.i 2]),(7,[]),(8,[])],80⟩ Tryz.call194 (fun F' h=>(t_Control (c) hc (nu)).fr) fun xn1 n1 hxn1 => ?_
 subst hxn1
 refine xCy [⟨(g 0).b,none,0⟩,⟨0,(g 1).a,(g 1).c⟩] [0,1] (Tg.n) ⟨[(2,[.n,.n,.n,.n,.n,.n,.n,.n,.n,.i 3,.n,.n,.n,.n,.i 5,.n,.i 6,.l [Tg.i 11],.l [Tg.l [],Tg.l [Tg.i 13,Tg.i 14]],.n,.n,.i 7,.i 8,.n,.n,.n,.c,.c,.n,.n,.c,.i 9,.n,.i 10]),(3,[.i 4]),(4,[.c,.c,.c,.c,.c,.c]),(5,[]),(6,[]),(9,[]),(10,[]),(11,[.n,.n,.n,.n,.n,.n,.n,.n,.n,.n,.n,.c,.n,.n,.n,.n,.c,.i 12]),(12,[]),(13,[.i 11]),(14,[.l [Tg.l [],Tg.l [Tg.i 15]]]),(15,[.i 2]),(7,[]),(8,[]),(0,[.i 1,.n,.n,.n,.n,.n,.c]),(1,[])],121⟩ Tryz.call137 (fun F' h=>(t_Load (A) (ctlAt c nu) hA he).fr) fun _ n3 _ => ?_
 refine xCy [] [] (Tg.n) ⟨[(2,[.n,.n,.n,.n,.n,.n,.n,.n,.n,.i 3,.n,.n,.n,.n,.i 5,.n,.i 6,.l [Tg.i 11],.l [Tg.l [],Tg.l [Tg.i 13,Tg.i 14]],.n,.n,.i 7,.i 8,.n,.n,.n,.c,.c,.n,.n,.c,.i 9,.n,.i 10]),(3,[.i 4]),(4,[.c,.c,.c,.c,.c,.c]),(5,[]),(6,[]),(9,[]),(10,[]),(11,[.n,.n,.n,.n,.n,.n,.n,.n,.n,.n,.n,.c,.n,.n,.n,.n,.c,.i 12]),(12,[]),(13,[.i 11]),(14,[.l [Tg.l [],Tg.l [Tg.i 15]]]),(15,[.i 2]),(7,[]),(8,[]),(0,[.i 1,.n,.n,.n,.n,.n,.c]),(1,[])],162⟩ Tryz.call374 (fun F' h=>(t_Still (se) (A.ws.getD (ctlAt c nu).toNat 0) hU hW).fr) fun xn6 n6 hxn6 => ?_
 subst hxn6
 refine xF (stillW se (A.ws.getD (ctlAt c nu).toNat 0)) (by assumption) ?_
 refine xO (InK IntKind.i64 (fa+1)) (by simp only [InK]; omega) ?_
 refine xT (fa+1==c.retry) (by first | (simp; done) | (simp; omega)) ?_
 refine xTn (xT:=95) (v:=Value.pointer (some {block:=(g 11).b,off:=0})) taN_249_103 ?_
 refine xCy [] [] (Tg.n) ⟨[(2,[.n,.n,.n,.n,.n,.n,.n,.n,.n,.i 3,.n,.n,.n,.n,.i 5,.n,.i 6,.l [Tg.i 11],.l [Tg.l [],Tg.l [Tg.i 13,Tg.i 14]],.n,.n,.i 7,.i 8,.n,.n,.n,.c,.c,.n,.n,.c,.i 9,.n,.i 10]),(3,[.i 4]),(4,[.c,.c,.c,.c,.c,.c]),(5,[]),(6,[]),(9,[]),(10,[]),(11,[.n,.n,.n,.n,.n,.n,.n,.n,.n,.n,.n,.c,.n,.q 164 false,.n,.n,.l [Tg.c],.i 12]),(12,[]),(13,[.i 11]),(14,[.l [Tg.l [],Tg.l [Tg.i 15]]]),(15,[.i 2]),(7,[]),(8,[]),(0,[.i 1,.n,.n,.n,.n,.n,.c]),(1,[])],210⟩ Tryz.call209 (fun F' h=>(t_hasE (17)).fr) fun _ n11 _ => ?_
 refine xT (!(17:Int)==(22:Int)) rfl ?_
 refine xCy [] [] (Tg.n) ⟨[(2,[.n,.n,.n,.n,.n,.n,.n,.n,.n,.i 3,.n,.n,.n,.n,.i 5,.n,.i 6,.l [Tg.i 11],.l [Tg.l [],Tg.l [Tg.i 13,Tg.i 14]],.n,.n,.i 7,.i 8,.n,.n,.n,.c,.c,.n,.n,.c,.i 9,.n,.i 10]),(3,[.i 4]),(4,[.c,.c,.c,.c,.c,.c]),(5,[]),(6,[]),(9,[]),(10,[]),(11,[.n,.n,.n,.n,.n,.n,.n,.n,.n,.n,.n,.c,.n,.q 164 false,.n,.n,.l [Tg.c],.i 12]),(12,[]),(13,[.i 11]),(14,[.l [Tg.l [],Tg.l [Tg.i 15]]]),(15,[.i 2]),(7,[]),(8,[]),(0,[.i 1,.n,.n,.n,.n,.n,.c]),(1,[])],251⟩ Tryz.call74 (fun F' h=>t_topE (17) F' (hF.mono h)) fun _ n15 _ => ?_
 refine xN fun b16 => ?_
 exact xR (Value.func (Fn.func (172:Nat)) {toList:=[]} {toList:=[Value.pointer (some {block:=(g ((11:Nat)+(2:Nat))).b,off:=(0:Nat)}),Value.pointer (some {block:=(g ((11:Nat)+(3:Nat))).b,off:=(0:Nat)})]}) (by omega)
end Go.Proofs.YtnnoeefjnpcfnaaGreatDoor

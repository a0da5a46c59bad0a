/- Plain laws: configs, words, lists, no program in sight, part 1 of those on which LargePlays rests. -/
import Derived.Test.YtpcaijopodhdgaaGreatDoorSxB
import Derived.KernelRfl

set_option linter.unusedVariables false
set_option linter.unusedSimpArgs false
namespace Go.Sx
structure Cfg where
 topics:Int
 small:Int
 slots:Int
 clients:Int
 s0:Int
 n0:Int
 s1:Int
 n1:Int
 retry:Int
def Cfg.Ok(c:Cfg): Prop:=(1≤c.topics∧c.topics≤8)∧(4≤c.small∧c.small≤32)∧(1≤c.slots∧c.slots≤8)∧(1≤c.clients∧c.clients≤8)∧(1≤c.retry∧c.retry≤8)∧(4≤c.s0∧c.s0≤96)∧(0≤c.n0∧c.n0≤12)∧(4≤c.s1∧c.s1≤96)∧(0≤c.n1∧c.n1≤12)∧c.s0<c.s1
end Go.Sx
namespace Go.Sx
def slotAt(c:Cfg)(i:Int): Int:=if 0≤i∧i<c.slots then 5+i else -1
def ctlAt(c:Cfg)(i:Int): Int:=if 0≤i∧i<c.topics then 5+c.slots+c.topics+i*(1+2*c.small) else -1
def clsOf(c:Cfg)(b:Int): Int:=if 0≤b-1∧b-1<c.n0+c.n1 then(if b≤c.n0 then 0 else 1) else -1
def blockAt(c:Cfg)(b:Int): Int:=
 if 0≤b-1∧b-1<c.n0+c.n1 then
  5+c.slots+c.topics+c.topics*(1+2*c.small)+bMin (b-1) c.n0*(1+c.s0)+(b-1-bMin (b-1) c.n0)*(1+c.s1)
 else -1
def sizeOfC(c:Cfg): Int:=5+c.slots+c.topics+c.topics*(1+2*c.small)+c.n0*(1+c.s0)+c.n1*(1+c.s1)
end Go.Sx
namespace Go.Sx
structure Ar where
 aw:Option Addr
 cw:Nat
 n:Nat
 ws:List Int
 steps:Int
 lk:Int
 lw:Int
 lv:Int
 lc:Bool
def Ar.load(A:Ar)(i:Int): Ar:={A with steps:=A.steps+1,lk:=1,lw:=i,lv:=A.ws.getD i.toNat 0,lc:=false}
def Ar.store(A:Ar)(i v:Int): Ar:={A with ws:=A.ws.set i.toNat v,steps:=A.steps+1,lk:=2,lw:=i,lv:=(A.ws.set i.toNat v).getD i.toNat 0,lc:=true}
def Ar.swapT(A:Ar)(i v:Int): Ar:={A with ws:=A.ws.set i.toNat v,steps:=A.steps+1,lk:=3,lw:=i,lv:=(A.ws.set i.toNat v).getD i.toNat 0,lc:=true}
def Ar.swapF(A:Ar)(i:Int): Ar:={A with steps:=A.steps+1,lk:=3,lw:=i,lv:=A.ws.getD i.toNat 0,lc:=false}
end Go.Sx
namespace Go.Sx
theorem mul_bounds{x y X Y:Int}(hx:0≤x∧x≤X)(hy:0≤y∧y≤Y): 0≤x*y∧x*y≤X*Y:=
 ⟨Int.mul_nonneg hx.1 hy.1,Int.mul_le_mul hx.2 hy.2 hy.1 (by omega)⟩
theorem ctl_nl{c:Cfg}(h:c.Ok){i:Int}(hi:0≤i∧i<c.topics): 0≤i*(1+2*c.small)∧i*(1+2*c.small)≤8*65:=by
 simp only [Cfg.Ok] at h
 exact mul_bounds (by omega) (by omega)
theorem bMin_le(x y:Int): bMin x y≤x∧bMin x y≤y∧(bMin x y=x∨bMin x y=y):=by unfold bMin; split <;> omega
theorem blk_nl{c:Cfg}(h:c.Ok){k:Int}(hk:0≤k-1∧k-1<c.n0+c.n1):
  (0≤c.topics*(1+2*c.small)∧c.topics*(1+2*c.small)≤8*65)∧(0≤bMin (k-1) c.n0*(1+c.s0)∧bMin (k-1) c.n0*(1+c.s0)≤12*97)∧
   (0≤(k-1-bMin (k-1) c.n0)*(1+c.s1)∧(k-1-bMin (k-1) c.n0)*(1+c.s1)≤24*97)∧0≤bMin (k-1) c.n0∧bMin (k-1) c.n0≤12:=by
 simp only [Cfg.Ok] at h
 have hm:=bMin_le (k-1) c.n0
 exact⟨mul_bounds (by omega) (by omega),mul_bounds (by omega) (by omega),mul_bounds (by omega) (by omega),by omega,by omega⟩
end Go.Sx
namespace Go.Sx
theorem clsOf_le(c:Cfg)(b:Int): clsOf c b≤1:=by unfold clsOf; repeat' split <;> omega
theorem clsOf_ok{c:Cfg}{b:Int}(h:0≤clsOf c b): 1≤b∧b≤c.n0+c.n1:=by
 unfold clsOf at h; split at h <;> omega
theorem blockAt_ok{c:Cfg}(hc:c.Ok){b:Int}(h:0≤clsOf c b): 5≤blockAt c b∧blockAt c b<sizeOfC c:=by
 have h1:=clsOf_ok h
 have hr:0≤b-1∧b-1<c.n0+c.n1:=by omega
 have hn:=blk_nl hc hr
 have hm:=bMin_le (b-1) c.n0
 unfold blockAt sizeOfC
 rw [if_pos hr]
 simp only [Cfg.Ok] at hc
 have e1:bMin (b-1) c.n0*(1+c.s0)≤c.n0*(1+c.s0):=Int.mul_le_mul_of_nonneg_right hm.2.1 (by omega)
 by_cases hb:b-1<c.n0
 ·have hmm:bMin (b-1) c.n0=b-1:=by unfold bMin; split <;> omega
  rw [hmm] at hn e1 ⊢
  have e2:(b-1)*(1+c.s0)+(1+c.s0)≤c.n0*(1+c.s0):=by
   have:(b-1+1)*(1+c.s0)≤c.n0*(1+c.s0):=Int.mul_le_mul_of_nonneg_right (by omega) (by omega)
   rw [Int.add_mul] at this
   omega
  have e3:0≤c.n1*(1+c.s1):=Int.mul_nonneg (by omega) (by omega)
  have e4:(b-1-(b-1))*(1+c.s1)=0:=by rw [Int.sub_self,Int.zero_mul]
  rw [e4]
  omega
 ·have hmm:bMin (b-1) c.n0=c.n0:=by unfold bMin; split <;> omega
  rw [hmm] at hn e1 ⊢
  have e2:(b-1-c.n0)*(1+c.s1)+(1+c.s1)≤c.n1*(1+c.s1):=by
   have:(b-1-c.n0+1)*(1+c.s1)≤c.n1*(1+c.s1):=Int.mul_le_mul_of_nonneg_right (by omega) (by omega)
   rw [Int.add_mul] at this
   omega
  omega
theorem slotAt_ok{c:Cfg}(hc:c.Ok){i:Int}(h:0≤i∧i<c.slots): slotAt c i=5+i∧5+i<sizeOfC c:=by
 unfold slotAt
 rw [if_pos h]
 simp only [Cfg.Ok] at hc
 have h1:0≤c.topics*(1+2*c.small):=Int.mul_nonneg (by omega) (by omega)
 have h2:0≤c.n0*(1+c.s0):=Int.mul_nonneg (by omega) (by omega)
 have h3:0≤c.n1*(1+c.s1):=Int.mul_nonneg (by omega) (by omega)
 unfold sizeOfC
 exact⟨rfl,by omega⟩
theorem sizeOfC_ok{c:Cfg}(hc:c.Ok): 7≤sizeOfC c∧sizeOfC c≤3000:=by
 simp only [Cfg.Ok] at hc
 have h1:0≤c.topics*(1+2*c.small)∧c.topics*(1+2*c.small)≤8*65:=mul_bounds (by omega) (by omega)
 have h2:0≤c.n0*(1+c.s0)∧c.n0*(1+c.s0)≤12*97:=mul_bounds (by omega) (by omega)
 have h3:0≤c.n1*(1+c.s1)∧c.n1*(1+c.s1)≤12*97:=mul_bounds (by omega) (by omega)
 unfold sizeOfC
 omega
end Go.Sx
namespace Go.Sx
def lo32(w:Int): Int:=w % 4294967296
def hi32(w:Int): Int:=w / 4294967296
def turnW(w b:Int): Int:=((hi32 w+1) % 4294967296)*4294967296+b
theorem lo32_lt(w:Int): 0≤lo32 w∧lo32 w<4294967296:=by unfold lo32; omega
theorem hi32_lt{w:Int}(h:0≤w∧w≤18446744073709551615): 0≤hi32 w∧hi32 w<4294967296:=by unfold hi32; omega
theorem wrapU64(r:Int): IntKind.u64.wrap r=r % 18446744073709551616:=by simp [IntKind.wrap,IntKind.signed,IntKind.bits]
theorem wrapU32(r:Int): IntKind.u32.wrap r=r % 4294967296:=by simp [IntKind.wrap,IntKind.signed,IntKind.bits]
theorem wrap32_rng(r:Int): 0≤IntKind.u32.wrap r∧IntKind.u32.wrap r≤4294967295:=by rw [wrapU32]; omega
theorem shr_lit(w:Int)(n:Nat)(h:n≤64): bShr .u64 w n=w / (2 ^ n:Int):=by
 unfold bShr
 have:min ((n:Int).toNat) (IntKind.bits .u64)=n:=by simp [IntKind.bits]; omega
 rw [this]
 have hp:(0:Int)≤2 ^ n:=Int.le_of_lt (Int.pow_pos (by decide))
 rw [Int.fdiv_eq_ediv_of_nonneg _ hp]
theorem bAnd64(a b:Nat)(ha:a<2 ^ 64)(hb:b<2 ^ 64): bAnd .u64 (a:Int) (b:Int)=((a &&& b:Nat):Int):=by
 have h:bAnd .u64 (a:Int) (b:Int)=IntKind.u64.wrap (((BitVec.ofInt 64 (a:Int)) &&& (BitVec.ofInt 64 (b:Int)):BitVec 64).toNat:Int):=rfl
 rw [h,BitVec.ofInt_natCast,BitVec.ofInt_natCast,BitVec.toNat_and,BitVec.toNat_ofNat,BitVec.toNat_ofNat,Nat.mod_eq_of_lt ha,Nat.mod_eq_of_lt hb,wrapU64]
 have:=Nat.and_lt_two_pow a hb
 omega
theorem bOr64(a b:Nat)(ha:a<2 ^ 64)(hb:b<2 ^ 64): bOr .u64 (a:Int) (b:Int)=((a ||| b:Nat):Int):=by
 have h:bOr .u64 (a:Int) (b:Int)=IntKind.u64.wrap (((BitVec.ofInt 64 (a:Int)) ||| (BitVec.ofInt 64 (b:Int)):BitVec 64).toNat:Int):=rfl
 rw [h,BitVec.ofInt_natCast,BitVec.ofInt_natCast,BitVec.toNat_or,BitVec.toNat_ofNat,BitVec.toNat_ofNat,Nat.mod_eq_of_lt ha,Nat.mod_eq_of_lt hb,wrapU64]
 have:=Nat.or_lt_two_pow ha hb
 omega
theorem and_mask(w:Int)(n:Nat)(hn:n≤64)(h:0≤w∧w≤18446744073709551615): bAnd .u64 w (2 ^ n-1)=w % (2 ^ n:Int):=by
 obtain⟨m,rfl⟩:=Int.eq_ofNat_of_zero_le h.1
 have hp:0<2 ^ n:=Nat.two_pow_pos n
 have e:((2:Int) ^ n-1)=((2 ^ n-1:Nat):Int):=by
  rw [Int.natCast_sub (by omega)]; simp
 have hle:2 ^ n≤2 ^ 64:=Nat.pow_le_pow_right (by decide) hn
 rw [e,bAnd64 m _ (by omega) (by omega),Nat.and_two_pow_sub_one_eq_mod]
 simp
theorem get_lo{w:Int}(h:0≤w∧w≤18446744073709551615): bAnd .u64 (bShr .u64 w 0) (bShr .u64 18446744073709551615 (64-32))=lo32 w:=by
 have h1:=shr_lit w 0 (by decide)
 have h2:=shr_lit 18446744073709551615 32 (by decide)
 have e0:((0:Nat):Int)=0:=rfl
 have e1:((32:Nat):Int)=64-32:=rfl
 rw [e0] at h1; rw [e1] at h2
 rw [h1,h2]
 have h3:=and_mask w 32 (by decide) h
 simp only [lo32]
 have:w / 2 ^ 0=w:=by simp
 rw [this]
 exact h3
theorem get_hi64{w:Int}(h:0≤w∧w≤18446744073709551615): bAnd .u64 (bShr .u64 w 32) (bShr .u64 18446744073709551615 (64-32))=hi32 w:=by
 have h1:=shr_lit w 32 (by decide)
 have h2:=shr_lit 18446744073709551615 32 (by decide)
 have e0:((32:Nat):Int)=32:=rfl
 have e1:((32:Nat):Int)=64-32:=rfl
 rw [e0] at h1; rw [e1] at h2
 rw [h1,h2]
 have h3:=and_mask (w / 2 ^ 32) 32 (by decide) (by constructor <;> omega)
 simp only [hi32]
 have e:(18446744073709551615:Int) / 2 ^ 32=2 ^ 32-1:=by decide
 rw [e,h3]
 omega
theorem get_hi{w:Int}(h:0≤w∧w≤18446744073709551615): IntKind.u32.wrap (bAnd .u64 (bShr .u64 w 32) (bShr .u64 18446744073709551615 (64-32)))=hi32 w:=by
 rw [get_hi64 h,wrapU32]
 have:=hi32_lt h
 omega
theorem or_add(t b:Nat)(hb:b<2 ^ 32): (t*2 ^ 32) ||| b=t*2 ^ 32+b:=by
 rw [Nat.mul_comm,←Nat.two_pow_add_eq_or_of_lt hb]
theorem make_eq{t b:Int}(ht:0≤t∧t≤4294967295)(hb:0≤b∧b≤4294967295):
  bOr .u64 (bShl .u64 (IntKind.u64.wrap t) 32) (IntKind.u64.wrap (IntKind.u32.wrap b))=t*4294967296+b:=by
 obtain⟨t,rfl⟩:=Int.eq_ofNat_of_zero_le ht.1
 obtain⟨b,rfl⟩:=Int.eq_ofNat_of_zero_le hb.1
 have e1:IntKind.u64.wrap (t:Int)=t:=by rw [wrapU64]; omega
 have e2:IntKind.u32.wrap (b:Int)=b:=by rw [wrapU32]; omega
 have e3:IntKind.u64.wrap (b:Int)=b:=by rw [wrapU64]; omega
 rw [e1,e2,e3]
 have e4:bShl .u64 (t:Int) 32=((t*2 ^ 32:Nat):Int):=by
  unfold bShl
  have:min ((32:Int).toNat) (IntKind.bits .u64)=32:=by decide
  rw [this,wrapU64]
  omega
 rw [e4]
 rw [bOr64 _ _ (by omega) (by omega),or_add t b (by omega)]
 omega
theorem turn_eq(w b:Int): IntKind.u32.wrap (hi32 w+1)*4294967296+b=turnW w b:=by rw [wrapU32]; rfl
end Go.Sx
namespace Go.Sx
structure Gv where
 head:Int
 seen:Int
 block:Int
 ph:Nat
def Gv.step(c:Cfg)(G:Gv)(A:Ar): Gv×Ar:=
 match G.ph with
 | 1=>({G with seen:=A.ws.getD G.head.toNat 0,ph:=2},A.load G.head)
 | 2=>({G with ph:=3},A.store (blockAt c G.block) (lo32 G.seen))
 | 3=>if A.ws.getD G.head.toNat 0=G.seen then({G with ph:=0},A.swapT G.head (turnW G.seen G.block)) else({G with ph:=1},A.swapF G.head)
 | _=>(G,A)
def Gv.Ok(c:Cfg)(n:Nat)(G:Gv): Prop:=G.ph≤3∧(0≤G.head∧G.head<n)∧(0≤G.seen∧G.seen≤18446744073709551615)∧(0≤G.block∧G.block≤4294967295)∧(0≤blockAt c G.block∧blockAt c G.block<n)
end Go.Sx
namespace Go.Sx
structure Sc where
 slot:Int
 named:Int→Option Int
 left:List Int
 kept:List Int
 given:List Int
 give:Option Gv
def nextL(named:Int→Option Int): List Int→List Int→List Int×List Int
 | kept,[]=>(kept,[])
 | kept,b :: l=>if (named b).getD 0=0 then(kept,b :: l) else nextL named (kept++[b]) l
def newGv(c:Cfg)(b:Int): Gv:=⟨3+clsOf c b,0,b,1⟩
def Sc.next(c:Cfg)(S:Sc): Sc:=
 {S with kept:=(nextL S.named S.kept S.left).1,left:=(nextL S.named S.kept S.left).2,give:=(nextL S.named S.kept S.left).2.head?.map (newGv c)}
def Sc.look(c:Cfg)(S:Sc)(w:Int): Sc:=
 {S with slot:=S.slot+1,named:=if 0≤hi32 w-1 then updM S.named (lo32 w) ((S.named (lo32 w)).getD 0+1) else S.named}
def Sc.step(c:Cfg)(S:Sc)(A:Ar): Sc×Ar:=
 match S.give with
 | none=>
  if S.slot<c.slots then
   (if S.slot+1=c.slots then(S.look c (A.ws.getD (slotAt c S.slot).toNat 0)).next c else S.look c (A.ws.getD (slotAt c S.slot).toNat 0),A.load (slotAt c S.slot))
  else(S,A)
 | some G=>
  if (G.step c A).1.ph=0 then
   (({S with given:=S.given++[S.left.getD 0 0],left:=S.left.drop 1,give:=none}:Sc).next c,(G.step c A).2)
  else({S with give:=some (G.step c A).1},(G.step c A).2)
def Sc.done(c:Cfg)(S:Sc): Bool:=S.slot==c.slots&&S.give.isNone
theorem nextL_none{named:Int→Option Int}{kept left kept0 left0:List Int}(h:nextL named kept left=nextL named kept0 left0)(hl:left=[])(s:Int)(given:List Int)(g:Option Gv)(c:Cfg):
  Sc.next c ⟨s,named,left0,kept0,given,g⟩=⟨s,named,left,kept,given,none⟩:=by
 subst hl
 simp only [Sc.next,←h,nextL]
 rfl
theorem nextL_some{named:Int→Option Int}{kept left kept0 left0:List Int}(h:nextL named kept left=nextL named kept0 left0)(hl:0<left.length)(hn:(named (left.getD 0 0)).getD 0=0)(s:Int)(given:List Int)(g:Option Gv)(c:Cfg):
  Sc.next c ⟨s,named,left0,kept0,given,g⟩=⟨s,named,left,kept,given,some (newGv c (left.getD 0 0))⟩:=by
 cases left with
 | nil=>simp at hl
 | cons b l=>
  simp only [List.getD_cons_zero] at hn
  have e:nextL named kept (b :: l)=(kept,b :: l):=by simp only [nextL,if_pos hn]
  simp only [Sc.next,←h,e,List.head?_cons,Option.map_some,List.getD_cons_zero]
theorem nextL_on{named:Int→Option Int}{kept left:List Int}(hl:0<left.length)(hn:(named (left.getD 0 0)).getD 0≠0):
  nextL named (kept++[left.getD 0 0]) (left.drop 1)=nextL named kept left:=by
 cases left with
 | nil=>simp at hl
 | cons b l=>
  simp only [List.getD_cons_zero,List.drop_succ_cons,List.drop_zero] at hn ⊢
  conv=>rhs; rw [nextL,if_neg hn]
end Go.Sx
namespace Go.Sx
def Ar.Ok(c:Cfg)(A:Ar): Prop:=A.ws.length=A.n∧(A.n:Int)=sizeOfC c∧(∀i,0≤A.ws.getD i 0∧A.ws.getD i 0≤18446744073709551615)∧(0≤A.steps∧A.steps≤1000000000)
def Sc.Ok(c:Cfg)(n:Nat)(S:Sc): Prop:=(0≤S.slot∧S.slot≤c.slots)∧(S.give≠none→S.slot=c.slots)∧(S.kept.length+S.left.length≤100∧S.given.length≤100)∧(∀b∈S.left,0≤clsOf c b)∧
 (∀k,0≤(S.named k).getD 0∧(S.named k).getD 0≤S.slot)∧(∀G,S.give=some G→Gv.Ok c n G∧0<S.left.length)
end Go.Sx
namespace Go.Sx
def setW(w at_ n v:Int): Int:=bOr .u64 (bAndNot .u64 w (bShl .u64 (bShr .u64 18446744073709551615 (64-n)) at_)) (bShl .u64 v at_)
def packW(c:Cfg): Int:=
 setW (setW (setW (setW (setW (setW (setW (setW (setW 0 0 7 (IntKind.u64.wrap c.topics)) 7 7 (IntKind.u64.wrap c.small)) 14 7 (IntKind.u64.wrap c.slots)) 21 7 (IntKind.u64.wrap c.clients)) 28 7 (IntKind.u64.wrap c.retry)) 35 7 (IntKind.u64.wrap c.s0)) 42 7 (IntKind.u64.wrap c.n0)) 49 7 (IntKind.u64.wrap c.s1)) 56 7 (IntKind.u64.wrap c.n1)
theorem bOr_rng(a b:Int): 0≤bOr .u64 a b∧bOr .u64 a b≤18446744073709551615:=by unfold bOr; rw [wrapU64]; omega
theorem setW_rng(w a n v:Int): 0≤setW w a n v∧setW w a n v≤18446744073709551615:=bOr_rng _ _
theorem packW_rng(c:Cfg): 0≤packW c∧packW c≤18446744073709551615:=setW_rng _ _ _ _
theorem part_fits{v:Int}(h:0≤v∧v≤127): bAndNot .u64 (IntKind.u64.wrap v) (bShr .u64 18446744073709551615 (64-7))=0:=by
 obtain⟨m,rfl⟩:=Int.eq_ofNat_of_zero_le h.1
 have hm:m<128:=by omega
 have:∀m:Fin 128,bAndNot .u64 (IntKind.u64.wrap ((m.val:Nat):Int)) (bShr .u64 18446744073709551615 (64-7))=0:=by decide +kernel
 exact this ⟨m,hm⟩
def newAr(aw:Option Addr)(cw:Nat)(n:Int): Ar:=⟨aw,cw,(List.replicate n.toNat (0:Int)).length,List.replicate n.toNat 0,0,0,0,0,false⟩
def mkHead(c:Cfg)(A:Ar): Ar:=
 if 0<c.n1 then(if 0<c.n0 then A.store 3 1 else A).store 4 (1+c.n0) else(if 0<c.n0 then A.store 3 1 else A)
def mkLink(c:Cfg): Nat→Int→Ar→Ar
 | 0,_,A=>A
 | k+1,b,A=>mkLink c k (b+1) (if clsOf c b=clsOf c (b+1) then A.store (blockAt c b) (b+1) else A)
def mkAr(c:Cfg)(aw:Option Addr)(cw:Nat): Ar:=
 mkLink c (c.n0+c.n1-1).toNat 1 (mkHead c (((newAr aw cw (sizeOfC c)).store 0 7597137583116413295).store 1 (packW c)))
theorem mkLink_next{c:Cfg}{b:Int}{A:Ar}(h:b<c.n0+c.n1):
  mkLink c (c.n0+c.n1-b).toNat b A=mkLink c (c.n0+c.n1-(b+1)).toNat (b+1) (if clsOf c b=clsOf c (b+1) then A.store (blockAt c b) (b+1) else A):=by
 have:(c.n0+c.n1-b).toNat=(c.n0+c.n1-(b+1)).toNat+1:=by omega
 rw [this,mkLink]
theorem mkLink_end{c:Cfg}{b:Int}{A:Ar}(h:¬b<c.n0+c.n1): mkLink c (c.n0+c.n1-b).toNat b A=A:=by
 have:(c.n0+c.n1-b).toNat=0:=by omega
 rw [this,mkLink]
end Go.Sx
namespace Go.Sx
theorem clsOf_pos{c:Cfg}{b:Int}(h:1≤b∧b≤c.n0+c.n1): 0≤clsOf c b:=by
 unfold clsOf; rw [if_pos (by omega)]; split <;> omega
theorem size_nl{c:Cfg}(h:c.Ok): (0≤c.topics*(1+2*c.small)∧c.topics*(1+2*c.small)≤8*65)∧(0≤c.n0*(1+c.s0)∧c.n0*(1+c.s0)≤12*97)∧(0≤c.n1*(1+c.s1)∧c.n1*(1+c.s1)≤12*97):=by
 simp only [Cfg.Ok] at h
 exact⟨mul_bounds (by omega) (by omega),mul_bounds (by omega) (by omega),mul_bounds (by omega) (by omega)⟩
end Go.Sx
namespace Go.Sx
def newOk(c:Cfg): (Int→Option Int)→List Int→Bool
 | _,[]=>true
 | m,b :: l=>if clsOf c b<0 then false else if (m b).getD 0+1>1 then false else newOk c (updM m b ((m b).getD 0+1)) l
theorem updM_self{m:Int→Option Int}{b v:Int}: (updM m b v b).getD 0=v:=by simp [updM]
theorem updM_rng{m:Int→Option Int}{b:Int}(h:∀j,0≤(m j).getD 0∧(m j).getD 0≤1)(hb:¬(updM m b ((m b).getD 0+1) b).getD 0>1): ∀j,0≤(updM m b ((m b).getD 0+1) j).getD 0∧(updM m b ((m b).getD 0+1) j).getD 0≤1:=by
 intro j
 rw [updM_self] at hb
 have:=h b
 unfold updM
 split
 ·simp only [Option.getD_some]; omega
 ·exact h j
theorem drop_get{xs:List Int}{k:Int}(h:0≤k∧k<(xs.length:Int)): xs.drop k.toNat=xs.getD k.toNat 0 :: xs.drop (k+1).toNat:=by
 have h1:k.toNat<xs.length:=by omega
 have h2:(k+1).toNat=k.toNat+1:=by omega
 rw [h2,List.drop_eq_getElem_cons h1,List.getD_eq_getElem?_getD,List.getElem?_eq_getElem h1]
 rfl
theorem newOk_next{c:Cfg}{m:Int→Option Int}{xs:List Int}{k:Int}(h:0≤k∧k<(xs.length:Int))(h1:¬clsOf c (xs.getD k.toNat 0)<0)(h2:¬(updM m (xs.getD k.toNat 0) ((m (xs.getD k.toNat 0)).getD 0+1) (xs.getD k.toNat 0)).getD 0>1):
  newOk c m (xs.drop k.toNat)=newOk c (updM m (xs.getD k.toNat 0) ((m (xs.getD k.toNat 0)).getD 0+1)) (xs.drop (k+1).toNat):=by
 rw [updM_self] at h2
 rw [drop_get h,newOk,if_neg h1,if_neg h2]
theorem newOk_yes{c:Cfg}{m:Int→Option Int}{xs:List Int}{k:Int}(h:0≤k∧k<(xs.length:Int))(ho:newOk c m (xs.drop k.toNat)=true):
  ¬clsOf c (xs.getD k.toNat 0)<0∧¬(updM m (xs.getD k.toNat 0) ((m (xs.getD k.toNat 0)).getD 0+1) (xs.getD k.toNat 0)).getD 0>1:=by
 rw [updM_self]
 rw [drop_get h,newOk] at ho
 split at ho
 ·cases ho
 ·split at ho
  ·cases ho
  ·exact⟨‹_›,‹_›⟩
def newSc(xs:List Int): Sc:=⟨0,fun _=>none,xs,[],[],none⟩
end Go.Sx
namespace Go.Sx
theorem bAnd_small(x:Int)(n:Nat)(hn:n<64): 0≤bAnd .i64 x (2 ^ n-1)∧bAnd .i64 x (2 ^ n-1)≤2 ^ n-1:=by
 have h:bAnd .i64 x (2 ^ n-1)=IntKind.i64.wrap (((BitVec.ofInt 64 x) &&& (BitVec.ofInt 64 (2 ^ n-1)):BitVec 64).toNat:Int):=rfl
 have hp:0<2 ^ n:=Nat.two_pow_pos n
 have e:((2:Int) ^ n-1)=((2 ^ n-1:Nat):Int):=by
  rw [Int.natCast_sub (by omega)]; simp
 have hle:2 ^ n≤2 ^ 63:=Nat.pow_le_pow_right (by decide) (by omega)
 rw [h,e,BitVec.ofInt_natCast,BitVec.toNat_and,BitVec.toNat_ofNat,Nat.mod_eq_of_lt (by omega:2 ^ n-1<2 ^ 64)]
 have h2:(BitVec.ofInt 64 x).toNat &&& (2 ^ n-1)≤2 ^ n-1:=Nat.and_le_right
 have h3:IntKind.i64.wrap (((BitVec.ofInt 64 x).toNat &&& (2 ^ n-1):Nat):Int)=(((BitVec.ofInt 64 x).toNat &&& (2 ^ n-1):Nat):Int):=wrap_in (by simp only [InK]; omega)
 rw [h3]
 omega
theorem and3(n:Int): 0≤bAnd .i64 n 3∧bAnd .i64 n 3≤3:=bAnd_small n 2 (by decide)
def markW(cl b:Int): Int:=(cl+1)*4294967296+b
theorem shl32{t:Int}(h:0≤t∧t≤4294967295): bShl .u64 t 32=t*4294967296:=by
 unfold bShl
 have:min ((32:Int).toNat) (IntKind.bits .u64)=32:=by decide
 rw [this,wrapU64]
 omega
theorem mark_eq{cl b:Int}(hc:0≤cl+1∧cl+1≤4294967295)(hb:0≤b∧b≤4294967295):
  IntKind.u64.wrap (bShl .u64 (IntKind.u64.wrap (IntKind.u32.wrap (cl+1))) 32+IntKind.u64.wrap (IntKind.u32.wrap b))=markW cl b:=by
 have e1:IntKind.u32.wrap (cl+1)=cl+1:=by rw [wrapU32]; omega
 have e2:IntKind.u32.wrap b=b:=by rw [wrapU32]; omega
 have e3:IntKind.u64.wrap (cl+1)=cl+1:=by rw [wrapU64]; omega
 have e4:IntKind.u64.wrap b=b:=by rw [wrapU64]; omega
 rw [e1,e2,e3,e4,shl32 hc,wrapU64]
 unfold markW
 omega
theorem ref_block{c:Cfg}(hc:c.Ok){b:Int}(h:1≤b∧b<c.n0+c.n1): blockAt c (b+1)=blockAt c b+1+(if b≤c.n0 then c.s0 else c.s1):=by
 simp only [Cfg.Ok] at hc
 unfold blockAt
 rw [if_pos (by omega),if_pos (by omega)]
 have e:b+1-1=b:=by omega
 rw [e]
 by_cases hb:b≤c.n0
 ·have h1:bMin b c.n0=b:=by unfold bMin; split <;> omega
  have h2:bMin (b-1) c.n0=b-1:=by unfold bMin; split <;> omega
  rw [h1,h2,if_pos hb]
  have e1:(b-1)*(1+c.s0)+(1+c.s0)=b*(1+c.s0):=by
   have:(b-1+1)*(1+c.s0)=(b-1)*(1+c.s0)+(1+c.s0):=by rw [Int.add_mul,Int.one_mul]
   rw [←this]; congr 1; omega
  have e2:(b-b)*(1+c.s1)=0:=by rw [Int.sub_self,Int.zero_mul]
  have e3:(b-1-(b-1))*(1+c.s1)=0:=by rw [Int.sub_self,Int.zero_mul]
  rw [e2,e3]
  omega
 ·have h1:bMin b c.n0=c.n0:=by unfold bMin; split <;> omega
  have h2:bMin (b-1) c.n0=c.n0:=by unfold bMin; split <;> omega
  rw [h1,h2,if_neg hb]
  have e1:(b-1-c.n0)*(1+c.s1)+(1+c.s1)=(b-c.n0)*(1+c.s1):=by
   have:(b-1-c.n0+1)*(1+c.s1)=(b-1-c.n0)*(1+c.s1)+(1+c.s1):=by rw [Int.add_mul,Int.one_mul]
   rw [←this]; congr 1; omega
  omega
end Go.Sx
namespace Go.Sx
theorem blk_one{c:Cfg}(hc:c.Ok)(h:1≤c.n0+c.n1): (5+c.slots+c.topics)+(c.topics*(1+2*c.small))=blockAt c 1:=by
 simp only [Cfg.Ok] at hc
 unfold blockAt
 rw [if_pos (by omega)]
 have h1:bMin (1-1) c.n0=0:=by unfold bMin; split <;> omega
 rw [h1]
 omega
end Go.Sx
namespace Go.Sx
def Ar.rstore(A:Ar)(i v:Int): Ar:={A with ws:=A.ws.set i.toNat v,steps:=A.steps+1,lk:=2,lw:=i,lv:=v,lc:=true}
theorem rstore_eq{A:Ar}{i v:Int}(h:i.toNat<A.ws.length): A.rstore i v=A.store i v:=by
 unfold Ar.rstore Ar.store
 congr 1
 simp [List.getD_eq_getElem?_getD,h]
end Go.Sx
namespace Go.Sx
theorem make10_eq{t b:Int}(ht:0≤t∧t≤4294967295)(hb:0≤b∧b≤4294967295):
  IntKind.u64.wrap (bShl .u64 (IntKind.u64.wrap t) 32+IntKind.u64.wrap (IntKind.u32.wrap b))=t*4294967296+b:=by
 have e1:IntKind.u32.wrap b=b:=by rw [wrapU32]; omega
 have e2:IntKind.u64.wrap t=t:=by rw [wrapU64]; omega
 have e3:IntKind.u64.wrap b=b:=by rw [wrapU64]; omega
 rw [e1,e2,e3,shl32 ht,wrapU64]
 omega
theorem shr_hi{w:Int}(h:0≤w∧w≤18446744073709551615): bShr .u64 w 32=hi32 w:=by
 have h1:=shr_lit w 32 (by decide)
 have e:((32:Nat):Int)=32:=rfl
 rw [e] at h1
 rw [h1]; unfold hi32; omega
theorem turn10_eq{w b:Int}(h:0≤w∧w≤18446744073709551615): IntKind.u32.wrap (IntKind.u32.wrap (bShr .u64 w 32)+1)*4294967296+b=turnW w b:=by
 rw [shr_hi h]
 have:=hi32_lt h
 have e:IntKind.u32.wrap (hi32 w)=hi32 w:=by rw [wrapU32]; omega
 rw [e]
 exact turn_eq w b
end Go.Sx
namespace Go.Sx
def RngW(ws:List Int): Prop := ∀i,0≤ws.getD i 0∧ws.getD i 0≤18446744073709551615
def ArW(c:Cfg)(A:Ar)(k:Int): Prop:=A.ws.length=A.n∧(A.n:Int)=sizeOfC c∧RngW A.ws∧(0≤A.steps∧A.steps≤k)
theorem rngW_set{ws:List Int}(h:RngW ws)(j:Nat){v:Int}(hv:0≤v∧v≤18446744073709551615): RngW (ws.set j v):=by
 intro i
 rw [List.getD_eq_getElem?_getD,List.getElem?_set]
 split
 ·split
  ·simpa using hv
  ·simp
 ·have:=h i
  rwa [List.getD_eq_getElem?_getD] at this
theorem rngW_rep(n:Nat): RngW (List.replicate n (0:Int)):=by
 intro i
 rw [List.getD_eq_getElem?_getD,List.getElem?_replicate]
 split <;> simp
end Go.Sx
namespace Go.Sx
end Go.Sx
namespace Go.Sx
def U64(w:Int): Prop:=0≤w∧w≤18446744073709551615
theorem get_bits{w:Int}(h:U64 w)(a n m:Nat)(ha:a≤64)(hn:n≤64)(hm:m≤64)(e:(18446744073709551615:Int) / 2 ^ m=2 ^ n-1):
  bAnd .u64 (bShr .u64 w (a:Int)) (bShr .u64 18446744073709551615 (m:Int))=w / 2 ^ a % 2 ^ n:=by
 have hp:(0:Int)<2 ^ a:=by have:=Nat.two_pow_pos a; exact_mod_cast this
 have h1:0≤w / 2 ^ a:=Int.ediv_nonneg h.1 (Int.le_of_lt hp)
 have h2:w / 2 ^ a≤w:=Int.ediv_le_self _ h.1
 rw [shr_lit w a ha,shr_lit _ m hm,e,and_mask _ n hn ⟨h1,by have:=h.2; omega⟩]
def ctlBlock(w:Int): Int:=w % 65536
def ctlGen(w:Int): Int:=w / 65536 % 2147483648
def ctlBusy(w:Int): Bool:=w / 140737488355328 % 2==1
def ctlLive(w:Int): Bool:=w / 281474976710656 % 2==1
def ctlEpoch(w:Int): Int:=w / 562949953421312
theorem ctl_rng{w:Int}(h:U64 w): (0≤ctlBlock w∧ctlBlock w≤65535)∧(0≤ctlGen w∧ctlGen w<2147483648)∧(0≤ctlEpoch w∧ctlEpoch w≤32767):=by
 unfold U64 at h; unfold ctlBlock ctlGen ctlEpoch; omega
theorem un_block{w:Int}(h:U64 w): bAnd .u64 (bShr .u64 w 0) (bShr .u64 18446744073709551615 (64-16))=ctlBlock w:=by
 have:=get_bits h 0 16 48 (by decide) (by decide) (by decide) (by decide)
 rw [show w / 2 ^ 0 % 2 ^ 16=ctlBlock w by unfold ctlBlock; simp] at this
 exact this
theorem un_gen{w:Int}(h:U64 w): bAnd .u64 (bShr .u64 w 16) (bShr .u64 18446744073709551615 (64-31))=ctlGen w:=
 get_bits h 16 31 33 (by decide) (by decide) (by decide) (by decide)
theorem un_busy{w:Int}(h:U64 w): bAnd .u64 (bShr .u64 w 47) (bShr .u64 18446744073709551615 (64-1))=w / 140737488355328 % 2:=
 get_bits h 47 1 63 (by decide) (by decide) (by decide) (by decide)
theorem un_live{w:Int}(h:U64 w): bAnd .u64 (bShr .u64 w 48) (bShr .u64 18446744073709551615 (64-1))=w / 281474976710656 % 2:=
 get_bits h 48 1 63 (by decide) (by decide) (by decide) (by decide)
theorem un_epoch{w:Int}(h:U64 w): bAnd .u64 (bShr .u64 w 49) (bShr .u64 18446744073709551615 (64-15))=ctlEpoch w:=by
 have:=get_bits h 49 15 49 (by decide) (by decide) (by decide) (by decide)
 rw [show w / 2 ^ 49 % 2 ^ 15=ctlEpoch w by unfold U64 at h; unfold ctlEpoch; omega] at this
 exact this
theorem ru_block{w:Int}(h:U64 w): bAnd .u64 w 65535=ctlBlock w:=and_mask w 16 (by decide) h
theorem sh_rng{w:Int}(h:U64 w)(a:Nat)(ha:a≤64): bShr .u64 w (a:Int)=w / 2 ^ a∧U64 (w / 2 ^ a):=by
 have hp:(0:Int)<2 ^ a:=by have:=Nat.two_pow_pos a; exact_mod_cast this
 have h1:0≤w / 2 ^ a:=Int.ediv_nonneg h.1 (Int.le_of_lt hp)
 have h2:w / 2 ^ a≤w:=Int.ediv_le_self _ h.1
 exact⟨shr_lit w a ha,h1,by have:=h.2; omega⟩
theorem ru_gen{w:Int}(h:U64 w): bAnd .u64 (bShr .u64 w 16) 2147483647=ctlGen w:=by
 have h1:=sh_rng h 16 (by decide)
 have h2:=and_mask _ 31 (by decide) h1.2
 rw [←h1.1] at h2
 refine Eq.trans h2 ?_
 rw [h1.1]; rfl
theorem ru_busy{w:Int}(h:U64 w): bAnd .u64 (bShr .u64 w 47) 1=w / 140737488355328 % 2:=by
 have h1:=sh_rng h 47 (by decide)
 have h2:=and_mask _ 1 (by decide) h1.2
 rw [←h1.1] at h2
 refine Eq.trans h2 ?_
 rw [h1.1]; rfl
theorem ru_live{w:Int}(h:U64 w): bAnd .u64 (bShr .u64 w 48) 1=w / 281474976710656 % 2:=by
 have h1:=sh_rng h 48 (by decide)
 have h2:=and_mask _ 1 (by decide) h1.2
 rw [←h1.1] at h2
 refine Eq.trans h2 ?_
 rw [h1.1]; rfl
theorem ru_epoch{w:Int}(h:U64 w): bShr .u64 w 49=ctlEpoch w:=(sh_rng h 49 (by decide)).1
def flagI(b:Bool): Int:=if b then 1 else 0
def packW3(e l b g k:Int): Int:=(((e*2+l)*2+b)*2147483648+g)*65536+k
theorem shl_lit(x:Int)(n:Nat)(h:n≤64): bShl .u64 x (n:Int)=(x*2 ^ n) % 18446744073709551616:=by
 unfold bShl
 rw [show min ((n:Int).toNat) (IntKind.bits .u64)=n by simp [IntKind.bits]; omega,wrapU64]
theorem shl31(x:Int): bShl .u64 x 31=(x*2147483648) % 18446744073709551616:=shl_lit x 31 (by decide)
theorem shl16(x:Int): bShl .u64 x 16=(x*65536) % 18446744073709551616:=shl_lit x 16 (by decide)
theorem flagI_rng(b:Bool): 0≤flagI b∧flagI b≤1:=by cases b <;> decide
theorem packW3_rng{e l b g k:Int}(he:0≤e∧e≤32767)(hl:0≤l∧l≤1)(hb:0≤b∧b≤1)(hg:0≤g∧g≤2147483647)(hk:0≤k∧k≤65535): U64 (packW3 e l b g k):=by
 unfold U64 packW3; omega
theorem mark_or{cl b:Int}(hc:0≤cl+1∧cl+1≤4294967295)(hb:0≤b∧b≤4294967295):
  bOr .u64 (bShl .u64 (IntKind.u64.wrap (IntKind.u32.wrap (cl+1))) 32) (IntKind.u64.wrap (IntKind.u32.wrap b))=markW cl b:=by
 have e1:IntKind.u32.wrap (cl+1)=cl+1:=by rw [wrapU32]; omega
 rw [e1,make_eq hc hb]; rfl
structure Gu where
 client:Int
 epoch:Int
 slot:Int
 word:Int
 seen:Int
 block:Int
 failed:Int
 commit:Int
 code:Int
 ph:Nat
def lookE(w ep:Int): Int:=if ctlLive w=true∧ctlEpoch w=ep then(if ctlBlock w=0 then 20 else 0) else 22
def Gu.look(G:Gu)(w:Int): Gu:=
 if lookE w G.epoch=0 then⟨G.client,G.epoch,G.slot,G.word,w,ctlBlock w,G.failed,G.commit,G.code,2⟩
 else⟨G.client,G.epoch,G.slot,G.word,w,0,G.failed,G.commit,lookE w G.epoch,0⟩
def Gu.step(rt:Int)(G:Gu)(A:Ar): Gu×Ar:=
 match G.ph with
 | 0=>(G,A)
 | 1=>(Gu.look ⟨G.client,G.epoch,G.slot,G.word,G.seen,G.block,G.failed,(A.load G.word).steps,G.code,G.ph⟩ (A.ws.getD G.word.toNat 0),A.load G.word)
 | 2=>(⟨G.client,G.epoch,G.slot,G.word,G.seen,G.block,G.failed,G.commit,G.code,3⟩,A.store G.slot (markW G.client G.block))
 | _=>if A.ws.getD G.word.toNat 0=G.seen then(⟨G.client,G.epoch,G.slot,G.word,G.seen,G.block,G.failed,(A.load G.word).steps,0,0⟩,A.load G.word)
  else if G.failed+1=rt then(⟨G.client,G.epoch,G.slot,G.word,G.seen,0,G.failed+1,(A.load G.word).steps,17,0⟩,A.load G.word)
  else(Gu.look ⟨G.client,G.epoch,G.slot,G.word,G.seen,G.block,G.failed+1,(A.load G.word).steps,G.code,G.ph⟩ (A.ws.getD G.word.toNat 0),A.load G.word)
structure Gu.Ok (c:Cfg) (n:Nat) (G:Gu):Prop where
 ph:G.ph≤3
 slot:0≤G.slot∧G.slot<n
 word:0≤G.word∧G.word<n
 client:0≤G.client∧G.client<c.clients
 block:0≤G.block∧G.block≤65535
 failed:0≤G.failed∧G.failed≤1000
 retry:G.failed≤c.retry∧(G.ph≠0→G.failed<c.retry)
def newGu(c:Cfg)(client slot topic epoch:Int): Gu:=⟨client,epoch,slotAt c slot,ctlAt c topic,0,0,0,0,0,1⟩
theorem Gu.look_D(G:Gu){w:Int}(hl:ctlLive w=false): G.look w=⟨G.client,G.epoch,G.slot,G.word,w,0,G.failed,G.commit,22,0⟩:=by
 unfold Gu.look
 have:lookE w G.epoch=22:=by unfold lookE; rw [if_neg (by rw [hl]; simp)]
 rw [this]; rfl
theorem Gu.look_P(G:Gu){w:Int}(he:ctlEpoch w≠G.epoch): G.look w=⟨G.client,G.epoch,G.slot,G.word,w,0,G.failed,G.commit,22,0⟩:=by
 unfold Gu.look
 have:lookE w G.epoch=22:=by unfold lookE; rw [if_neg (fun h=>he h.2)]
 rw [this]; rfl
theorem Gu.look_E(G:Gu){w:Int}(hl:ctlLive w=true)(he:ctlEpoch w=G.epoch)(hb:ctlBlock w=0): G.look w=⟨G.client,G.epoch,G.slot,G.word,w,0,G.failed,G.commit,20,0⟩:=by
 unfold Gu.look
 have:lookE w G.epoch=20:=by unfold lookE; rw [if_pos ⟨hl,he⟩,if_pos hb]
 rw [this]; rfl
theorem Gu.look_N(G:Gu){w:Int}(hl:ctlLive w=true)(he:ctlEpoch w=G.epoch)(hb:ctlBlock w≠0): G.look w=⟨G.client,G.epoch,G.slot,G.word,w,ctlBlock w,G.failed,G.commit,G.code,2⟩:=by
 unfold Gu.look
 have:lookE w G.epoch=0:=by unfold lookE; rw [if_pos ⟨hl,he⟩,if_neg hb]
 rw [this]; rfl
def Gu.told(G:Gu): Int×Int:=match G.ph with | 0=>(G.block,G.code) | _=>(0,13)
def Gu.comm(G:Gu): Int:=match G.ph with | 0=>G.commit | _=>0
end Go.Sx
namespace Go.Sx
def hasN(xs:List Int)(n:Nat)(v:Int): Bool:=(xs.take n).contains v
theorem hasN_yes{xs:List Int}{n:Nat}{v:Int}{i:Int}(h:0≤i∧i<(n:Int))(hn:n≤xs.length)(he:xs.getD i.toNat 0=v): hasN xs n v=true:=by
 unfold hasN
 have hlt:i.toNat<xs.length:=by omega
 rw [List.getD_eq_getElem?_getD,List.getElem?_eq_getElem hlt] at he
 simp only [List.contains_eq_mem,decide_eq_true_eq]
 rw [List.mem_take_iff_getElem]
 exact⟨i.toNat,by omega,by simpa using he⟩
theorem hasN_no{xs:List Int}{n:Nat}{v:Int}{i:Int}(h:∀j:Nat,(j:Int)<i→xs.getD j 0≠v)(hi:¬i<(n:Int)): hasN xs n v=false:=by
 unfold hasN
 simp only [List.contains_eq_mem,decide_eq_false_iff_not]
 intro hm
 rw [List.mem_take_iff_getElem] at hm
 obtain⟨j,hj,he⟩:=hm
 refine h j (by omega) ?_
 rw [List.getD_eq_getElem?_getD,List.getElem?_eq_getElem (by omega)]
 simpa using he
theorem has_step{xs:List Int}{v i:Int}(h:∀j:Nat,(j:Int)<i→xs.getD j 0≠v)(h0:0≤i)(hn:xs.getD i.toNat 0≠v): ∀j:Nat,(j:Int)<i+1→xs.getD j 0≠v:=by
 intro j hj
 by_cases hji:(j:Int)<i
 ·exact h j hji
 ·have:j=i.toNat:=by omega
  subst this; exact hn
theorem same_no{xs ys:List Int}{i:Nat}(h:xs.getD i 0≠ys.getD i 0): (xs==ys)=false:=by
 rw [beq_eq_false_iff_ne]
 intro e; subst e; exact h rfl
theorem same_len{xs ys:List Int}(h:(xs.length:Int)≠ys.length): (xs==ys)=false:=by
 rw [beq_eq_false_iff_ne]
 intro e; subst e; exact h rfl
theorem same_yes{xs ys:List Int}{i:Int}(h:∀j:Nat,(j:Int)<i→xs.getD j 0=ys.getD j 0)(hl:(xs.length:Int)=ys.length)(hi:¬i<(xs.length:Int)): (xs==ys)=true:=by
 rw [beq_iff_eq]
 apply List.ext_getElem (by omega)
 intro j h1 h2
 have:=h j (by omega)
 rw [List.getD_eq_getElem?_getD,List.getD_eq_getElem?_getD,List.getElem?_eq_getElem h1,List.getElem?_eq_getElem h2] at this
 simpa using this
theorem same_step{xs ys:List Int}{i:Int}(h:∀j:Nat,(j:Int)<i→xs.getD j 0=ys.getD j 0)(h0:0≤i)(hn:xs.getD i.toNat 0=ys.getD i.toNat 0): ∀j:Nat,(j:Int)<i+1→xs.getD j 0=ys.getD j 0:=by
 intro j hj
 by_cases hji:(j:Int)<i
 ·exact h j hji
 ·have:j=i.toNat:=by omega
  subst this; exact hn
end Go.Sx
namespace Go.Sx
structure Rs where
 slot:Int
 over:Bool
 left:List Int
 named:List Int
 kept:List Int
 given:List Int
 give:Option Gv
def nextR(named:List Int): List Int→List Int→List Int×List Int
 | kept,[]=>(kept,[])
 | kept,b :: l=>if hasN named named.length b=true then nextR named (kept++[b]) l else(kept,b :: l)
def Rs.next(c:Cfg)(S:Rs): Rs:=
 match (nextR S.named S.kept S.left).2 with
 | [] => {S with kept:=(nextR S.named S.kept S.left).1,left:=[],over:=true,give:=none}
 | b :: l => {S with kept:=(nextR S.named S.kept S.left).1,left:=b :: l,give:=some (newGv c b)}
def Rs.look(S:Rs)(w:Int): Rs:=
 {S with slot:=S.slot+1,named:=if hi32 w=0 then S.named else S.named++[lo32 w]}
def Rs.step(c:Cfg)(S:Rs)(A:Ar): Rs×Ar:=
 if S.over=true then(S,A)
 else if S.slot<c.slots then
  (if S.slot+1=c.slots then(S.look (A.ws.getD (slotAt c S.slot).toNat 0)).next c else S.look (A.ws.getD (slotAt c S.slot).toNat 0),A.load (slotAt c S.slot))
 else match S.give with
  | none=>(S,A)
  | some G=>
   if (G.step c A).1.ph=0 then
    (({S with given:=S.given++[S.left.getD 0 0],left:=S.left.drop 1,give:=some (G.step c A).1}:Rs).next c,(G.step c A).2)
   else({S with give:=some (G.step c A).1},(G.step c A).2)
structure Alike (c:Cfg) (S:Sc) (R:Rs):Prop where
 slot:S.slot=R.slot
 left:S.left=R.left
 kept:S.kept=R.kept
 given:S.given=R.given
 named:∀b,(S.named b).getD 0=0↔hasN R.named R.named.length b=false
 pos:∀b,0≤(S.named b).getD 0
 over:R.over=Sc.done c S
 give:R.over=false→R.slot=c.slots→S.give=R.give
 none:S.slot<c.slots→S.give = .none
theorem nextR_eq{named:Int→Option Int}{row:List Int}(h:∀b,(named b).getD 0=0↔hasN row row.length b=false): ∀(left kept:List Int),nextL named kept left=nextR row kept left
 | [],kept=>rfl
 | b :: l,kept=>by
  unfold nextL nextR
  by_cases hb:(named b).getD 0=0
  ·rw [if_pos hb,if_neg (by rw [(h b).1 hb]; simp)]
  ·have:hasN row row.length b=true:=by
    by_cases hx:hasN row row.length b=true
    ·exact hx
    ·exact absurd ((h b).2 (by simpa using hx)) hb
   rw [if_neg hb,if_pos this]
   exact nextR_eq h l _
theorem hasN_app{row:List Int}{x b:Int}: hasN (row++[x]) (row++[x]).length b=(hasN row row.length b||(b==x)):=by
 unfold hasN
 simp [List.take_of_length_le]
 rw [Bool.eq_iff_iff]; simp
theorem alike_next{c:Cfg}{S:Sc}{R:Rs}(h1:S.slot=c.slots)(h2:S.slot=R.slot)(h3:S.left=R.left)(h4:S.kept=R.kept)(h5:S.given=R.given)
  (h6:∀b,(S.named b).getD 0=0↔hasN R.named R.named.length b=false) (h7:∀b,0≤(S.named b).getD 0) (h8:R.over=false):Alike c (S.next c) (R.next c):=by
 have e:nextL S.named S.kept S.left=nextR R.named R.kept R.left:=by rw [nextR_eq h6,h3,h4]
 unfold Sc.next Rs.next
 cases hl:(nextR R.named R.kept R.left).2 with
 | nil=>exact⟨h2,by simp [e,hl],by simp [e],h5,h6,h7,by simp [Sc.done,e,hl,h1],by simp,by intro hx; simp only at hx; omega⟩
 | cons b l=>exact⟨h2,by simp [e,hl],by simp [e],h5,h6,h7,by simp [Sc.done,e,hl,h8],by simp [e,hl],by intro hx; simp only at hx; omega⟩
theorem alike_look{c:Cfg}{S:Sc}{R:Rs}{w:Int}(hw:0≤w∧w≤18446744073709551615)(h:Alike c S R):
  (∀b,((S.look c w).named b).getD 0=0↔hasN (R.look w).named (R.look w).named.length b=false)∧(∀b,0≤((S.look c w).named b).getD 0):=by
 have hh:=hi32_lt hw
 unfold Sc.look Rs.look
 by_cases h0:hi32 w=0
 ·have:¬ 0≤hi32 w-1:=by omega
  simp only [if_neg this,if_pos h0]
  exact⟨h.named,h.pos⟩
 ·have:0≤hi32 w-1:=by omega
  simp only [if_pos this,if_neg h0]
  constructor
  ·intro b
   rw [hasN_app]
   unfold updM
   by_cases hb:b=lo32 w
   ·have:=h.pos (lo32 w)
    simp only [hb,if_true,Option.getD_some,beq_self_eq_true,Bool.or_true]
    constructor
    ·intro hx; omega
    ·intro hx; cases hx
   ·simp only [if_neg hb,h.named b]
    have:(b==lo32 w)=false:=by simpa using hb
    rw [this,Bool.or_false]
  ·intro b
   unfold updM
   split
   ·have:=h.pos (lo32 w); simp only [Option.getD_some]; omega
   ·exact h.pos b
theorem alike_step{c:Cfg}{S:Sc}{R:Rs}{A B:Ar}(h:Alike c S R)(hs:S.slot≤c.slots)(hw:RngW A.ws)(hAB:A.ws=B.ws):
  Alike c (S.step c A).1 (R.step c B).1:=by
 unfold Rs.step
 by_cases ho:R.over=true
 ·rw [if_pos ho]
  have hd:=h.over; rw [ho] at hd
  have hd':S.slot=c.slots∧S.give=none:=by simpa [Sc.done] using hd.symm
  have:S.step c A=(S,A):=by
   unfold Sc.step
   rw [hd'.2]
   simp only
   rw [if_neg (by omega)]
  rw [this]
  exact h
 ·rw [if_neg ho]
  have ho':R.over=false:=by simpa using ho
  by_cases hsl:R.slot<c.slots
  ·have hg:=h.none (by rw [h.slot]; exact hsl)
   have hsl':S.slot<c.slots:=by rw [h.slot]; exact hsl
   have hlk:=alike_look (w:=A.ws.getD (slotAt c S.slot).toNat 0) (hw _) h
   rw [if_pos hsl]
   unfold Sc.step
   rw [hg]
   simp only
   rw [if_pos hsl',←h.slot,←hAB]
   by_cases hl:S.slot+1=c.slots
   ·rw [if_pos hl,if_pos hl]
    exact alike_next hl (by simp [Sc.look,Rs.look,h.slot]) h.left h.kept h.given hlk.1 hlk.2 ho'
   ·rw [if_neg hl,if_neg hl]
    refine⟨by simp [Sc.look,Rs.look,h.slot],h.left,h.kept,h.given,hlk.1,hlk.2, ?_, ?_, ?_⟩
    ·simp [Rs.look,ho',Sc.done,Sc.look,hl]
    ·intro _ hx
     simp only [Rs.look] at hx
     rw [←h.slot] at hx; omega
    ·intro _; exact hg
  ·rw [if_neg hsl]
   have hsl':R.slot=c.slots:=by have:=h.slot; omega
   have hge:=h.give ho' hsl'
   rw [←hge]
   cases hG:S.give with
   | none=>
    exfalso
    have:=h.over
    rw [ho'] at this
    simp [Sc.done,hG,h.slot,hsl'] at this
   | some G=>
    have hst:G.step c A=((G.step c B).1,(G.step c A).2):=by
     have:(G.step c A).1=(G.step c B).1:=by
      unfold Gv.step
      split <;> simp only [hAB]
      split <;> rfl
     rw [←this]
    have hph:(G.step c A).1=(G.step c B).1:=by rw [hst]
    unfold Sc.step
    rw [hG]
    simp only
    by_cases h0:(G.step c A).1.ph=0
    ·rw [if_pos h0,if_pos (by rw [←hph]; exact h0)]
     exact alike_next (by simp only; rw [h.slot,hsl']) h.slot (by simp [h.left]) h.kept (by simp [h.left,h.given]) h.named h.pos ho'
    ·rw [if_neg h0,if_neg (by rw [←hph]; exact h0)]
     refine⟨h.slot,h.left,h.kept,h.given,h.named,h.pos, ?_, ?_, ?_⟩
     ·simp [ho',Sc.done]
     ·intro _ _; simp [hph]
     ·intro hx; simp only at hx; rw [h.slot] at hx; omega
end Go.Sx
namespace Go.Sx
def GvR(c:Cfg)(G:Gv): Prop:=(1≤G.ph∧G.ph≤3)∧G.head=3+clsOf c G.block∧0≤clsOf c G.block∧(0≤G.seen∧G.seen≤18446744073709551615)
theorem GvR.ok{c:Cfg}(hc:c.Ok){n:Nat}(hn:(n:Int)=sizeOfC c){G:Gv}(h:GvR c G): Gv.Ok c n G:=by
 obtain⟨h1,h2,h3,h4⟩:=h
 have a1:=clsOf_le c G.block
 have a2:=sizeOfC_ok hc
 have a3:=clsOf_ok h3
 have a4:=blockAt_ok hc h3
 simp only [Cfg.Ok] at hc
 exact⟨h1.2,by omega,h4,by omega,by omega⟩
end Go.Sx
namespace Go.Sx
theorem nextR_none{named kept left kept0 left0:List Int}(h:nextR named kept left=nextR named kept0 left0)(hl:left=[])(s:Int)(o:Bool)(given:List Int)(g:Option Gv)(c:Cfg):
  Rs.next c ⟨s,o,left0,named,kept0,given,g⟩=⟨s,true,left,named,kept,given,none⟩:=by
 subst hl
 simp only [Rs.next,←h,nextR]
theorem nextR_some{named kept left kept0 left0:List Int}(h:nextR named kept left=nextR named kept0 left0)(hl:0<left.length)(hn:hasN named named.length (left.getD 0 0)=false)(s:Int)(o:Bool)(given:List Int)(g:Option Gv)(c:Cfg):
  Rs.next c ⟨s,o,left0,named,kept0,given,g⟩=⟨s,o,left,named,kept,given,some (newGv c (left.getD 0 0))⟩:=by
 cases left with
 | nil=>simp at hl
 | cons b l=>
  simp only [List.getD_cons_zero] at hn
  have e:nextR named kept (b :: l)=(kept,b :: l):=by rw [nextR,if_neg (by rw [hn]; simp)]
  simp only [Rs.next,←h,e,List.getD_cons_zero]
theorem nextR_on{named kept left:List Int}(hl:0<left.length)(hn:hasN named named.length (left.getD 0 0)=true):
  nextR named (kept++[left.getD 0 0]) (left.drop 1)=nextR named kept left:=by
 cases left with
 | nil=>simp at hl
 | cons b l=>
  simp only [List.getD_cons_zero,List.drop_succ_cons,List.drop_zero] at hn ⊢
  conv=>rhs; rw [nextR,if_pos hn]
end Go.Sx
namespace Go.Sx
def Rs.Ok(c:Cfg)(S:Rs): Prop:=(0≤S.slot∧S.slot≤c.slots)∧(S.kept.length+S.left.length≤100∧S.given.length≤100∧S.named.length≤90)∧(∀b∈S.left,0≤clsOf c b)∧
 (S.over=false→S.slot=c.slots→∃G,S.give=some G∧GvR c G∧0<S.left.length)∧(S.over=false→S.slot<c.slots→S.give=none)
end Go.Sx
namespace Go.Sx
def goodAt(c:Cfg)(xs:List Int)(i:Nat): Prop:=0≤clsOf c (xs.getD i 0)∧hasN xs i (xs.getD i 0)=false
def goodRow(c:Cfg)(xs:List Int): Prop := ∀i:Nat,i<xs.length→goodAt c xs i
def newRs(xs:List Int): Rs:=⟨0,false,xs,[],[],[],none⟩
theorem goodAt_step{c:Cfg}{xs:List Int}{i:Int}(h0:0≤i)(h:∀j:Nat,(j:Int)<i→goodAt c xs j)(h1:0≤clsOf c (xs.getD i.toNat 0))(h2:hasN xs i.toNat (xs.getD i.toNat 0)=false):
  ∀j:Nat,(j:Int)<i+1→goodAt c xs j:=by
 intro j hj
 by_cases hji:(j:Int)<i
 ·exact h j hji
 ·have:j=i.toNat:=by omega
  subst this; exact⟨h1,h2⟩
theorem hasN_take{pre xs:List Int}{b:Int}: hasN (pre++b :: xs) pre.length ((pre++b :: xs).getD pre.length 0)=pre.contains b:=by
 unfold hasN
 simp
theorem newOk_good{c:Cfg}: ∀(xs pre:List Int) (m:Int→Option Int),(∀b,(m b).getD 0=if b∈pre then 1 else 0)→
  (newOk c m xs=true↔∀i:Nat,pre.length≤i→i<(pre++xs).length→goodAt c (pre++xs) i)
 | [],pre,m,hm=>by
  simp only [newOk,true_iff]
  intro i h1 h2
  simp at h2; omega
 | b :: l,pre,m,hm=>by
  have hb:=hm b
  have hget:(pre++b :: l).getD pre.length 0=b:=by simp
  have hhas:hasN (pre++b :: l) pre.length b=pre.contains b:=by have:=hasN_take (pre:=pre) (xs:=l) (b:=b); rw [hget] at this; exact this
  unfold newOk
  by_cases hc:clsOf c b<0
  ·rw [if_pos hc]
   constructor
   ·intro h; cases h
   ·intro h
    have:=(h pre.length (Nat.le_refl _) (by simp)).1
    rw [hget] at this; omega
  ·rw [if_neg hc]
   by_cases hp:b∈pre
   ·rw [hb,if_pos hp,if_pos (by decide)]
    constructor
    ·intro h; cases h
    ·intro h
     have:=(h pre.length (Nat.le_refl _) (by simp)).2
     rw [hget,hhas] at this
     simp [hp] at this
   ·rw [hb,if_neg hp,if_neg (by decide)]
    have ih:=newOk_good (c:=c) l (pre++[b]) (updM m b (0+1)) (by
     intro x
     unfold updM
     by_cases hx:x=b
     ·simp [hx]
     ·rw [if_neg hx,hm x]; simp [hx])
    rw [ih]
    simp only [List.append_assoc,List.singleton_append,List.length_append,List.length_cons,List.length_nil]
    constructor
    ·intro h i h1 h2
     by_cases hi:i=pre.length
     ·subst hi
      refine⟨by rw [hget]; omega, ?_⟩
      rw [hget,hhas]
      simpa using hp
     ·exact h i (by omega) (by omega)
    ·intro h i h1 h2
     exact h i (by omega) (by omega)
theorem newOk_iff{c:Cfg}{xs:List Int}: newOk c (fun _=>none) xs=true↔goodRow c xs:=by
 rw [newOk_good xs [] (fun _=>none) (by intro b; simp)]
 simp [goodRow]
end Go.Sx
namespace Go.Sx
structure ScI (c:Cfg) (S:Sc):Prop where
 slot:0≤S.slot∧S.slot≤c.slots
 gslot:S.give≠none→S.slot=c.slots
 len:S.kept.length+S.left.length+S.given.length≤100
 cls:∀b∈S.left,0≤clsOf c b
 named:∀k,0≤(S.named k).getD 0∧(S.named k).getD 0≤S.slot
 give:∀G,S.give=some G→GvR c G∧S.left.head? = some G.block
 over:S.slot=c.slots→S.give=none→S.left=[]
theorem ScI.ok{c:Cfg}(hc:c.Ok){S:Sc}{n:Nat}(hn:(n:Int)=sizeOfC c)(h:ScI c S): S.Ok c n:=by
 have:=h.len
 refine⟨h.slot,h.gslot,by omega,h.cls,h.named, ?_⟩
 intro G hG
 obtain⟨h1,h2⟩:=h.give G hG
 refine⟨h1.ok hc hn, ?_⟩
 cases hl:S.left with
 | nil=>rw [hl] at h2; simp at h2
 | cons x l=>simp
theorem ArW.ok{c:Cfg}{A:Ar}{k:Int}(h:ArW c A k)(hk:k≤1000000000): A.Ok c:=
 ⟨h.1,h.2.1,h.2.2.1,by have:=h.2.2.2; omega⟩
theorem ArW.mono{c:Cfg}{A:Ar}{k k':Int}(h:ArW c A k)(hk:k≤k'): ArW c A k':=⟨h.1,h.2.1,h.2.2.1,by have:=h.2.2.2; omega⟩
theorem ArW.load{c:Cfg}{A:Ar}{k:Int}(h:ArW c A k)(i:Int): ArW c (A.load i) (k+1):=by
 have:=h.2.2.2
 exact⟨h.1,h.2.1,h.2.2.1,by simp only [Ar.load]; omega⟩
theorem ArW.store{c:Cfg}{A:Ar}{k:Int}(h:ArW c A k)(i:Int){v:Int}(hv:0≤v∧v≤18446744073709551615): ArW c (A.store i v) (k+1):=by
 have:=h.2.2.2
 exact⟨by simp only [Ar.store,List.length_set]; exact h.1,h.2.1,rngW_set h.2.2.1 _ hv,by simp only [Ar.store]; omega⟩
theorem ArW.swapT{c:Cfg}{A:Ar}{k:Int}(h:ArW c A k)(i:Int){v:Int}(hv:0≤v∧v≤18446744073709551615): ArW c (A.swapT i v) (k+1):=by
 have:=h.2.2.2
 exact⟨by simp only [Ar.swapT,List.length_set]; exact h.1,h.2.1,rngW_set h.2.2.1 _ hv,by simp only [Ar.swapT]; omega⟩
theorem ArW.swapF{c:Cfg}{A:Ar}{k:Int}(h:ArW c A k)(i:Int): ArW c (A.swapF i) (k+1):=by
 have:=h.2.2.2
 exact⟨h.1,h.2.1,h.2.2.1,by simp only [Ar.swapF]; omega⟩
theorem lo32_rng(w:Int): 0≤lo32 w∧lo32 w≤18446744073709551615:=by have:=lo32_lt w; omega
theorem turnW_rng{w b:Int}(hb:0≤b∧b≤4294967295): 0≤turnW w b∧turnW w b≤18446744073709551615:=by
 unfold turnW
 have:=wrap32_rng (hi32 w+1)
 omega
theorem gv_step{c:Cfg}(hc:c.Ok){G:Gv}{A:Ar}{k:Int}(hG:GvR c G)(hA:ArW c A k):
  ArW c (G.step c A).2 (k+1)∧((G.step c A).1.ph≠0→GvR c (G.step c A).1)∧(G.step c A).1.block=G.block:=by
 obtain⟨h1,h2,h3,h4⟩:=hG
 have hb:=clsOf_ok h3
 have hbr:0≤G.block∧G.block≤4294967295:=by simp only [Cfg.Ok] at hc; omega
 unfold Gv.step
 split
 ·exact⟨hA.load _,fun _=>⟨⟨by simp,by simp⟩,h2,h3,hA.2.2.1 _⟩,rfl⟩
 ·exact⟨hA.store _ (lo32_rng _),fun _=>⟨⟨by simp,by simp⟩,h2,h3,h4⟩,rfl⟩
 ·split
  ·exact⟨hA.swapT _ (turnW_rng hbr),fun h=>absurd rfl h,rfl⟩
  ·exact⟨hA.swapF _,fun _=>⟨⟨by simp,by simp⟩,h2,h3,h4⟩,rfl⟩
 ·exact⟨hA.mono (by omega),fun _=>⟨h1,h2,h3,h4⟩,rfl⟩
theorem nextL_sub{named:Int→Option Int}: ∀(left kept:List Int),((nextL named kept left).1++(nextL named kept left).2=kept++left)∧
  (∀b∈(nextL named kept left).2,b∈left)∧(∀b,(nextL named kept left).2.head? = some b→(named b).getD 0=0)
 | [],kept=>⟨rfl,by simp [nextL],by simp [nextL]⟩
 | b :: l,kept=>by
  unfold nextL
  by_cases hb:(named b).getD 0=0
  ·rw [if_pos hb]
   exact⟨rfl,fun _ h=>h,by simp [hb]⟩
  ·rw [if_neg hb]
   obtain⟨h1,h2,h3⟩:=nextL_sub (named:=named) l (kept++[b])
   exact⟨by rw [h1]; simp,fun x hx=>List.mem_cons_of_mem _ (h2 x hx),h3⟩
theorem newGv_ok{c:Cfg}{b:Int}(h:0≤clsOf c b): GvR c (newGv c b):=⟨by simp [newGv],rfl,h,by simp [newGv]⟩
theorem sc_next{c:Cfg}{S:Sc}(h1:S.slot=c.slots)(h0:0≤c.slots)(h2:S.kept.length+S.left.length+S.given.length≤100)(h3:∀b∈S.left,0≤clsOf c b)
  (h4:∀k,0≤(S.named k).getD 0∧(S.named k).getD 0≤S.slot):ScI c (S.next c):=by
 obtain⟨e1,e2,e3⟩:=nextL_sub (named:=S.named) S.left S.kept
 have el:=congrArg List.length e1
 simp only [List.length_append] at el
 refine⟨by show 0≤S.slot∧S.slot≤c.slots; omega,fun _=>h1,by simp only [Sc.next]; omega,fun b hb=>h3 b (e2 b hb),h4, ?_, ?_⟩
 ·intro G hG
  simp only [Sc.next,Option.map_eq_some_iff] at hG
  obtain⟨b,hb,rfl⟩:=hG
  exact⟨newGv_ok (h3 b (e2 b (List.mem_of_mem_head? (by rw [hb]; rfl)))),hb⟩
 ·intro _ hg
  simp only [Sc.next,Option.map_eq_none_iff,List.head?_eq_none_iff] at hg
  exact hg
theorem look_named{c:Cfg}{S:Sc}{w:Int}(h:∀k,0≤(S.named k).getD 0∧(S.named k).getD 0≤S.slot):
  ∀k,0≤((S.look c w).named k).getD 0∧((S.look c w).named k).getD 0≤(S.look c w).slot:=by
 intro k
 have h1:=h k
 have h2:=h (lo32 w)
 simp only [Sc.look]
 split
 ·unfold updM
  split
  ·simp only [Option.getD_some]; omega
  ·omega
 ·omega
theorem sc_step{c:Cfg}(hc:c.Ok){S:Sc}{A:Ar}{k:Int}(h:ScI c S)(hA:ArW c A k): ScI c (S.step c A).1∧ArW c (S.step c A).2 (k+1):=by
 have hc':=hc
 simp only [Cfg.Ok] at hc'
 unfold Sc.step
 cases hg:S.give with
 | none=>
  simp only
  by_cases hs:S.slot<c.slots
  ·rw [if_pos hs]
   refine⟨?_,hA.load _⟩
   have hl:=look_named (c:=c) (w:=A.ws.getD (slotAt c S.slot).toNat 0) h.named
   simp only
   split
   ·exact sc_next (by simpa [Sc.look] using ‹_›) (by omega) h.len h.cls hl
   ·have:=h.slot
    refine⟨by simp only [Sc.look]; omega, ?_,h.len,h.cls,hl, ?_, ?_⟩
    ·intro hx; exact absurd hg hx
    ·intro G hG; exact h.give G hG
    ·intro hx; simp only [Sc.look] at hx; omega
  ·rw [if_neg hs]
   exact⟨h,hA.mono (by omega)⟩
 | some G=>
  simp only
  obtain⟨hG,hb⟩:=h.give G hg
  obtain⟨g1,g2,g3⟩:=gv_step hc hG hA
  have hsl:=h.gslot (by rw [hg]; simp)
  have hlen:=h.len
  split
  ·refine⟨sc_next hsl (by omega) ?_ (fun b hb=>h.cls b (List.mem_of_mem_drop hb)) h.named,g1⟩
   cases hl:S.left with
   | nil=>rw [hl] at hb; simp at hb
   | cons x l=>rw [hl] at hlen; simp at hlen ⊢; omega
  ·refine⟨⟨h.slot,fun _=>hsl,h.len,h.cls,h.named, ?_, ?_⟩,g1⟩
   ·intro G' hG'
    simp only [Option.some.injEq] at hG'
    subst hG'
    exact⟨g2 ‹_›,by rw [hb,g3]⟩
   ·intro _ hx; simp at hx
structure RsI (c:Cfg) (R:Rs):Prop where
 named:(R.named.length:Int)≤R.slot
 none:R.slot<c.slots→R.give = .none∧R.over=false
theorem rs_ok{c:Cfg}(hc:c.Ok){S:Sc}{R:Rs}(h:ScI c S)(hA:Alike c S R)(hR:RsI c R): R.Ok c:=by
 have h1:=h.slot
 have h2:=h.len
 have h3:=hR.named
 have h4:=hA.slot
 simp only [Cfg.Ok] at hc
 refine⟨by omega,⟨by rw [←hA.kept,←hA.left]; omega,by rw [←hA.given]; omega,by omega⟩,by rw [←hA.left]; exact h.cls, ?_,fun _ hx=>(hR.none hx).1⟩
 intro ho hs
 have hge:=hA.give ho hs
 have hov:=hA.over
 rw [ho] at hov
 cases hg:S.give with
 | none=>simp [Sc.done,hg,hA.slot,hs] at hov
 | some G=>
  obtain⟨h5,h6⟩:=h.give G hg
  refine⟨G,by rw [←hge,hg],h5, ?_⟩
  rw [←hA.left]
  cases hl:S.left with
  | nil=>rw [hl] at h6; simp at h6
  | cons x l=>simp
theorem rsI_step{c:Cfg}{S:Sc}{R:Rs}{B:Ar}(h:ScI c S)(hA:Alike c S R)(hR:RsI c R): RsI c (R.step c B).1:=by
 have h1:=hR.named
 have hs:=h.slot
 have he:=hA.slot
 have hnext:∀R':Rs,(R'.next c).slot=R'.slot∧(R'.next c).named=R'.named:=by
  intro R'; unfold Rs.next; split <;> exact⟨rfl,rfl⟩
 have hlk:∀w,((R.look w).named.length:Int)≤(R.look w).slot:=by
  intro w; simp only [Rs.look]; split
  ·omega
  ·simp only [List.length_append,List.length_cons,List.length_nil]; omega
 unfold Rs.step
 split
 ·exact hR
 ·split
  ·simp only
   split
   ·refine⟨?_, ?_⟩
    ·rw [(hnext _).1,(hnext _).2]; exact hlk _
    ·rw [(hnext _).1]; intro hx; simp only [Rs.look] at hx; omega
   ·refine⟨hlk _,fun hx => ?_⟩
    have:=hR.none ‹_›
    exact this
  ·split
   ·exact hR
   ·split
    ·refine⟨?_, ?_⟩
     ·rw [(hnext _).1,(hnext _).2]; exact h1
     ·rw [(hnext _).1]; intro hx; simp only at hx; omega
    ·exact⟨h1,fun hx=>by simp only at hx; omega⟩
structure Twin (A B:Ar) (k:Int):Prop where
 ws:A.ws=B.ws
 steps:A.steps-B.steps=k
 lk:A.lk=B.lk
 lw:A.lw=B.lw
 lv:A.lv=B.lv
 lc:A.lc=B.lc
theorem Twin.load{A B:Ar}{k:Int}(h:Twin A B k)(i:Int): Twin (A.load i) (B.load i) k:=⟨h.ws,by have:=h.steps; simp only [Ar.load]; omega,rfl,rfl,by simp only [Ar.load,h.ws],rfl⟩
theorem Twin.store{A B:Ar}{k:Int}(h:Twin A B k)(i v:Int): Twin (A.store i v) (B.store i v) k:=⟨by simp only [Ar.store,h.ws],by have:=h.steps; simp only [Ar.store]; omega,rfl,rfl,by simp only [Ar.store,h.ws],rfl⟩
theorem Twin.swapT{A B:Ar}{k:Int}(h:Twin A B k)(i v:Int): Twin (A.swapT i v) (B.swapT i v) k:=⟨by simp only [Ar.swapT,h.ws],by have:=h.steps; simp only [Ar.swapT]; omega,rfl,rfl,by simp only [Ar.swapT,h.ws],rfl⟩
theorem Twin.swapF{A B:Ar}{k:Int}(h:Twin A B k)(i:Int): Twin (A.swapF i) (B.swapF i) k:=⟨h.ws,by have:=h.steps; simp only [Ar.swapF]; omega,rfl,rfl,by simp only [Ar.swapF,h.ws],rfl⟩
theorem gv_twin{c:Cfg}{G:Gv}{A B:Ar}{k:Int}(h:Twin A B k): Twin (G.step c A).2 (G.step c B).2 k∧(G.step c A).1=(G.step c B).1:=by
 unfold Gv.step
 split
 ·exact⟨h.load _,by simp only [h.ws]⟩
 ·exact⟨h.store _ _,rfl⟩
 ·rw [h.ws]; split
  ·exact⟨h.swapT _ _,rfl⟩
  ·exact⟨h.swapF _,rfl⟩
 ·exact⟨h,rfl⟩
theorem sc_twin{c:Cfg}{S:Sc}{R:Rs}{A B:Ar}{k:Int}(hI:ScI c S)(hA:Alike c S R)(hR:RsI c R)(h:Twin A B k): Twin (S.step c A).2 (R.step c B).2 k:=by
 have hs:=hI.slot
 have he:=hA.slot
 unfold Rs.step
 by_cases ho:R.over=true
 ·rw [if_pos ho]
  have hd:=hA.over
  rw [ho] at hd
  have hd':S.slot=c.slots∧S.give = .none:=by simpa [Sc.done] using hd.symm
  unfold Sc.step
  rw [hd'.2]
  simp only
  rw [if_neg (by omega)]
  exact h
 ·rw [if_neg ho]
  by_cases hsl:R.slot<c.slots
  ·have hg:=hA.none (by omega)
   rw [if_pos hsl]
   unfold Sc.step
   rw [hg]
   simp only
   rw [if_pos (by omega),he]
   exact h.load _
  ·rw [if_neg hsl]
   have hge:=hA.give (by simpa using ho) (by omega)
   unfold Sc.step
   cases hG:S.give with
   | none=>
    rw [←hge,hG]
    simp only
    rw [if_neg (by omega)]
    exact h
   | some G=>
    rw [←hge,hG]
    simp only
    obtain⟨g1,g2⟩:=gv_twin (c:=c) (G:=G) h
    rw [←g2]
    split
    ·exact g1
    ·exact g1
end Go.Sx
namespace Go.Sx
def runSc(c:Cfg): Nat→Sc→Ar→Sc×Ar
 | 0,S,A=>(S,A)
 | n+1,S,A=>runSc c n (S.step c A).1 (S.step c A).2
theorem runSc_add{c:Cfg}: ∀(m n:Nat) (S:Sc) (A:Ar),runSc c (m+n) S A=runSc c n (runSc c m S A).1 (runSc c m S A).2
 | 0,n,S,A=>by rw [Nat.zero_add]; rfl
 | m+1,n,S,A=>by
  rw [Nat.succ_add]
  exact runSc_add m n _ _
theorem step_done{c:Cfg}{S:Sc}{A:Ar}(h1:S.slot=c.slots)(h2:S.give=none): S.step c A=(S,A):=by
 unfold Sc.step
 rw [h2]
 simp only
 rw [if_neg (by omega)]
theorem runSc_done{c:Cfg}{S:Sc}{A:Ar}(h1:S.slot=c.slots)(h2:S.give=none): ∀n,runSc c n S A=(S,A)
 | 0=>rfl
 | n+1=>by rw [runSc,step_done h1 h2]; exact runSc_done h1 h2 n
def nmF(c:Cfg)(ws:List Int): Nat→Int→(Int→Option Int)→(Int→Option Int)
 | 0,_,m=>m
 | k+1,i,m=>nmF c ws k (i+1) (if 0≤hi32 (ws.getD (slotAt c i).toNat 0)-1 then updM m (lo32 (ws.getD (slotAt c i).toNat 0)) ((m (lo32 (ws.getD (slotAt c i).toNat 0))).getD 0+1) else m)
def nmAll(c:Cfg)(ws:List Int): Int→Option Int:=nmF c ws c.slots.toNat 0 (fun _=>none)
theorem run_slots{c:Cfg}: ∀(k:Nat) (S:Sc) (A:Ar),S.give=none→c.slots=S.slot+((k+1:Nat):Int)→
  (runSc c (k+1) S A).1=({S with slot:=c.slots,named:=nmF c A.ws (k+1) S.slot S.named}:Sc).next c∧(runSc c (k+1) S A).2.ws=A.ws∧(runSc c (k+1) S A).2.steps=A.steps+(k+1:Nat)
 | 0,S,A,hg,hk=>by
  have e:S.step c A=((S.look c (A.ws.getD (slotAt c S.slot).toNat 0)).next c,A.load (slotAt c S.slot)):=by
   unfold Sc.step; rw [hg]; simp only; rw [if_pos (by omega),if_pos (by omega)]
  simp only [runSc,e]
  refine⟨?_,rfl,rfl⟩
  have e2:S.slot+1=c.slots:=by omega
  simp only [Sc.look,e2]
  rfl
 | k+1,S,A,hg,hk=>by
  have e:S.step c A=(S.look c (A.ws.getD (slotAt c S.slot).toNat 0),A.load (slotAt c S.slot)):=by
   unfold Sc.step; rw [hg]; simp only; rw [if_pos (by omega),if_neg (by omega)]
  rw [runSc,e]
  obtain⟨h1,h2,h3⟩:=run_slots (c:=c) k (S.look c (A.ws.getD (slotAt c S.slot).toNat 0)) (A.load (slotAt c S.slot)) hg (by simp only [Sc.look]; omega)
  refine⟨?_,h2, ?_⟩
  ·rw [h1]; rfl
  ·rw [h3]; simp only [Ar.load]; omega
theorem getD_set_ne{ws:List Int}{i j:Nat}{v:Int}(h:i≠j): (ws.set i v).getD j 0=ws.getD j 0:=by
 rw [List.getD_eq_getElem?_getD,List.getElem?_set_ne h,←List.getD_eq_getElem?_getD]
theorem getD_set_eq{ws:List Int}{i:Nat}{v:Int}(h:i<ws.length): (ws.set i v).getD i 0=v:=by
 rw [List.getD_eq_getElem?_getD,List.getElem?_set_self h]; rfl
def gave(c:Cfg)(b:Int)(A:Ar): Ar:=
 ((A.load (3+clsOf c b)).store (blockAt c b) (lo32 (A.ws.getD (3+clsOf c b).toNat 0))).swapT (3+clsOf c b) (turnW (A.ws.getD (3+clsOf c b).toNat 0) b)
theorem run_give{c:Cfg}(hc:c.Ok){S:Sc}{b:Int}{l:List Int}{A:Ar}(hb:0≤clsOf c b)(hl:S.left=b :: l)(hg:S.give=some (newGv c b)):
  runSc c 3 S A=(({S with given:=S.given++[b],left:=l,give:=none}:Sc).next c,gave c b A):=by
 have hb1:=blockAt_ok hc hb
 have hb2:=clsOf_le c b
 have e1:S.step c A=({S with give:=some ⟨3+clsOf c b,A.ws.getD (3+clsOf c b).toNat 0,b,2⟩},A.load (3+clsOf c b)):=by
  unfold Sc.step; rw [hg]; rfl
 obtain⟨sl,named,left,kept,given,give⟩:=S
 simp only at hl hg
 subst hl
 rw [runSc,e1,runSc]
 have e2:∀w,Sc.step c ⟨sl,named,b :: l,kept,given,some ⟨3+clsOf c b,w,b,2⟩⟩ (A.load (3+clsOf c b))=(⟨sl,named,b :: l,kept,given,some ⟨3+clsOf c b,w,b,3⟩⟩,(A.load (3+clsOf c b)).store (blockAt c b) (lo32 w)):=by
  intro w; rfl
 rw [e2,runSc]
 have e3:(((A.load (3+clsOf c b)).store (blockAt c b) (lo32 (A.ws.getD (3+clsOf c b).toNat 0))).ws.getD (3+clsOf c b).toNat 0)=A.ws.getD (3+clsOf c b).toNat 0:=by
  simp only [Ar.store,Ar.load]
  exact getD_set_ne (by omega)
 have e4:Sc.step c ⟨sl,named,b :: l,kept,given,some ⟨3+clsOf c b,A.ws.getD (3+clsOf c b).toNat 0,b,3⟩⟩ ((A.load (3+clsOf c b)).store (blockAt c b) (lo32 (A.ws.getD (3+clsOf c b).toNat 0))) =
   (Sc.next c ⟨sl,named,l,kept,given++[b],none⟩,gave c b A):=by
  unfold Sc.step
  simp only [Gv.step]
  rw [if_pos e3]
  rfl
 simp only [e4,runSc]
def isNamed(m:Int→Option Int)(b:Int): Bool:=(m b).getD 0 != 0
theorem next_named{c:Cfg}{s:Int}{m:Int→Option Int}{b:Int}{l kept given:List Int}{g:Option Gv}(h:isNamed m b=true):
  Sc.next c ⟨s,m,b :: l,kept,given,g⟩=Sc.next c ⟨s,m,l,kept++[b],given,g⟩:=by
 have h':¬(m b).getD 0=0:=by simpa [isNamed] using h
 simp only [Sc.next]
 rw [show nextL m kept (b :: l)=nextL m (kept++[b]) l from by rw [nextL,if_neg h']]
theorem next_free{c:Cfg}{s:Int}{m:Int→Option Int}{b:Int}{l kept given:List Int}{g:Option Gv}(h:isNamed m b=false):
  Sc.next c ⟨s,m,b :: l,kept,given,g⟩=⟨s,m,b :: l,kept,given,some (newGv c b)⟩:=by
 have h':(m b).getD 0=0:=by simpa [isNamed] using h
 simp only [Sc.next]
 rw [show nextL m kept (b :: l)=(kept,b :: l) from by rw [nextL,if_pos h']]
 rfl
theorem next_nil{c:Cfg}{s:Int}{m:Int→Option Int}{kept given:List Int}{g:Option Gv}:
  Sc.next c ⟨s,m,[],kept,given,g⟩=⟨s,m,[],kept,given,none⟩:=rfl
theorem run_gives{c:Cfg}(hc:c.Ok){m:Int→Option Int}: ∀(left kept given:List Int) (g:Option Gv) (A:Ar),(∀b∈left,0≤clsOf c b)→
  (runSc c (3*(left.filter (fun b => !isNamed m b)).length) (Sc.next c ⟨c.slots,m,left,kept,given,g⟩) A).1 =
   ⟨c.slots,m,[],kept++left.filter (isNamed m),given++left.filter (fun b => !isNamed m b),none⟩∧
  (runSc c (3*(left.filter (fun b => !isNamed m b)).length) (Sc.next c ⟨c.slots,m,left,kept,given,g⟩) A).2.steps=A.steps+3*((left.filter (fun b => !isNamed m b)).length:Nat)
 | [],kept,given,g,A,_=>by simp [next_nil,runSc]
 | b :: l,kept,given,g,A,h=>by
  cases hb:isNamed m b with
  | true=>
   rw [next_named hb]
   obtain⟨h1,h2⟩:=run_gives hc l (kept++[b]) given g A (fun x hx=>h x (List.mem_cons_of_mem _ hx))
   simp only [List.filter_cons,hb,Bool.not_true,if_true,Bool.false_eq_true,if_false]
   exact⟨by rw [h1]; simp,h2⟩
  | false=>
   rw [next_free hb]
   have hcl:=h b (List.mem_cons_self ..)
   obtain⟨h1,h2⟩:=run_gives hc l kept (given++[b]) none (gave c b A) (fun x hx=>h x (List.mem_cons_of_mem _ hx))
   simp only [List.filter_cons,hb,Bool.not_false,if_true,Bool.false_eq_true,if_false,List.length_cons]
   have e:=run_give hc (S:=⟨c.slots,m,b :: l,kept,given,some (newGv c b)⟩) (A:=A) hcl rfl rfl
   rw [show 3*((l.filter fun b => !isNamed m b).length+1)=3+3*(l.filter fun b => !isNamed m b).length by omega,runSc_add,e]
   simp only
   refine⟨by rw [h1]; simp, ?_⟩
   rw [h2]
   simp only [gave,Ar.swapT,Ar.store,Ar.load]
   omega
theorem run_alone{c:Cfg}(hc:c.Ok){xs:List Int}{A:Ar}(h:∀b∈xs,0≤clsOf c b){n:Nat}(hn:c.slots+3*(xs.length:Nat)≤(n:Nat)):
  (runSc c n (newSc xs) A).1=⟨c.slots,nmAll c A.ws,[],xs.filter (isNamed (nmAll c A.ws)),xs.filter (fun b => !isNamed (nmAll c A.ws) b),none⟩∧
  (runSc c n (newSc xs) A).2.steps=A.steps+c.slots+3*((xs.filter (fun b => !isNamed (nmAll c A.ws) b)).length:Nat):=by
 have hc':=hc
 simp only [Cfg.Ok] at hc'
 obtain⟨k,hk⟩:∃k:Nat,c.slots=(0:Int)+((k+1:Nat):Int):=⟨(c.slots-1).toNat,by omega⟩
 obtain⟨h1,h2,h3⟩:=run_slots k (newSc xs) A rfl hk
 have hf:(xs.filter (fun b => !isNamed (nmAll c A.ws) b)).length≤xs.length:=List.length_filter_le ..
 have hm:nmF c A.ws (k+1) (newSc xs).slot (newSc xs).named=nmAll c A.ws:=by
  unfold nmAll
  rw [show c.slots.toNat=k+1 by omega]
  rfl
 rw [hm] at h1
 obtain⟨h4,h5⟩:=run_gives hc (m:=nmAll c A.ws) xs [] [] none (runSc c (k+1) (newSc xs) A).2 h
 obtain⟨r,hr⟩:∃r,n=(k+1)+(3*(xs.filter (fun b => !isNamed (nmAll c A.ws) b)).length+r):=⟨n-(k+1)-3*(xs.filter (fun b => !isNamed (nmAll c A.ws) b)).length,by omega⟩
 rw [hr,runSc_add,h1,runSc_add]
 simp only [newSc] at h4 h5 ⊢
 rw [h4,runSc_done rfl rfl]
 refine⟨by simp, ?_⟩
 rw [h5]
 simp only [newSc] at h3
 rw [h3]
 omega
end Go.Sx
namespace Go.Sx
theorem blockAt_lt{c:Cfg}(hc:c.Ok): ∀(k:Nat) {a:Int},1≤a→a+((k+1:Nat):Int)≤c.n0+c.n1→blockAt c a<blockAt c (a+((k+1:Nat):Int))
 | 0,a,h1,h2=>by
  have hc':=hc
  simp only [Cfg.Ok] at hc'
  have:=ref_block hc (b:=a) (by omega)
  have e:a+((0+1:Nat):Int)=a+1:=by omega
  rw [e,this]
  split <;> omega
 | k+1,a,h1,h2=>by
  have hc':=hc
  simp only [Cfg.Ok] at hc'
  have ih:=blockAt_lt hc k h1 (by omega)
  have:=ref_block hc (b:=a+((k+1:Nat):Int)) (by omega)
  have e:a+((k+1+1:Nat):Int)=a+((k+1:Nat):Int)+1:=by omega
  rw [e,this]
  split <;> omega
theorem blockAt_inj{c:Cfg}(hc:c.Ok){a b:Int}(ha:0≤clsOf c a)(hb:0≤clsOf c b)(h:a≠b): blockAt c a≠blockAt c b:=by
 have h1:=clsOf_ok ha
 have h2:=clsOf_ok hb
 rcases Int.lt_or_gt_of_ne h with hlt | hlt
 ·have:=blockAt_lt hc (b-a-1).toNat (a:=a) (by omega) (by omega)
  rw [show a+(((b-a-1).toNat+1:Nat):Int)=b by omega] at this
  omega
 ·have:=blockAt_lt hc (a-b-1).toNat (a:=b) (by omega) (by omega)
  rw [show b+(((a-b-1).toNat+1:Nat):Int)=a by omega] at this
  omega
theorem blockAt_lo{c:Cfg}(hc:c.Ok){b:Int}(h:0≤clsOf c b): 5+c.slots+c.topics≤blockAt c b:=by
 have h1:=clsOf_ok h
 have hr:0≤b-1∧b-1<c.n0+c.n1:=by omega
 have:=blk_nl hc hr
 unfold blockAt
 rw [if_pos hr]
 omega
def Chain(c:Cfg)(k:Int)(ws:List Int): Int→List Int→Prop
 | p,[]=>lo32 (ws.getD p.toNat 0)=0
 | p,b :: l=>lo32 (ws.getD p.toNat 0)=b∧clsOf c b=k∧Chain c k ws (blockAt c b) l
theorem chain_cls{c:Cfg}{k:Int}{ws:List Int}: ∀ {l:List Int} {p:Int},Chain c k ws p l→∀b∈l,clsOf c b=k
 | [],_,_,b,hb=>by simp at hb
 | x :: l,p,h,b,hb=>by
  rcases List.mem_cons.1 hb with rfl | hb
  ·exact h.2.1
  ·exact chain_cls h.2.2 b hb
theorem chain_congr{c:Cfg}{k:Int}{ws ws':List Int}: ∀ {l:List Int} {p:Int},Chain c k ws p l→ws'.getD p.toNat 0=ws.getD p.toNat 0→(∀b∈l,ws'.getD (blockAt c b).toNat 0=ws.getD (blockAt c b).toNat 0)→Chain c k ws' p l
 | [],p,h,e,_=>by show lo32 _ = 0; rw [e]; exact h
 | x :: l,p,h,e,eb=>⟨by rw [e]; exact h.1,h.2.1,chain_congr h.2.2 (eb x (List.mem_cons_self ..)) (fun b hb=>eb b (List.mem_cons_of_mem _ hb))⟩
theorem chain_move{c:Cfg}{k:Int}{ws:List Int}{p q:Int}{l:List Int}(h:Chain c k ws p l)(e:lo32 (ws.getD q.toNat 0)=lo32 (ws.getD p.toNat 0)): Chain c k ws q l:=by
 cases l with
 | nil=>show lo32 _ = 0; rw [e]; exact h
 | cons x l=>exact⟨by rw [e]; exact h.1,h.2⟩
theorem chain_set{c:Cfg}{k:Int}{ws:List Int}{p:Int}{l:List Int}{q:Nat}{v:Int}(h:Chain c k ws p l)(hp:q≠p.toNat)(hb:∀b∈l,q≠(blockAt c b).toNat): Chain c k (ws.set q v) p l:=
 chain_congr h (getD_set_ne hp) (fun b hbl=>getD_set_ne (hb b hbl))
structure Inv (c:Cfg) (ws:List Int) (x y:Sc) (l0 l1 all:List Int):Prop where
 ch0:Chain c 0 ws 3 l0
 ch1:Chain c 1 ws 4 l1
 perm:(l0++l1++(x.kept++x.left)++(y.kept++y.left)).Perm all
 px:∀G,x.give=some G→G.ph=3→lo32 (ws.getD (blockAt c G.block).toNat 0)=lo32 G.seen
 py:∀G,y.give=some G→G.ph=3→lo32 (ws.getD (blockAt c G.block).toNat 0)=lo32 G.seen
 gx:∀b∈x.given,b∈l0++l1
 gy:∀b∈y.given,b∈l0++l1
theorem lo32_lo32(w:Int): lo32 (lo32 w)=lo32 w:=by
 have:=lo32_lt w
 unfold lo32 at *
 omega
theorem lo32_turnW{w b:Int}(hb:0≤b∧b≤4294967295): lo32 (turnW w b)=b:=by
 unfold turnW lo32
 omega
end Go.Sx
namespace Go.Sx
theorem mkLink_ok{c:Cfg}: ∀(k:Nat) (b:Int) (A:Ar) (m:Int),ArW c A m→(0≤b∧b+(k:Nat)≤1000)→ArW c (mkLink c k b A) (m+(k:Nat))
 | 0,b,A,m,h,_=>by simpa [mkLink] using h
 | k+1,b,A,m,h,hb=>by
  rw [mkLink]
  refine(mkLink_ok k (b+1) _ (m+1) ?_ (by omega)).mono (by omega)
  split
  ·exact h.store _ (by omega)
  ·exact h.mono (by omega)
theorem mkAr_ok{c:Cfg}(hc:c.Ok)(aw:Option Addr)(cw:Nat): ArW c (mkAr c aw cw) 40:=by
 have hs:=sizeOfC_ok hc
 have hc':=hc
 simp only [Cfg.Ok] at hc'
 have h0:ArW c (newAr aw cw (sizeOfC c)) 0:=⟨rfl,by simp only [newAr,List.length_replicate]; omega,rngW_rep _,by simp [newAr]⟩
 have h1:=(h0.store 0 (v:=7597137583116413295) (by omega)).store 1 (packW_rng c)
 have h2:ArW c (mkHead c (((newAr aw cw (sizeOfC c)).store 0 7597137583116413295).store 1 (packW c))) 4:=by
  unfold mkHead
  repeat' split
  ·exact((h1.store 3 (v:=1) (by omega)).store 4 (by omega)).mono (by omega)
  ·exact(h1.store 4 (by omega)).mono (by omega)
  ·exact(h1.store 3 (v:=1) (by omega)).mono (by omega)
  ·exact h1.mono (by omega)
 exact(mkLink_ok _ 1 _ 4 h2 (by omega)).mono (by omega)
theorem hasN_nodup: ∀ {xs:List Int},xs.Nodup→∀i,i<xs.length→hasN xs i (xs.getD i 0)=false:=by
 intro xs h i hi
 unfold hasN
 simp only [List.contains_eq_mem,decide_eq_false_iff_not]
 intro hm
 rw [List.mem_take_iff_getElem] at hm
 obtain⟨j,hj,he⟩:=hm
 rw [List.getD_eq_getElem?_getD,List.getElem?_eq_getElem hi] at he
 simp only [Option.getD_some] at he
 rw [List.nodup_iff_pairwise_ne,List.pairwise_iff_getElem] at h
 exact h j i (by omega) hi (by omega) he
end Go.Sx
namespace Go.Sx
theorem ctlAt_ok{c:Cfg}(hc:c.Ok){i:Int}(h:0≤i∧i<c.topics): 5+c.slots+c.topics≤ctlAt c i∧ctlAt c i<sizeOfC c:=by
 have hb:=size_nl hc
 unfold ctlAt
 rw [if_pos h]
 simp only [Cfg.Ok] at hc
 have h1:0≤i*(1+2*c.small):=Int.mul_nonneg h.1 (by omega)
 have h2:(i+1)*(1+2*c.small)≤c.topics*(1+2*c.small):=Int.mul_le_mul_of_nonneg_right (by omega) (by omega)
 rw [Int.add_mul,Int.one_mul] at h2
 unfold sizeOfC
 omega
theorem ctlAt_pos{c:Cfg}(hc:c.Ok){i:Int}(h:0≤i∧i<c.topics): 0≤ctlAt c i:=by
 have:=(ctlAt_ok hc h).1
 simp only [Cfg.Ok] at hc
 omega
theorem markW_rng{cl b:Int}(h:0≤cl∧cl≤1000)(hb:0≤b∧b≤65535): U64 (markW cl b):=by unfold U64 markW; omega
theorem gu_step{c:Cfg}(hc:c.Ok){G:Gu}{A:Ar}{k:Int}(hG:Gu.Ok c A.n G)(hA:ArW c A k):
  Gu.Ok c (G.step c.retry A).2.n (G.step c.retry A).1∧ArW c (G.step c.retry A).2 (k+1):=by
 obtain⟨cl,ep,sl,wd,sn,bk,fl,cm,cd,ph⟩:=G
 obtain⟨hph,hsl,hwd,hcl,hbk,hf0,hr1,hr2⟩:=hG
 simp only at hph hsl hwd hcl hbk hf0 hr1 hr2
 have hR:U64 (A.ws.getD wd.toNat 0):=hA.2.2.1 _
 have hcr:=ctl_rng hR
 have hc':=hc
 simp only [Cfg.Ok] at hc'
 have hcl3:0≤cl∧cl≤1000:=by omega
 have look:∀(G:Gu),G.slot=sl→G.word=wd→G.client=cl→0≤G.failed→G.failed<c.retry→Gu.Ok c A.n (G.look (A.ws.getD wd.toNat 0)):=by
  intro G h1 h2 h3 h4 h5
  unfold Gu.look
  split
  ·exact⟨show(2:Nat)≤3 by decide,by rw [h1]; exact hsl,by rw [h2]; exact hwd,by rw [h3]; exact hcl,hcr.1,by dsimp only; omega,by dsimp only; omega,fun _=>h5⟩
  ·exact⟨show(0:Nat)≤3 by decide,by rw [h1]; exact hsl,by rw [h2]; exact hwd,by rw [h3]; exact hcl,by dsimp only; omega,by dsimp only; omega,by dsimp only; omega,fun h=>absurd rfl h⟩
 match ph,hph with
 | 0,_=>exact⟨⟨show(0:Nat)≤3 by decide,hsl,hwd,hcl,hbk,hf0,hr1,hr2⟩,hA.mono (by omega)⟩
 | 1,_=>exact⟨look _ rfl rfl rfl hf0.1 (hr2 (by decide)),hA.load wd⟩
 | 2,_=>exact⟨⟨show(3:Nat)≤3 by decide,hsl,hwd,hcl,hbk,hf0,hr1,fun _=>hr2 (by decide)⟩,hA.store sl (markW_rng hcl3 hbk)⟩
 | 3,_=>
  have h3:=hr2 (by decide)
  by_cases hq:A.ws.getD wd.toNat 0=sn
  ·have e:Gu.step c.retry ⟨cl,ep,sl,wd,sn,bk,fl,cm,cd,3⟩ A=(⟨cl,ep,sl,wd,sn,bk,fl,(A.load wd).steps,0,0⟩,A.load wd):=by
    show(if _ then _ else _) = _
    rw [if_pos hq]
   rw [e]
   exact⟨⟨show(0:Nat)≤3 by decide,hsl,hwd,hcl,hbk,hf0,hr1,fun h=>absurd rfl h⟩,hA.load wd⟩
  ·by_cases hr:fl+1=c.retry
   ·have e:Gu.step c.retry ⟨cl,ep,sl,wd,sn,bk,fl,cm,cd,3⟩ A=(⟨cl,ep,sl,wd,sn,0,fl+1,(A.load wd).steps,17,0⟩,A.load wd):=by
     show(if _ then _ else _) = _
     rw [if_neg hq,if_pos hr]
    rw [e]
    exact⟨⟨show(0:Nat)≤3 by decide,hsl,hwd,hcl,by dsimp only; omega,by dsimp only; omega,by dsimp only; omega,fun h=>absurd rfl h⟩,hA.load wd⟩
   ·have e:Gu.step c.retry ⟨cl,ep,sl,wd,sn,bk,fl,cm,cd,3⟩ A=(Gu.look ⟨cl,ep,sl,wd,sn,bk,fl+1,(A.load wd).steps,cd,3⟩ (A.ws.getD wd.toNat 0),A.load wd):=by
     show(if _ then _ else _) = _
     rw [if_neg hq,if_neg hr]
    rw [e]
    exact⟨look _ rfl rfl rfl (by dsimp only; omega) (by dsimp only; omega),hA.load wd⟩
theorem newGu_ok{c:Cfg}(hc:c.Ok){cl sl tp ep:Int}{n:Nat}(hn:(n:Int)=sizeOfC c)(hcl:0≤cl∧cl<c.clients)(hsl:0≤sl∧sl<c.slots)(htp:0≤tp∧tp<c.topics): Gu.Ok c n (newGu c cl sl tp ep):=by
 have h1:=slotAt_ok hc hsl
 have h2:=ctlAt_ok hc htp
 have hc':=hc
 simp only [Cfg.Ok] at hc'
 exact⟨by show 1≤3; decide,by dsimp only [newGu]; omega,by dsimp only [newGu]; omega,hcl,by dsimp only [newGu]; omega,by dsimp only [newGu]; omega,by dsimp only [newGu]; omega,fun _=>by dsimp only [newGu]; omega⟩
theorem step_one(r cl ep sl wd sn bk fl cm cd:Int)(A:Ar): Gu.step r ⟨cl,ep,sl,wd,sn,bk,fl,cm,cd,1⟩ A=(Gu.look ⟨cl,ep,sl,wd,sn,bk,fl,(A.load wd).steps,cd,1⟩ (A.ws.getD wd.toNat 0),A.load wd):=rfl
end Go.Sx
namespace Go.Sx
end Go.Sx
namespace Go.Sx
theorem told_of{G:Gu}(h:G.ph=0): Gu.told G=(G.block,G.code)∧Gu.comm G=G.commit:=by
 obtain⟨cl,ep,sl,wd,sn,bk,fl,cm,cd,ph⟩:=G
 subst h; exact⟨rfl,rfl⟩
end Go.Sx
namespace Go.Sx
end Go.Sx
namespace Go.Sx
theorem al_begin{c:Cfg}(hc:c.Ok)(xs:List Int): Alike c (newSc xs) (newRs xs)∧RsI c (newRs xs):=by
 have hc':=hc
 simp only [Cfg.Ok] at hc'
 have hs:¬(0:Int)=c.slots:=by omega
 refine⟨⟨rfl,rfl,rfl,rfl,fun b => ?_,fun b => ?_, ?_,fun _ h=>absurd h hs,fun _=>rfl⟩,⟨by simp [newRs],fun _=>⟨rfl,rfl⟩⟩⟩
 ·simp [newSc,newRs,hasN]
 ·simp [newSc]
 ·simp [newRs,newSc,Sc.done,hs]
theorem tw_last{A B:Ar}{k:Int}(h:Twin A B k): [(A.lk==B.lk),(A.lw==B.lw),(A.lv==B.lv),(A.lc==B.lc)].all id=true:=by
 simp [h.lk,h.lw,h.lv,h.lc]
theorem tm_rng(x:Int){s:Int}(h:1≤s∧s≤8): -8<x.tmod s∧x.tmod s<8:=by
 have h1:=Int.tmod_lt_of_pos x (show 0<s by omega)
 rcases Int.le_total 0 x with hx | hx
 ·have:=Int.tmod_nonneg s hx; omega
 ·have h3:=Int.tmod_lt_of_pos (-x) (show 0<s by omega)
  rw [Int.neg_tmod] at h3; omega
theorem rest_rng(x:Int){s:Int}(h:1≤s∧s≤8): 0≤(x.tmod s+s).tmod s∧(x.tmod s+s).tmod s<s:=by
 have h1 : -s<x.tmod s:=by
  rcases Int.le_total 0 x with hx | hx
  ·have:=Int.tmod_nonneg s hx; omega
  ·have h3:=Int.tmod_lt_of_pos (-x) (show 0<s by omega)
   rw [Int.neg_tmod] at h3; omega
 exact⟨Int.tmod_nonneg s (by omega),Int.tmod_lt_of_pos _ (by omega)⟩
end Go.Sx
namespace Go.Sx
theorem step_two(r cl ep sl wd sn bk fl cm cd:Int)(A:Ar): Gu.step r ⟨cl,ep,sl,wd,sn,bk,fl,cm,cd,2⟩ A=(⟨cl,ep,sl,wd,sn,bk,fl,cm,cd,3⟩,A.store sl (markW cl bk)):=rfl
theorem gu_twin{r:Int}{G:Gu}{A B:Ar}(h:Twin A B 0): (G.step r A).1=(G.step r B).1∧Twin (G.step r A).2 (G.step r B).2 0:=by
 obtain⟨cl,ep,sl,wd,sn,bk,fl,cm,cd,ph⟩:=G
 have hst:(A.load wd).steps=(B.load wd).steps:=by have:=h.steps; simp only [Ar.load]; omega
 match ph with
 | 0=>exact⟨rfl,h⟩
 | 1=>rw [step_one,step_one,h.ws,hst]; exact⟨rfl,h.load _⟩
 | 2=>rw [step_two,step_two]; exact⟨rfl,h.store _ _⟩
 | n+3=>
  have e:∀A:Ar,Gu.step r ⟨cl,ep,sl,wd,sn,bk,fl,cm,cd,n+3⟩ A=if A.ws.getD wd.toNat 0=sn then(⟨cl,ep,sl,wd,sn,bk,fl,(A.load wd).steps,0,0⟩,A.load wd) else if fl+1=r then(⟨cl,ep,sl,wd,sn,0,fl+1,(A.load wd).steps,17,0⟩,A.load wd) else(Gu.look ⟨cl,ep,sl,wd,sn,bk,fl+1,(A.load wd).steps,cd,n+3⟩ (A.ws.getD wd.toNat 0),A.load wd):=fun _=>rfl
  rw [e,e,h.ws,hst]
  split
  ·exact⟨rfl,h.load _⟩
  ·split <;> exact⟨rfl,h.load _⟩
def rmHead(c:Cfg)(pw:Int): List Int:=
 let W:=((List.replicate (sizeOfC c).toNat (0:Int)).set 0 7597137583116413295).set 1 pw
 let W:=if 0<c.n0 then W.set 3 1 else W
 if 0<c.n1 then W.set 4 (c.n0+1) else W
def rmLink(c:Cfg): Nat→Int→List Int→List Int
 | 0,_,W=>W
 | k+1,b,W=>rmLink c k (b+1) (if clsOf c b=clsOf c (b+1) then W.set (blockAt c b).toNat (b+1) else W)
def rmCnt: Nat→Int→Ar→Ar
 | 0,_,A=>A
 | k+1,i,A=>rmCnt k (i+1) (if A.ws.getD i.toNat 0≠0 then {A with steps:=A.steps+1,lk:=2,lw:=i,lv:=A.ws.getD i.toNat 0,lc:=true} else A)
def rmAr(c:Cfg)(pw:Int)(aw:Option Addr)(cw:Nat): Ar:=
 rmCnt (sizeOfC c).toNat 0 ⟨aw,cw,(List.replicate (sizeOfC c).toNat (0:Int)).length,rmLink c (c.n0+c.n1-1).toNat 1 (rmHead c pw),0,0,0,0,false⟩
theorem rmLink_next{c:Cfg}{b:Int}{W:List Int}(h:b<c.n0+c.n1):
  rmLink c (c.n0+c.n1-b).toNat b W=rmLink c (c.n0+c.n1-(b+1)).toNat (b+1) (if clsOf c b=clsOf c (b+1) then W.set (blockAt c b).toNat (b+1) else W):=by
 have:(c.n0+c.n1-b).toNat=(c.n0+c.n1-(b+1)).toNat+1:=by omega
 rw [this,rmLink]
theorem rmLink_end{c:Cfg}{b:Int}{W:List Int}(h:¬b<c.n0+c.n1): rmLink c (c.n0+c.n1-b).toNat b W=W:=by
 have:(c.n0+c.n1-b).toNat=0:=by omega
 rw [this,rmLink]
theorem rmCnt_next{n i:Int}{A:Ar}(h:i<n):
  rmCnt (n-i).toNat i A=rmCnt (n-(i+1)).toNat (i+1) (if A.ws.getD i.toNat 0≠0 then {A with steps:=A.steps+1,lk:=2,lw:=i,lv:=A.ws.getD i.toNat 0,lc:=true} else A):=by
 have:(n-i).toNat=(n-(i+1)).toNat+1:=by omega
 rw [this,rmCnt]
theorem rmCnt_end{n i:Int}{A:Ar}(h:¬i<n): rmCnt (n-i).toNat i A=A:=by
 have:(n-i).toNat=0:=by omega
 rw [this,rmCnt]
def rpackW(c:Cfg): Int:=(((((((((0*128+c.n1)*128+c.s1)*128+c.n0)*128+c.s0)*128+c.retry)*128+c.clients)*128+c.slots)*128+c.small)*128+c.topics)
theorem rmCnt_same: ∀(k:Nat) (i:Int) (A:Ar),(rmCnt k i A).ws=A.ws∧(rmCnt k i A).n=A.n∧(rmCnt k i A).aw=A.aw∧(rmCnt k i A).cw=A.cw
 | 0,_,_=>⟨rfl,rfl,rfl,rfl⟩
 | k+1,i,A=>by
  rw [rmCnt]
  have h:=rmCnt_same k (i+1) (if A.ws.getD i.toNat 0≠0 then {A with steps:=A.steps+1,lk:=2,lw:=i,lv:=A.ws.getD i.toNat 0,lc:=true} else A)
  split at h <;> rename_i hx
  ·rw [if_pos hx]; exact h
  ·rw [if_neg hx]; exact h
theorem rm_arW{c:Cfg}(hc:c.Ok){pw:Int}{A:Ar}{k:Int}{aw:Option Addr}{cw:Nat}(hA:ArW c A k)(h:Twin A (rmAr c pw aw cw) 0): ArW c (rmAr c pw aw cw) k:=by
 have hs:=(rmCnt_same (sizeOfC c).toNat 0 ⟨aw,cw,(List.replicate (sizeOfC c).toNat (0:Int)).length,rmLink c (c.n0+c.n1-1).toNat 1 (rmHead c pw),0,0,0,0,false⟩).2.1
 have hz:=sizeOfC_ok hc
 have h1:=hA.1
 have h2:=hA.2.1
 have h3:=hA.2.2.2
 have h4:=h.steps
 have hn:((rmAr c pw aw cw).n:Int)=sizeOfC c:=by
  show((rmCnt _ _ _).n:Int) = _
  rw [hs]; show(((List.replicate (sizeOfC c).toNat (0:Int)).length:Nat):Int) = _; rw [List.length_replicate]; omega
 exact⟨by rw [←h.ws]; omega,hn,by rw [←h.ws]; exact hA.2.2.1,by omega⟩
end Go.Sx
namespace Go.Sx
end Go.Sx
namespace Go.Sx
theorem nmF_zero{c:Cfg}{ws:List Int}: ∀(k:Nat) (i:Int) (m:Int→Option Int),(∀j,i≤j→j<i+(k:Nat)→ws.getD (slotAt c j).toNat 0=0)→nmF c ws k i m=m
 | 0,_,_,_=>rfl
 | k+1,i,m,h=>by
  rw [nmF,h i (by omega) (by omega),if_neg (by decide)]
  exact nmF_zero k (i+1) m (fun j h1 h2=>h j (by omega) (by omega))
theorem again{c:Cfg}(hc:c.Ok){A:Ar}{xs:List Int}(hx:∀b∈xs,0≤clsOf c b)(hz:∀j,0≤j→j<c.slots→A.ws.getD (slotAt c j).toNat 0=0){n:Nat}(hn:c.slots+3*(xs.length:Nat)≤(n:Nat)):
  (runSc c n (newSc xs) A).1=⟨c.slots,fun _=>none,[],[],xs,none⟩:=by
 have h:=(run_alone hc hx hn (A:=A)).1
 have hm:nmAll c A.ws=fun _=>none:=nmF_zero _ _ _ (fun j h1 h2=>hz j h1 (by have hc':=hc; simp only [Cfg.Ok] at hc'; omega))
 rw [hm] at h
 rw [h]
 have e1:xs.filter (isNamed fun _=>none)=[]:=List.filter_eq_nil_iff.2 fun b _=>by simp [isNamed]
 have e2:xs.filter (fun b => !isNamed (fun _=>none) b)=xs:=List.filter_eq_self.2 fun b _=>by simp [isNamed]
 rw [e1,e2]
end Go.Sx
namespace Go.Sx
end Go.Sx
namespace Go.Sx
end Go.Sx
namespace Go.Sx
theorem newSc_ok1{c:Cfg}(hc:c.Ok){xs:List Int}(hl:xs.length≤100)(h:∀b∈xs,0≤clsOf c b): ScI c (newSc xs):=by
 simp only [Cfg.Ok] at hc
 exact⟨by simp [newSc]; omega,fun h=>absurd rfl h,by simp [newSc]; omega,h,fun k=>by simp [newSc],fun G hG=>by simp [newSc] at hG,fun hs=>by simp [newSc] at hs; omega⟩
theorem blockAt_lo2{c:Cfg}(hc:c.Ok){b:Int}(h:0≤clsOf c b): 5+c.slots+c.topics+c.topics*(1+2*c.small)≤blockAt c b:=by
 have h1:=clsOf_ok h
 have hr:0≤b-1∧b-1<c.n0+c.n1:=by omega
 have:=blk_nl hc hr
 unfold blockAt
 rw [if_pos hr]
 omega
theorem step_ctl{c:Cfg}(hc:c.Ok){x:Sc}{A:Ar}(hx:ScI c x){t:Int}(ht:0≤t∧t<c.topics): (x.step c A).2.ws.getD (ctlAt c t).toNat 0=A.ws.getD (ctlAt c t).toNat 0:=by
 have hlo:=ctlAt_ok hc ht
 have hhi:ctlAt c t<5+c.slots+c.topics+c.topics*(1+2*c.small):=by
  have hc':=hc
  simp only [Cfg.Ok] at hc'
  have h2:(t+1)*(1+2*c.small)≤c.topics*(1+2*c.small):=Int.mul_le_mul_of_nonneg_right (by omega) (by omega)
  rw [Int.add_mul,Int.one_mul] at h2
  unfold ctlAt; rw [if_pos ht]; omega
 unfold Sc.step
 cases hg:x.give with
 | none=>simp only; split <;> rfl
 | some G=>
  simp only
  obtain⟨⟨g1,g2,g3,g4⟩,_⟩:=hx.give G hg
  have hb:=blockAt_lo2 hc g3
  have hcl:=clsOf_le c G.block
  have hc':=hc
  simp only [Cfg.Ok] at hc'
  have key:(G.step c A).2.ws.getD (ctlAt c t).toNat 0=A.ws.getD (ctlAt c t).toNat 0:=by
   unfold Gv.step
   split
   ·rfl
   ·exact getD_set_ne (by omega)
   ·split
    ·exact getD_set_ne (by omega)
    ·rfl
   ·rfl
  split <;> exact key
theorem gu_n(r:Int)(G:Gu)(A:Ar): (G.step r A).2.n=A.n:=by
 obtain⟨cl,ep,sl,wd,sn,bk,fl,cm,cd,ph⟩:=G
 match ph with
 | 0=>rfl
 | 1=>rfl
 | 2=>rfl
 | n+3=>
  have e:Gu.step r ⟨cl,ep,sl,wd,sn,bk,fl,cm,cd,n+3⟩ A=if A.ws.getD wd.toNat 0=sn then(⟨cl,ep,sl,wd,sn,bk,fl,(A.load wd).steps,0,0⟩,A.load wd) else if fl+1=r then(⟨cl,ep,sl,wd,sn,0,fl+1,(A.load wd).steps,17,0⟩,A.load wd) else(Gu.look ⟨cl,ep,sl,wd,sn,bk,fl+1,(A.load wd).steps,cd,n+3⟩ (A.ws.getD wd.toNat 0),A.load wd):=rfl
  rw [e]
  split
  ·rfl
  ·split <;> rfl
end Go.Sx
namespace Go.Sx
structure Cl where
 client:Int
 at_:Int
 slot:Int
def Cl.step(c:Cfg)(K:Cl)(A:Ar): Cl×Ar:=
 if K.at_ = -1 then(K,A)
 else if A.ws.getD (slotAt c K.at_).toNat 0=0 then(⟨K.client,-1,K.at_⟩,A.swapT (slotAt c K.at_) (markW K.client 0))
 else(⟨K.client,if K.at_+1=c.slots then -1 else K.at_+1,K.slot⟩,A.swapF (slotAt c K.at_))
structure Cl.Ok (c:Cfg) (K:Cl):Prop where
 client:0≤K.client∧K.client<c.clients
 at_:K.at_ = -1∨(0≤K.at_∧K.at_<c.slots)
 slot:K.slot = -1∨(0≤K.slot∧K.slot<c.slots)
 first:K.at_≠-1→K.slot = -1
theorem cl_step{c:Cfg}(hc:c.Ok){K:Cl}{A:Ar}{k:Int}(hK:K.Ok c)(hA:ArW c A k): (K.step c A).1.Ok c∧ArW c (K.step c A).2 (k+1):=by
 have hc':=hc
 simp only [Cfg.Ok] at hc'
 have h1:=hK.client
 unfold Cl.step
 split
 ·exact⟨hK,hA.mono (by omega)⟩
 ·rename_i hne
  have hat:0≤K.at_∧K.at_<c.slots:=hK.at_.resolve_left hne
  split
  ·exact⟨⟨h1,.inl rfl,.inr hat,fun h=>absurd rfl h⟩,hA.swapT _ (markW_rng (by omega) (by decide))⟩
  ·refine⟨⟨h1, ?_,hK.slot,fun _=>hK.first hne⟩,hA.swapF _⟩
   by_cases hs:K.at_+1=c.slots
   ·left; show(if K.at_+1=c.slots then(-1:Int) else K.at_+1) = -1; rw [if_pos hs]
   ·right; show 0≤(if K.at_+1=c.slots then(-1:Int) else K.at_+1)∧(if K.at_+1=c.slots then(-1:Int) else K.at_+1)<c.slots; rw [if_neg hs]; omega
theorem cl_keeps(c:Cfg)(K:Cl)(A:Ar): (K.step c A).1.client=K.client∧(K.step c A).2.n=A.n:=by
 unfold Cl.step
 split
 ·exact⟨rfl,rfl⟩
 ·split <;> exact⟨rfl,rfl⟩
end Go.Sx
namespace Go.Sx
end Go.Sx
namespace Go.Sx
theorem cl_twin{c:Cfg}{K:Cl}{A B:Ar}(h:Twin A B 0): (K.step c A).1=(K.step c B).1∧Twin (K.step c A).2 (K.step c B).2 0:=by
 unfold Cl.step
 rw [h.ws]
 split
 ·exact⟨rfl,h⟩
 ·split
  ·exact⟨rfl,h.swapT _ _⟩
  ·exact⟨rfl,h.swapF _⟩
end Go.Sx
namespace Go.Sx
structure Tk where
 head:Int
 cls:Int
 seen:Int
 block:Int
 after:Int
 ph:Nat
def Tk.step(c:Cfg)(T:Tk)(A:Ar): Tk×Ar:=
 match T.ph with
 | 1=>
  if clsOf c (lo32 (A.ws.getD T.head.toNat 0))=T.cls then(⟨T.head,T.cls,A.ws.getD T.head.toNat 0,lo32 (A.ws.getD T.head.toNat 0),T.after,2⟩,A.load T.head)
  else(⟨T.head,T.cls,A.ws.getD T.head.toNat 0,0,T.after,0⟩,A.load T.head)
 | 2=>(⟨T.head,T.cls,T.seen,T.block,lo32 (A.ws.getD (blockAt c T.block).toNat 0),3⟩,A.load (blockAt c T.block))
 | 3=>if A.ws.getD T.head.toNat 0=T.seen then(⟨T.head,T.cls,T.seen,T.block,T.after,0⟩,A.swapT T.head (turnW T.seen T.after)) else(⟨T.head,T.cls,T.seen,T.block,T.after,1⟩,A.swapF T.head)
 | _=>(T,A)
def newTk(k:Int): Tk:=⟨3+k,k,0,0,0,1⟩
structure Tk.Ok (c:Cfg) (T:Tk):Prop where
 ph:T.ph≤3
 cls:T.cls=0∨T.cls=1
 head:T.head=3+T.cls
 seen:U64 T.seen
 after:0≤T.after∧T.after≤4294967295
 b23:T.ph=2∨T.ph=3→clsOf c T.block=T.cls
 b0:T.ph=0→T.block=0∨clsOf c T.block=T.cls
 bk:0≤T.block∧T.block≤4294967295
theorem lo32_in(w:Int): 0≤lo32 w∧lo32 w≤4294967295:=by have:=lo32_lt w; omega
theorem newTk_ok(c:Cfg){k:Int}(h:k=0∨k=1): (newTk k).Ok c:=by
 constructor <;> simp only [newTk]
 case seen=>unfold U64; decide
 all_goals first | omega | simp
theorem tk_cls{c:Cfg}{T:Tk}{A:Ar}: (T.step c A).1.cls=T.cls:=by
 unfold Tk.step
 split
 ·split <;> rfl
 ·rfl
 ·split <;> rfl
 ·rfl
theorem tk_step{c:Cfg}{T:Tk}{A:Ar}{k:Int}(hT:T.Ok c)(hA:ArW c A k): (T.step c A).1.Ok c∧ArW c (T.step c A).2 (k+1):=by
 obtain⟨hd,cl,sn,bk,af,ph⟩:=T
 obtain⟨h1,h2,h3,h4,h5,h6,h7,h8⟩:=hT
 simp only at h1 h2 h3 h4 h5 h6 h7 h8
 have hR:=hA.2.2.1
 match ph,h1 with
 | 0,_=>exact⟨⟨show(0:Nat)≤3 by decide,h2,h3,h4,h5,h6,h7,h8⟩,hA.mono (by omega)⟩
 | 1,_=>
  unfold Tk.step
  simp only
  split
  ·rename_i hc
   exact⟨⟨show(2:Nat)≤3 by decide,h2,h3,hR _,h5,fun _=>hc,fun h=>absurd h (by show ¬(2:Nat)=0; decide),lo32_in _⟩,hA.load _⟩
  ·refine⟨⟨show(0:Nat)≤3 by decide,h2,h3,hR _,h5,fun h => ?_,fun _=>.inl rfl,⟨Int.le_refl 0,by show(0:Int)≤4294967295; decide⟩⟩,hA.load _⟩
   rcases h with h | h
   ·exact absurd h (by show ¬(0:Nat)=2; decide)
   ·exact absurd h (by show ¬(0:Nat)=3; decide)
 | 2,_=>exact⟨⟨show(3:Nat)≤3 by decide,h2,h3,h4,lo32_in _,fun _=>h6 (.inl rfl),fun h=>absurd h (by show ¬(3:Nat)=0; decide),h8⟩,hA.load _⟩
 | 3,_=>
  have hb:=h6 (.inr rfl)
  unfold Tk.step
  simp only
  split
  ·refine⟨⟨show(0:Nat)≤3 by decide,h2,h3,h4,h5,fun h => ?_,fun _=>.inr hb,h8⟩,hA.swapT _ (turnW_rng h5)⟩
   rcases h with h | h
   ·exact absurd h (by show ¬(0:Nat)=2; decide)
   ·exact absurd h (by show ¬(0:Nat)=3; decide)
  ·refine⟨⟨show(1:Nat)≤3 by decide,h2,h3,h4,h5,fun h => ?_,fun h=>absurd h (by show ¬(1:Nat)=0; decide),h8⟩,hA.swapF _⟩
   rcases h with h | h
   ·exact absurd h (by show ¬(1:Nat)=2; decide)
   ·exact absurd h (by show ¬(1:Nat)=3; decide)
def fitK(c:Cfg)(n:Int): Int:=if n<1 then -1 else if n≤c.s0 then 0 else if n≤c.s1 then 1 else -1
theorem tk_twin{c:Cfg}{T:Tk}{A B:Ar}{k:Int}(h:Twin A B k): (T.step c A).1=(T.step c B).1∧Twin (T.step c A).2 (T.step c B).2 k:=by
 obtain⟨hd,cl,sn,bk,af,ph⟩:=T
 match ph with
 | 0=>exact⟨rfl,h⟩
 | 1=>
  unfold Tk.step
  simp only
  rw [h.ws]
  split <;> exact⟨rfl,h.load _⟩
 | 2=>
  unfold Tk.step
  simp only
  rw [h.ws]
  exact⟨rfl,h.load _⟩
 | 3=>
  unfold Tk.step
  simp only
  rw [h.ws]
  split
  ·exact⟨rfl,h.swapT _ _⟩
  ·exact⟨rfl,h.swapF _⟩
 | n+4=>exact⟨rfl,h⟩
theorem fitK_rng(c:Cfg)(n:Int): fitK c n = -1∨fitK c n=0∨fitK c n=1:=by
 unfold fitK; split
 ·simp
 ·split
  ·simp
  ·split <;> simp
def cfgW: Cfg:=⟨1,4,1,1,4,0,6,0,1⟩
theorem cfgW_ok: cfgW.Ok:=by simp only [Cfg.Ok,cfgW]; omega
def cfgL(q0 q1 q2:Int): Cfg:=⟨1,4,1+bAnd .i64 q0 3,4,4,1+bAnd .i64 q2 3,6,1+bAnd .i64 (bShr .i64 q2 2) 3,1+bAnd .i64 q1 3⟩
theorem cfgL_ok(q0 q1 q2:Int): (cfgL q0 q1 q2).Ok:=by
 have:=and3 q0; have:=and3 q1; have:=and3 q2; have:=and3 (bShr .i64 q2 2)
 simp only [Cfg.Ok,cfgL]; omega
def pubW(w b:Int): Int:=packW3 (ctlEpoch w) 1 0 (ctlGen w+1) b
structure Pb where
 tk:Tk
 i:Int
 seen:Int
 failed:Int
 block:Int
 old:Int
 time:Int
 code:Int
 gv:Gv
 ph:Nat
def Pb.fail(c:Cfg)(S:Pb)(e:Int): Pb:=⟨S.tk,S.i,S.seen,S.failed,S.block,S.old,S.time,e,newGv c S.block,5⟩
def Pb.step(c:Cfg)(at_ ep:Int)(ws:List Int)(S:Pb)(A:Ar): Pb×Ar:=
 match S.ph with
 | 1=>
  if (S.tk.step c A).1.ph=0 then
   if (S.tk.step c A).1.block=0 then(⟨(S.tk.step c A).1,S.i,S.seen,S.failed,S.block,S.old,S.time,18,S.gv,0⟩,(S.tk.step c A).2)
   else(⟨(S.tk.step c A).1,S.i,S.seen,S.failed,(S.tk.step c A).1.block,S.old,S.time,S.code,S.gv,2⟩,(S.tk.step c A).2)
  else(⟨(S.tk.step c A).1,S.i,S.seen,S.failed,S.block,S.old,S.time,S.code,S.gv,1⟩,(S.tk.step c A).2)
 | 2=>(⟨S.tk,S.i+1,S.seen,S.failed,S.block,S.old,S.time,S.code,S.gv,if S.i+1=(ws.length:Int) then 3 else 2⟩,A.store (blockAt c S.block+1+S.i) (ws.getD S.i.toNat 0))
 | 3=>
  if ctlLive (A.ws.getD at_.toNat 0)=true∧ctlEpoch (A.ws.getD at_.toNat 0)=ep∧ctlBusy (A.ws.getD at_.toNat 0)=false then
   if ctlGen (A.ws.getD at_.toNat 0)=2147483647 then(Pb.fail c ⟨S.tk,S.i,A.ws.getD at_.toNat 0,S.failed,S.block,S.old,S.time,S.code,S.gv,3⟩ 16,A.load at_)
   else(⟨S.tk,S.i,A.ws.getD at_.toNat 0,S.failed,S.block,S.old,S.time,S.code,S.gv,4⟩,A.load at_)
  else(Pb.fail c ⟨S.tk,S.i,A.ws.getD at_.toNat 0,S.failed,S.block,S.old,S.time,S.code,S.gv,3⟩ 22,A.load at_)
 | 4=>
  if A.ws.getD at_.toNat 0=S.seen then(⟨S.tk,S.i,S.seen,S.failed,0,ctlBlock S.seen,A.steps+1,0,S.gv,0⟩,A.swapT at_ (pubW S.seen S.block))
  else if S.failed+1=c.retry then(Pb.fail c ⟨S.tk,S.i,S.seen,S.failed+1,S.block,S.old,S.time,S.code,S.gv,4⟩ 17,A.swapF at_)
  else(⟨S.tk,S.i,S.seen,S.failed+1,S.block,S.old,S.time,S.code,S.gv,3⟩,A.swapF at_)
 | 5=>
  if (S.gv.step c A).1.ph=0 then(⟨S.tk,S.i,S.seen,S.failed,0,S.old,S.time,S.code,(S.gv.step c A).1,0⟩,(S.gv.step c A).2)
  else(⟨S.tk,S.i,S.seen,S.failed,S.block,S.old,S.time,S.code,(S.gv.step c A).1,5⟩,(S.gv.step c A).2)
 | _=>(S,A)
def newPb(k:Int): Pb:=⟨newTk k,0,0,0,0,0,0,0,⟨0,0,0,0⟩,1⟩
end Go.Sx
namespace Go.Sx
theorem andNot64(a b:Nat): bAndNot .u64 (a:Int) (b:Int)=IntKind.u64.wrap ((BitVec.ofNat 64 a &&& ~~~ BitVec.ofNat 64 b).toNat:Int):=by
 have h:bAndNot .u64 (a:Int) (b:Int)=IntKind.u64.wrap (((BitVec.ofInt 64 (a:Int)) &&& ~~~ (BitVec.ofInt 64 (b:Int)):BitVec 64).toNat:Int):=rfl
 rw [h,BitVec.ofInt_natCast,BitVec.ofInt_natCast]
theorem andNot_low{w m a:Nat}(hw:w<2 ^ a)(hw2:w<2 ^ 64)(h:∀i,i<a→m.testBit i=false): bAndNot .u64 (w:Int) (m:Int)=w:=by
 have e:(BitVec.ofNat 64 w &&& ~~~ BitVec.ofNat 64 m)=BitVec.ofNat 64 w:=by
  apply BitVec.eq_of_getLsbD_eq
  intro i hi
  simp only [BitVec.getLsbD_and,BitVec.getLsbD_not,BitVec.getLsbD_ofNat]
  by_cases hia:i<a
  ·rw [h i hia]; simp [hi]
  ·have:w.testBit i=false:=Nat.testBit_lt_two_pow (Nat.lt_of_lt_of_le hw (Nat.pow_le_pow_right (by decide) (by omega)))
   rw [this]; simp
 rw [andNot64,e,BitVec.toNat_ofNat,Nat.mod_eq_of_lt hw2,wrapU64]
 omega
theorem andNot_none{v m n:Nat}(hv:v<2 ^ n)(h:∀i,i<n→m.testBit i=true): bAndNot .u64 (v:Int) (m:Int)=0:=by
 have e:(BitVec.ofNat 64 v &&& ~~~ BitVec.ofNat 64 m)=0#64:=by
  apply BitVec.eq_of_getLsbD_eq
  intro i hi
  simp only [BitVec.getLsbD_and,BitVec.getLsbD_not,BitVec.getLsbD_ofNat]
  by_cases hia:i<n
  ·rw [h i hia]; simp [hi]
  ·have:v.testBit i=false:=Nat.testBit_lt_two_pow (Nat.lt_of_lt_of_le hv (Nat.pow_le_pow_right (by decide) (by omega)))
   rw [this]; simp
 rw [andNot64,e]
 rfl
theorem set_fits{v x:Int}(n M:Nat)(hx:x=(M:Int))(hb:∀i,i<n→M.testBit i=true)(hv:0≤v∧v<2 ^ n): bAndNot .u64 v x=0:=by
 obtain⟨v,rfl⟩:=Int.eq_ofNat_of_zero_le hv.1
 rw [hx]
 exact andNot_none (by have:=hv.2; exact_mod_cast this) hb
theorem set_eq{w v x:Int}(a n M:Nat)(hx:x=(M:Int))(hb:∀i,i<a→M.testBit i=false)(han:a+n≤64)(hw:0≤w∧w<2 ^ a)(hv:0≤v∧v<2 ^ n):
  bOr .u64 (bAndNot .u64 w x) (bShl .u64 v (a:Int))=w+v*2 ^ a:=by
 obtain⟨w,rfl⟩:=Int.eq_ofNat_of_zero_le hw.1
 obtain⟨v,rfl⟩:=Int.eq_ofNat_of_zero_le hv.1
 have h1:w<2 ^ a:=by have:=hw.2; exact_mod_cast this
 have h2:v<2 ^ n:=by have:=hv.2; exact_mod_cast this
 have h64:(2:Nat) ^ a≤2 ^ 64:=Nat.pow_le_pow_right (by decide) (by omega)
 have h3:v*2 ^ a<2 ^ 64:=by
  have q:v*2 ^ a<2 ^ n*2 ^ a:=(Nat.mul_lt_mul_right (Nat.two_pow_pos a)).2 h2
  rw [←Nat.pow_add] at q
  exact Nat.lt_of_lt_of_le q (Nat.pow_le_pow_right (by decide) (by omega))
 rw [hx,andNot_low h1 (by omega) hb,shl_lit _ a (by omega)]
 have e:((v:Int)*2 ^ a) % 18446744073709551616=((v*2 ^ a:Nat):Int):=by
  have:((v:Int)*2 ^ a)=((v*2 ^ a:Nat):Int):=by simp
  rw [this]; omega
 rw [e,bOr64 w _ (by omega) h3,Nat.or_comm,Nat.mul_comm v,←Nat.two_pow_add_eq_or_of_lt h1]
 simp [Int.mul_comm,Int.add_comm]
def szK(c:Cfg)(k:Int): Int:=if k=0 then c.s0 else c.s1
theorem blockAt_fit{c:Cfg}(hc:c.Ok){b:Int}(h:0≤clsOf c b): blockAt c b+1+szK c (clsOf c b)≤sizeOfC c:=by
 have h1:=clsOf_ok h
 have hr:0≤b-1∧b-1<c.n0+c.n1:=by omega
 have hn:=blk_nl hc hr
 have hm:=bMin_le (b-1) c.n0
 have hk:clsOf c b=if b≤c.n0 then 0 else 1:=by unfold clsOf; rw [if_pos hr]
 unfold blockAt sizeOfC szK
 rw [if_pos hr,hk]
 simp only [Cfg.Ok] at hc
 by_cases hb:b≤c.n0
 ·have hmm:bMin (b-1) c.n0=b-1:=by unfold bMin; split <;> omega
  rw [if_pos hb,if_pos rfl]
  rw [hmm] at hn ⊢
  have e2:(b-1)*(1+c.s0)+(1+c.s0)≤c.n0*(1+c.s0):=by
   have:(b-1+1)*(1+c.s0)≤c.n0*(1+c.s0):=Int.mul_le_mul_of_nonneg_right (by omega) (by omega)
   rw [Int.add_mul] at this
   omega
  have e3:0≤c.n1*(1+c.s1):=Int.mul_nonneg (by omega) (by omega)
  have e4:(b-1-(b-1))*(1+c.s1)=0:=by rw [Int.sub_self,Int.zero_mul]
  rw [e4]
  omega
 ·have hmm:bMin (b-1) c.n0=c.n0:=by unfold bMin; split <;> omega
  rw [if_neg hb,if_neg (by decide)]
  rw [hmm] at hn ⊢
  have e2:(b-1-c.n0)*(1+c.s1)+(1+c.s1)≤c.n1*(1+c.s1):=by
   have:(b-1-c.n0+1)*(1+c.s1)≤c.n1*(1+c.s1):=Int.mul_le_mul_of_nonneg_right (by omega) (by omega)
   rw [Int.add_mul] at this
   omega
  omega
theorem szK_ok{c:Cfg}(hc:c.Ok)(k:Int): 4≤szK c k∧szK c k≤96:=by
 simp only [Cfg.Ok] at hc; unfold szK; split <;> omega
structure Pb.Ok (c:Cfg) (ws:List Int) (S:Pb):Prop where
 ph:S.ph≤5
 tk:S.tk.Ok c
 tp:S.ph=1→S.tk.ph≠0
 ne:1≤(ws.length:Int)
 fit:(ws.length:Int)≤szK c S.tk.cls
 i0:0≤S.i∧S.i≤(ws.length:Int)
 i2:S.ph=2→S.i<(ws.length:Int)
 i1:S.ph=1→S.i=0
 seen:U64 S.seen
 failed:0≤S.failed∧S.failed≤c.retry
 f4:S.ph≠0→S.ph≠5→S.failed<c.retry
 blk:S.ph≠0→S.ph≠1→clsOf c S.block=S.tk.cls
 bl1:S.ph=1∨S.ph=0→S.block=0
 old:0≤S.old∧S.old≤65535
 ol1:S.ph≠0→S.old=0
 p4:S.ph=4→ctlLive S.seen=true∧ctlBusy S.seen=false∧ctlGen S.seen≠2147483647
 gv:S.ph=5→GvR c S.gv∧S.gv.block=S.block
 cd:S.ph≠0→S.ph≠5→S.code=0
 c0:0≤S.code
 time:0≤S.time∧(S.ph≠0→S.time=0)
theorem newPb_ok{c:Cfg}(hc:c.Ok){k:Int}(h:k=0∨k=1){ws:List Int}(hw:1≤(ws.length:Int))(hf:(ws.length:Int)≤szK c k): (newPb k).Ok c ws:=by
 simp only [Cfg.Ok] at hc
 constructor
 case tk=>exact newTk_ok c h
 case fit=>exact hf
 case seen=>show U64 0; unfold U64; decide
 case time=>exact⟨Int.le_refl _,fun _=>rfl⟩
 all_goals (try simp only [newPb,newTk])
 all_goals first | omega | simp
theorem pubW_rng{w b:Int}(hw:U64 w)(hg:ctlGen w≠2147483647)(hb:0≤b∧b≤65535): U64 (pubW w b):=by
 have:=ctl_rng hw
 unfold pubW
 exact packW3_rng (by omega) (by omega) (by omega) (by omega) hb
theorem pb_step{c:Cfg}(hc:c.Ok){at_ ep:Int}{ws:List Int}{S:Pb}{A:Ar}{k:Int}(hw:∀i:Nat,U64 (ws.getD i 0))(hS:S.Ok c ws)(hA:ArW c A k):
  (S.step c at_ ep ws A).1.Ok c ws∧ArW c (S.step c at_ ep ws A).2 (k+1):=by
 obtain⟨tk,i,sn,fl,bk,od,tm,cd,gv,ph⟩:=S
 obtain⟨h1,h2,h3,hne,h4,h5,h6,h7,h8,h9,h10,h11,h12,h13,h14,h15,h16,h17,hc0,h18⟩:=hS
 simp only at h1 h2 h3 h4 h5 h6 h7 h8 h9 h10 h11 h12 h13 h14 h15 h16 h17 h18 hc0
 have hR:=hA.2.2.1
 have hc':=hc
 simp only [Cfg.Ok] at hc'
 have hst:=hA.2.2.2
 match ph,h1 with
 | 0,_=>exact⟨⟨show(0:Nat)≤5 by decide,h2,h3,hne,h4,h5,h6,h7,h8,h9,h10,h11,h12,h13,h14,h15,h16,h17,hc0,h18⟩,hA.mono (by omega)⟩
 | 1,_=>
  obtain⟨t1,t2⟩:=tk_step h2 hA
  have e1:(Tk.step c tk A).1.cls=tk.cls:=tk_cls
  have hi:=h7 rfl
  have hb:=h12 (.inl rfl)
  have hol:=h14 (by decide)
  have hcd:=h17 (by decide) (by decide)
  have htm:=h18.2 (by decide)
  have hfl:=h10 (by decide) (by decide)
  unfold Pb.step
  simp only
  split
  ·rename_i hz
   split
   ·refine⟨?_,t2⟩
    constructor <;> (try simp only) <;> first | exact t1 | exact h8 | exact hne | (rw [e1]; exact h4) | omega | simp
   ·rename_i hnz
    refine⟨?_,t2⟩
    have hb0:=(t1.b0 hz).resolve_left hnz
    constructor <;> (try simp only) <;> first | exact t1 | exact h8 | exact hne | (rw [e1]; exact h4) | omega | (intros; exact hb0) | simp
  ·rename_i hz
   refine⟨?_,t2⟩
   constructor <;> (try simp only) <;> first | exact t1 | exact h8 | exact hne | (rw [e1]; exact h4) | omega | (intros; exact hz) | simp
 | 2,_=>
  have hi:=h6 rfl
  have hb:=h11 (by decide) (by decide)
  have hol:=h14 (by decide)
  have hcd:=h17 (by decide) (by decide)
  have htm:=h18.2 (by decide)
  have hfl:=h10 (by decide) (by decide)
  unfold Pb.step
  simp only
  refine⟨?_,hA.store _ (hw _)⟩
  by_cases hz:i+1=(ws.length:Int)
  ·rw [if_pos hz]
   constructor <;> (try simp only) <;> first | exact h2 | exact h8 | exact hne | exact h4 | omega | (intros; exact hb) | simp
  ·rw [if_neg hz]
   constructor <;> (try simp only) <;> first | exact h2 | exact h8 | exact hne | exact h4 | omega | (intros; exact hb) | simp
 | 3,_=>
  have hb:=h11 (by decide) (by decide)
  have hol:=h14 (by decide)
  have hcd:=h17 (by decide) (by decide)
  have htm:=h18.2 (by decide)
  have hfl:=h10 (by decide) (by decide)
  have hRw:=hR at_.toNat
  have hk0:tk.cls=0∨tk.cls=1:=h2.cls
  have hg:GvR c (newGv c bk):=newGv_ok (by omega)
  unfold Pb.step
  simp only
  split
  ·rename_i hl
   split
   ·refine⟨?_,hA.load _⟩
    unfold Pb.fail
    constructor <;> (try simp only) <;> first | exact h2 | exact hRw | exact hne | exact h4 | omega | (intros; exact hb) | (intro _; exact⟨hg,rfl⟩) | simp
   ·rename_i hgn
    refine⟨?_,hA.load _⟩
    constructor <;> (try simp only) <;> first | exact h2 | exact hRw | exact hne | exact h4 | omega | (intros; exact hb) | (intro _; exact⟨hl.1,hl.2.2,hgn⟩) | simp
  ·refine⟨?_,hA.load _⟩
   unfold Pb.fail
   constructor <;> (try simp only) <;> first | exact h2 | exact hRw | exact hne | exact h4 | omega | (intros; exact hb) | (intro _; exact⟨hg,rfl⟩) | simp
 | 4,_=>
  have hb:=h11 (by decide) (by decide)
  have hol:=h14 (by decide)
  have hcd:=h17 (by decide) (by decide)
  have htm:=h18.2 (by decide)
  have hfl:=h10 (by decide) (by decide)
  have hk0:tk.cls=0∨tk.cls=1:=h2.cls
  have hg:GvR c (newGv c bk):=newGv_ok (by omega)
  have hbk:=clsOf_ok (c:=c) (b:=bk) (by omega)
  obtain⟨q1,q2,q3⟩:=h15 rfl
  have hcr:=ctl_rng h8
  unfold Pb.step
  simp only
  split
  ·refine⟨?_,hA.swapT _ (pubW_rng h8 q3 (by omega))⟩
   constructor <;> (try simp only) <;> first | exact h2 | exact h8 | exact hne | exact h4 | exact hcr.1 | omega | simp
  ·split
   ·refine⟨?_,hA.swapF _⟩
    unfold Pb.fail
    constructor <;> (try simp only) <;> first | exact h2 | exact h8 | exact hne | exact h4 | omega | (intros; exact hb) | (intro _; exact⟨hg,rfl⟩) | simp
   ·refine⟨?_,hA.swapF _⟩
    constructor <;> (try simp only) <;> first | exact h2 | exact h8 | exact hne | exact h4 | omega | (intros; exact hb) | simp
 | 5,_=>
  have hb:=h11 (by decide) (by decide)
  have hol:=h14 (by decide)
  have htm:=h18.2 (by decide)
  obtain⟨hg1,hg2⟩:=h16 rfl
  obtain⟨g1,g2,g3⟩:=gv_step hc hg1 hA
  unfold Pb.step
  simp only
  split
  ·refine⟨?_,g1⟩
   constructor <;> (try simp only) <;> first | exact h2 | exact h8 | exact hne | exact h4 | omega | simp
  ·rename_i hz
   refine⟨?_,g1⟩
   constructor <;> (try simp only) <;> first | exact h2 | exact h8 | exact hne | exact h4 | omega | (intros; exact hb) | (intro _; exact⟨g2 hz,g3.trans hg2⟩) | simp
theorem pb_twin{c:Cfg}{at_ ep:Int}{ws:List Int}{S:Pb}{A B:Ar}(h:Twin A B 0): (S.step c at_ ep ws A).1=(S.step c at_ ep ws B).1∧Twin (S.step c at_ ep ws A).2 (S.step c at_ ep ws B).2 0:=by
 obtain⟨tk,i,sn,fl,bk,od,tm,cd,gv,ph⟩:=S
 match ph with
 | 0=>exact⟨rfl,h⟩
 | 1=>
  obtain⟨t1,t2⟩:=tk_twin (c:=c) (T:=tk) h
  unfold Pb.step
  simp only
  rw [t1]
  split
  ·split
   ·exact⟨rfl,t2⟩
   ·exact⟨rfl,t2⟩
  ·exact⟨rfl,t2⟩
 | 2=>exact⟨rfl,h.store _ _⟩
 | 3=>
  unfold Pb.step
  simp only
  rw [h.ws]
  split
  ·split
   ·exact⟨rfl,h.load _⟩
   ·exact⟨rfl,h.load _⟩
  ·exact⟨rfl,h.load _⟩
 | 4=>
  have hs:A.steps=B.steps:=by have:=h.steps; omega
  unfold Pb.step
  simp only
  rw [h.ws,hs]
  split
  ·exact⟨rfl,h.swapT _ _⟩
  ·split
   ·exact⟨rfl,h.swapF _⟩
   ·exact⟨rfl,h.swapF _⟩
 | 5=>
  obtain⟨t2,t1⟩:=gv_twin (c:=c) (G:=gv) h
  unfold Pb.step
  simp only
  rw [t1]
  split
  ·exact⟨rfl,t2⟩
  ·exact⟨rfl,t2⟩
 | n+6=>exact⟨rfl,h⟩
end Go.Sx
namespace Go.Sx
structure Rd where
 cl:Cl
 gu:Option Gu
 slot:Int
 words:List Int
 code:Int
 ph:Nat
def Rd.blk(S:Rd): Int:=match S.gu with
 | none=>0
 | some G=>G.block
def Rd.step(c:Cfg)(cl tp ep:Int)(S:Rd)(A:Ar): Rd×Ar:=
 match S.ph with
 | 1=>
  if (S.cl.step c A).1.at_ = -1 then
   if (S.cl.step c A).1.slot = -1 then(⟨(S.cl.step c A).1,S.gu,(S.cl.step c A).1.slot,S.words,19,0⟩,(S.cl.step c A).2)
   else(⟨(S.cl.step c A).1,some (newGu c cl (S.cl.step c A).1.slot tp ep),(S.cl.step c A).1.slot,S.words,S.code,2⟩,(S.cl.step c A).2)
  else(⟨(S.cl.step c A).1,S.gu,S.slot,S.words,S.code,1⟩,(S.cl.step c A).2)
 | 2=>match S.gu with
  | none=>(S,A)
  | some G=>
   if (G.step c.retry A).1.ph=0 then
    if (G.step c.retry A).1.code=0 then(⟨S.cl,some (G.step c.retry A).1,S.slot,S.words,0,3⟩,(G.step c.retry A).2)
    else(⟨S.cl,some (G.step c.retry A).1,S.slot,S.words,(G.step c.retry A).1.code,4⟩,(G.step c.retry A).2)
   else(⟨S.cl,some (G.step c.retry A).1,S.slot,S.words,S.code,2⟩,(G.step c.retry A).2)
 | 3=>
  if (S.words.length:Int)+1=szK c (clsOf c S.blk) then
   (⟨S.cl,S.gu,S.slot,S.words++[A.ws.getD (blockAt c S.blk+1+(S.words.length:Int)).toNat 0],S.code,4⟩,A.load (blockAt c S.blk+1+(S.words.length:Int)))
  else(⟨S.cl,S.gu,S.slot,S.words++[A.ws.getD (blockAt c S.blk+1+(S.words.length:Int)).toNat 0],S.code,3⟩,A.load (blockAt c S.blk+1+(S.words.length:Int)))
 | 4=>(⟨S.cl,S.gu,-1,S.words,S.code,0⟩,A.store (slotAt c S.slot) 0)
 | _=>(S,A)
def newRd(cl:Int): Rd:=⟨⟨cl,0,-1⟩,none,-1,[],0,1⟩
def CtlOk(c:Cfg)(A:Ar)(tp:Int): Prop:=ctlBlock (A.ws.getD (ctlAt c tp).toNat 0)=0∨0≤clsOf c (ctlBlock (A.ws.getD (ctlAt c tp).toNat 0))
structure GuB (c:Cfg) (tp:Int) (G:Gu):Prop where
 word:G.word=ctlAt c tp
 blk:G.block=0∨0≤clsOf c G.block
 b2:G.ph=2∨G.ph=3→G.block≠0
 b0:G.ph=0→G.code=0→G.block≠0
 c0:0≤G.code
theorem gu_b{c:Cfg}{tp:Int}{G:Gu}{A:Ar}(hG:GuB c tp G)(hp:G.ph≤3)(hC:CtlOk c A tp): GuB c tp (G.step c.retry A).1:=by
 obtain⟨cl,ep,sl,wd,sn,bk,fl,cm,cd,ph⟩:=G
 obtain⟨h1,h2,h3,h4,h5⟩:=hG
 simp only at h1 h2 h3 h4 h5 hp
 subst h1
 have look:∀(G:Gu),G.word=ctlAt c tp→0≤G.code→GuB c tp (G.look (A.ws.getD (ctlAt c tp).toNat 0)):=by
  intro G q1 q2
  unfold Gu.look
  have hE:lookE (A.ws.getD (ctlAt c tp).toNat 0) G.epoch=22∨lookE (A.ws.getD (ctlAt c tp).toNat 0) G.epoch=20∨(lookE (A.ws.getD (ctlAt c tp).toNat 0) G.epoch=0∧ctlBlock (A.ws.getD (ctlAt c tp).toNat 0)≠0):=by
   unfold lookE
   split
   ·split
    ·simp
    ·rename_i hb; exact .inr (.inr ⟨rfl,hb⟩)
   ·simp
  split
  ·rename_i he
   have hb:ctlBlock (A.ws.getD (ctlAt c tp).toNat 0)≠0:=by omega
   exact⟨q1,hC,fun _=>hb,fun h=>absurd h (by show ¬(2:Nat)=0; decide),q2⟩
  ·rename_i he
   refine⟨q1,.inl rfl,fun h => ?_,fun _ h=>absurd h he,by show 0≤lookE _ _; omega⟩
   rcases h with h | h
   ·exact absurd h (by show ¬(0:Nat)=2; decide)
   ·exact absurd h (by show ¬(0:Nat)=3; decide)
 match ph,hp with
 | 0,_=>exact⟨rfl,h2,h3,h4,h5⟩
 | 1,_=>exact look _ rfl h5
 | 2,_=>exact⟨rfl,h2,fun _=>h3 (.inl rfl),fun h=>absurd h (by show ¬(3:Nat)=0; decide),h5⟩
 | 3,_=>
  have hb:=h3 (.inr rfl)
  show GuB c tp (Prod.fst (if _ then _ else _))
  split
  ·exact⟨rfl,h2,fun h=>by rcases h with h | h <;> exact absurd h (by show ¬(0:Nat) = _; decide),fun _ _=>hb,Int.le_refl 0⟩
  ·split
   ·exact⟨rfl,.inl rfl,fun h=>by rcases h with h | h <;> exact absurd h (by show ¬(0:Nat) = _; decide),fun _ h=>absurd h (by show ¬(17:Int)=0; decide),by show(0:Int)≤17; decide⟩
   ·exact look _ rfl h5
theorem newGu_b(c:Cfg)(cl sl tp ep:Int): GuB c tp (newGu c cl sl tp ep):=
 ⟨rfl,.inl rfl,fun h=>by rcases h with h | h <;> exact absurd h (by show ¬(1:Nat) = _; decide),fun h=>absurd h (by show ¬(1:Nat)=0; decide),Int.le_refl 0⟩
structure Rd.Ok (c:Cfg) (cl tp:Int) (n:Nat) (S:Rd):Prop where
 ph:S.ph≤4
 k:S.cl.Ok c
 kc:S.cl.client=cl
 g:∀G,S.gu=some G→Gu.Ok c n G∧GuB c tp G
 g1:S.ph=1→S.gu=none∧S.words=[]∧S.code=0∧S.cl.at_≠-1∧S.slot = -1
 g2:S.ph=2→∃G,S.gu=some G∧G.ph≠0∧S.words=[]∧S.code=0
 g3:S.ph=3→∃G,S.gu=some G∧G.ph=0∧0≤clsOf c G.block∧(S.words.length:Int)<szK c (clsOf c G.block)∧S.code=0
 g4:S.ph=4∨S.ph=0→∀G,S.gu=some G→G.ph=0
 g5:S.ph=4→∃G,S.gu=some G
 slot:S.slot = -1∨(0≤S.slot∧S.slot<c.slots)
 s2:S.ph≠0→S.ph≠1→S.slot≠-1
 s0:S.ph=0→S.slot = -1
 wl:S.words.length≤96
 c0:0≤S.code
theorem newRd_ok{c:Cfg}(hc:c.Ok){cl tp:Int}{n:Nat}(h:0≤cl∧cl<c.clients): (newRd cl).Ok c cl tp n:=by
 have hc':=hc
 simp only [Cfg.Ok] at hc'
 constructor
 case k=>exact⟨h,.inr ⟨Int.le_refl 0,by show(0:Int)<c.slots; omega⟩,.inl rfl,fun _=>rfl⟩
 case g=>intro G hG; cases hG
 case g1=>intro _; exact⟨rfl,rfl,rfl,by show(0:Int)≠-1; decide,rfl⟩
 case g2=>intro h; exact absurd h (by show ¬(1:Nat)=2; decide)
 case g3=>intro h; exact absurd h (by show ¬(1:Nat)=3; decide)
 case g4=>intro h; rcases h with h | h <;> exact absurd h (by show ¬(1:Nat) = _; decide)
 case g5=>intro h; exact absurd h (by show ¬(1:Nat)=4; decide)
 all_goals simp [newRd]
theorem rd_step{c:Cfg}(hc:c.Ok){cl tp ep:Int}{S:Rd}{A:Ar}{k:Int}(hS:S.Ok c cl tp A.n)(hA:ArW c A k)(htp:0≤tp∧tp<c.topics)(hC:CtlOk c A tp):
  (S.step c cl tp ep A).1.Ok c cl tp (S.step c cl tp ep A).2.n∧ArW c (S.step c cl tp ep A).2 (k+1):=by
 obtain⟨K,gu,sl,ws,cd,ph⟩:=S
 obtain⟨h1,h2,h3,h4,h5,h6,h7,h8,h8b,h9,h10,h10b,h11,h12⟩:=hS
 simp only at h1 h2 h3 h4 h5 h6 h7 h8 h8b h9 h10 h10b h11 h12
 have no:∀ {p:Prop} (a b:Nat),a≠b→a=b→p:=fun a b h e=>absurd e h
 match ph,h1 with
 | 0,_=>exact⟨⟨by show(0:Nat)≤4; decide,h2,h3,h4,h5,h6,h7,h8,h8b,h9,h10,h10b,h11,h12⟩,hA.mono (by omega)⟩
 | 1,_=>
  obtain⟨e1,e2,e3,e4,e5⟩:=h5 rfl
  subst e1; subst e2
  have hk:=cl_step hc h2 hA
  have hkk:=cl_keeps c K A
  have hcl:0≤cl∧cl<c.clients:=by have:=h2.client; rw [h3] at this; exact this
  unfold Rd.step
  simp only
  split
  ·rename_i ha
   split
   ·rename_i hq
    refine⟨?_,hk.2⟩
    constructor
    case g4=>intro _ G hG; cases hG
    all_goals (try simp only)
    all_goals first | exact hk.1 | (rw [hkk.1]; exact h3) | (intro G hG; cases hG) | (intro h; exact absurd h (by decide)) | omega | simp
   ·rename_i hq
    have hs:=hk.1.slot.resolve_left hq
    refine⟨?_,hk.2⟩
    have hg:Gu.Ok c (Cl.step c K A).2.n (newGu c cl (Cl.step c K A).1.slot tp ep):=newGu_ok hc (by rw [hkk.2]; exact hA.2.1) hcl hs htp
    constructor
    case g=>intro G hG; cases hG; exact⟨hg,newGu_b _ _ _ _ _⟩
    case g2=>intro _; exact⟨_,rfl,by show(1:Nat)≠0; decide,rfl,e3⟩
    all_goals (try simp only)
    all_goals first | exact hk.1 | (rw [hkk.1]; exact h3) | (intro h; exact absurd h (by decide)) | omega | simp
  ·rename_i ha
   refine⟨?_,hk.2⟩
   constructor
   case g1=>intro _; exact⟨rfl,rfl,e3,ha,e5⟩
   case g4=>intro _ G hG; cases hG
   all_goals (try simp only)
   all_goals first | exact hk.1 | (rw [hkk.1]; exact h3) | (intro G hG; cases hG) | (intro h; exact absurd h (by decide)) | omega | simp
 | 2,_=>
  obtain⟨G,e1,e2,e3,e4⟩:=h6 rfl
  subst e1; subst e3
  obtain⟨g1,g2⟩:=h4 G rfl
  have hg:=gu_step hc g1 hA
  have hb:=gu_b g2 g1.ph hC
  have hs2:=h10 (by decide) (by decide)
  unfold Rd.step
  simp only
  split
  ·rename_i hd
   split
   ·rename_i he
    have hbk:=hb.blk.resolve_left (hb.b0 hd he)
    refine⟨?_,hg.2⟩
    constructor
    case g=>intro G' hG; cases hG; exact⟨hg.1,hb⟩
    case g3=>intro _; exact⟨_,rfl,hd,hbk,by have:=szK_ok hc (clsOf c (Gu.step c.retry G A).1.block); show((0:Nat):Int) < _; omega,rfl⟩
    all_goals (try simp only)
    all_goals first | exact h2 | exact h3 | (intro h; exact absurd h (by decide)) | omega | simp
   ·rename_i he
    refine⟨?_,hg.2⟩
    constructor
    case g=>intro G' hG; cases hG; exact⟨hg.1,hb⟩
    case g4=>intro _ G' hG; cases hG; exact hd
    case g5=>intro _; exact⟨_,rfl⟩
    case c0=>exact hb.c0
    all_goals (try simp only)
    all_goals first | exact h2 | exact h3 | (intro h; exact absurd h (by decide)) | omega | simp
  ·rename_i hd
   refine⟨?_,hg.2⟩
   constructor
   case g=>intro G' hG; cases hG; exact⟨hg.1,hb⟩
   case g2=>intro _; exact⟨_,rfl,hd,rfl,e4⟩
   all_goals (try simp only)
   all_goals first | exact h2 | exact h3 | (intro h; exact absurd h (by decide)) | omega | simp
 | 3,_=>
  obtain⟨G,e1,e2,e3,e4,e5⟩:=h7 rfl
  subst e1
  have hs2:=h10 (by decide) (by decide)
  have hz:=szK_ok hc (clsOf c G.block)
  have hlen:∀x:Int,(ws++[x]).length=ws.length+1:=fun x=>by simp
  by_cases hd:(ws.length:Int)+1=szK c (clsOf c G.block)
  ·rw [show Rd.step c cl tp ep ⟨K,some G,sl,ws,cd,3⟩ A=(⟨K,some G,sl,ws++[A.ws.getD (blockAt c G.block+1+(ws.length:Int)).toNat 0],cd,4⟩,A.load (blockAt c G.block+1+(ws.length:Int))) from if_pos hd]
   refine⟨?_,hA.load _⟩
   constructor
   case g=>exact h4
   case g4=>intro _ G' hG; cases hG; exact e2
   case g5=>intro _; exact⟨_,rfl⟩
   case wl=>simp only [hlen]; omega
   all_goals (try simp only)
   all_goals first | exact h2 | exact h3 | (intro h; exact absurd h (by decide)) | omega | simp
  ·rw [show Rd.step c cl tp ep ⟨K,some G,sl,ws,cd,3⟩ A=(⟨K,some G,sl,ws++[A.ws.getD (blockAt c G.block+1+(ws.length:Int)).toNat 0],cd,3⟩,A.load (blockAt c G.block+1+(ws.length:Int))) from if_neg hd]
   refine⟨?_,hA.load _⟩
   constructor
   case g=>exact h4
   case g3=>intro _; exact⟨_,rfl,e2,e3,by simp only [hlen]; omega,e5⟩
   case wl=>simp only [hlen]; omega
   all_goals (try simp only)
   all_goals first | exact h2 | exact h3 | (intro h; exact absurd h (by decide)) | omega | simp
 | 4,_=>
  refine⟨?_,hA.store _ (by decide)⟩
  have hg4:=h8 (.inl rfl)
  constructor
  case g=>exact h4
  case g4=>intro _ G' hG; exact hg4 G' hG
  all_goals (try simp only [Rd.step])
  all_goals first | exact h2 | exact h3 | (intro h; exact absurd h (by decide)) | omega | simp
theorem rd_twin{c:Cfg}{cl tp ep:Int}{S:Rd}{A B:Ar}(h:Twin A B 0): (S.step c cl tp ep A).1=(S.step c cl tp ep B).1∧Twin (S.step c cl tp ep A).2 (S.step c cl tp ep B).2 0:=by
 obtain⟨K,gu,sl,ws,cd,ph⟩:=S
 match ph with
 | 0=>exact⟨rfl,h⟩
 | 1=>
  obtain⟨t1,t2⟩:=cl_twin (c:=c) (K:=K) h
  unfold Rd.step
  simp only
  rw [t1]
  split
  ·split <;> exact⟨rfl,t2⟩
  ·exact⟨rfl,t2⟩
 | 2=>
  unfold Rd.step
  simp only
  cases gu with
  | none=>exact⟨rfl,h⟩
  | some G=>
   obtain⟨t1,t2⟩:=gu_twin (r:=c.retry) (G:=G) h
   simp only
   rw [t1]
   split
   ·split <;> exact⟨rfl,t2⟩
   ·exact⟨rfl,t2⟩
 | 3=>
  unfold Rd.step
  simp only
  rw [h.ws]
  split <;> exact⟨rfl,h.load _⟩
 | 4=>exact⟨rfl,h.store _ _⟩
 | n+5=>exact⟨rfl,h⟩
end Go.Sx
namespace Go.Sx
def encP(b:Nat): List Value:=[.pointer (some ⟨b,0,none⟩)]
theorem sized_encP: Sized encP 1:=fun _=>rfl
def bornW(w:Int): Int:=packW3 (ctlEpoch w) 1 0 0 0
def goneW(w:Int): Int:=packW3 ((ctlEpoch w+1).tmod 32768) 0 0 0 0
theorem goneW_rng{w:Int}(h:U64 w): U64 (goneW w):=by
 have:=ctl_rng h
 have h0:0≤(ctlEpoch w+1).tmod 32768:=Int.tmod_nonneg _ (by omega)
 have h1:=Int.tmod_lt_of_pos (ctlEpoch w+1) (show(0:Int)<32768 by omega)
 unfold goneW
 exact packW3_rng (by omega) (by omega) (by omega) (by omega) (by omega)
theorem bornW_rng{w:Int}(h:U64 w): U64 (bornW w):=by
 have:=ctl_rng h
 unfold bornW
 exact packW3_rng (by omega) (by omega) (by omega) (by omega) (by omega)
theorem ctl0_ok{c:Cfg}(hc:c.Ok): 7≤ctlAt c 0∧ctlAt c 0<sizeOfC c∧ctlAt c 0=5+c.slots+c.topics:=by
 have hc':=hc
 simp only [Cfg.Ok] at hc'
 have h:=ctlAt_ok hc (i:=0) (by omega)
 have e:ctlAt c 0=5+c.slots+c.topics:=by unfold ctlAt; rw [if_pos (by omega)]; omega
 omega
def msz(n:Int): Int:=1+((n.tmod 6)+6).tmod 6
theorem msz_rng(n:Int): 1≤msz n∧msz n≤6:=by
 have h:=rest_rng n (s:=6) (by decide)
 unfold msz; omega
theorem tm6_rng(n:Int): -6<n.tmod 6∧n.tmod 6<6:=by
 have h1:n.tmod 6<6:=Int.tmod_lt_of_pos n (by decide)
 rcases Int.le_total 0 n with hx | hx
 ·have:=Int.tmod_nonneg 6 hx; omega
 ·have h3:=Int.tmod_lt_of_pos (-n) (show(0:Int)<6 by omega)
  rw [Int.neg_tmod] at h3; omega
def fillR(m j:Nat)(id:Int): List Int:=List.replicate j id++List.replicate (m-j) 0
theorem fillR_len{m j:Nat}{id:Int}(h:j≤m): (fillR m j id).length=m:=by unfold fillR; simp; omega
theorem fillR_set{m j:Nat}{id:Int}(h:j<m): (fillR m j id).set j id=fillR m (j+1) id:=by
 unfold fillR
 have e:m-j=(m-(j+1))+1:=by omega
 rw [e,List.replicate_succ,List.set_append_right _ _ (by simp)]
 simp only [List.length_replicate,Nat.sub_self,List.set_cons_zero]
 rw [List.replicate_succ' (n:=j),List.append_assoc]
 rfl
theorem fillR_all(m:Nat)(id:Int): fillR m m id=List.replicate m id:=by unfold fillR; simp
end Go.Sx
namespace Go.Sx
inductive Do
 | idle
 | pub (ep:Int) (ws:List Int) (S:Pb)
 | scan (S:Sc)
 | read (cl ep:Int) (S:Rd)
structure Kc where
 d:Do
 ret:List Int
 id:Int
structure Wd where
 A:Ar
 ks:List Kc
 many:List Int
 now:Int
def dK: Kc:=⟨.idle,[],0⟩
abbrev Wd.k(W:Wd)(i:Int): Kc:=W.ks.getD i.toNat dK
def wordC(c:Cfg)(A:Ar): Int:=A.ws.getD (ctlAt c 0).toNat 0
def Kc.scans(k:Kc): Bool:=match k.d with
 | .scan _=>true
 | _=>false
def Kc.whoD(w:Int)(k:Kc)(wh n:Int): Int×Bool×Kc:=
 if bAnd .i64 wh 4=0∨bAnd .i64 n 15≠0 then(bAnd .i64 wh 3,false,k)
 else if ctlBlock w>0 then
  if k.scans=true then(bAnd .i64 wh 3,false,k)
  else(-1,true,⟨k.d,k.ret++[ctlBlock w],k.id⟩)
 else(-1,true,k)
def anewW(c:Cfg)(w:Int)(A:Ar): Ar:=(A.store (ctlAt c 0) (goneW w)).store (ctlAt c 0) (bornW (goneW w))
def Wd.who(c:Cfg)(W:Wd)(wh n:Int): Wd:=
 ⟨bif ((W.k 0).whoD (wordC c W.A) wh n).2.1 then anewW c (wordC c W.A) W.A else W.A,W.ks.set 0 ((W.k 0).whoD (wordC c W.A) wh n).2.2,W.many,bif ((W.k 0).whoD (wordC c W.A) wh n).2.1 then 0 else W.now⟩
def mesW(many:List Int)(n:Int): List Int:=List.replicate (msz n).toNat (((many++[msz n]).length:Nat):Int)
theorem good_in{c:Cfg}(hc:c.Ok){xs:List Int}(h:goodRow c xs): ∀j,InK .i64 (xs.getD j 0):=by
 intro j
 by_cases hj:j<xs.length
 ·have h1:=clsOf_ok (h j hj).1
  have h2:=clsOf_le c (xs.getD j 0)
  have h3:=(h j hj).1
  simp only [Cfg.Ok] at hc
  simp only [InK]
  omega
 ·rw [List.getD_eq_getElem?_getD,List.getElem?_eq_none (by omega)]
  simp only [InK]; decide
def Kc.beginD(c:Cfg)(e:Int)(many:List Int)(i n:Int)(k:Kc): Kc×List Int:=
 match k.d with
 | .idle=>
  if i≥2 then(⟨.read i e (newRd i),k.ret,k.id⟩,many)
  else if bAnd .i64 n 3=0∧k.ret≠[] then(⟨.scan (newSc k.ret),k.ret,k.id⟩,many)
  else(⟨.pub e (mesW many n) (newPb (fitK c (((mesW many n).length:Nat):Int))),k.ret,(((many++[msz n]).length:Nat):Int)⟩,many++[msz n])
 | _=>(k,many)
def Wd.begin(c:Cfg)(W:Wd)(i n:Int): Wd:=
 ⟨W.A,W.ks.set i.toNat ((W.k i).beginD c (ctlEpoch (wordC c W.A)) W.many i n).1,((W.k i).beginD c (ctlEpoch (wordC c W.A)) W.many i n).2,W.now⟩
structure Tl where
 l:List Int
 e:Int
 done:Bool
def Rd.told(S:Rd): List Int×Int:=match S.ph with
 | 0=>if S.code=0 then(S.words,0) else([],S.code)
 | _=>([],13)
def Pb.told(S:Pb): Int×Int:=match S.ph with
 | 0=>(S.old,S.code)
 | _=>(0,13)
def Rd.comm(S:Rd): Int:=match S.ph with
 | 0=>match S.gu with
  | none=>0
  | some G=>Gu.comm G
 | _=>0
structure St where
 k:Kc
 A:Ar
 now:Int
 t:Tl
def Kc.step(c:Cfg)(now:Int)(k:Kc)(A:Ar): St:=
 match k.d with
 | .idle=>⟨k,A,now,[],1,true⟩
 | .pub ep ws S=>
  if (S.step c (ctlAt c 0) ep ws A).1.ph=0 then
   ⟨⟨.idle,if (Pb.told (S.step c (ctlAt c 0) ep ws A).1).1>0 then k.ret++[(Pb.told (S.step c (ctlAt c 0) ep ws A).1).1] else k.ret,k.id⟩,(S.step c (ctlAt c 0) ep ws A).2,
    if (Pb.told (S.step c (ctlAt c 0) ep ws A).1).2=0 then k.id else now,[],(Pb.told (S.step c (ctlAt c 0) ep ws A).1).2,true⟩
  else⟨⟨.pub ep ws (S.step c (ctlAt c 0) ep ws A).1,k.ret,k.id⟩,(S.step c (ctlAt c 0) ep ws A).2,now,[],0,false⟩
 | .scan S=>
  ⟨⟨if Sc.done c (S.step c A).1=true then .idle else .scan (S.step c A).1,(S.step c A).1.kept++(S.step c A).1.left,k.id⟩,(S.step c A).2,now,[],0,Sc.done c (S.step c A).1⟩
 | .read cl ep S=>
  if (S.step c cl 0 ep A).1.ph=0 then⟨⟨.idle,k.ret,k.id⟩,(S.step c cl 0 ep A).2,now,(Rd.told (S.step c cl 0 ep A).1).1,(Rd.told (S.step c cl 0 ep A).1).2,true⟩
  else⟨⟨.read cl ep (S.step c cl 0 ep A).1,k.ret,k.id⟩,(S.step c cl 0 ep A).2,now,[],0,false⟩
def Wd.step(c:Cfg)(W:Wd)(i:Int): Wd:=
 ⟨((W.k i).step c W.now W.A).A,W.ks.set i.toNat ((W.k i).step c W.now W.A).k,W.many,((W.k i).step c W.now W.A).now⟩
end Go.Sx
namespace Go.Sx
theorem hi32_turnW{w b:Int}(hw:0≤hi32 w∧hi32 w+1<4294967296)(hb:0≤b∧b≤4294967295): hi32 (turnW w b)=hi32 w+1:=by
 unfold turnW hi32 at *
 omega
def Chains(c:Cfg)(ws:List Int)(l:Int→List Int): Prop := ∀k:Int,k=0∨k=1→Chain c k ws (3+k) (l k)
def updL(l:Int→List Int)(k:Int)(x:List Int): Int→List Int:=fun j=>if j=k then x else l j
theorem updL_self{l:Int→List Int}{k:Int}{x:List Int}: updL l k x k=x:=by unfold updL; rw [if_pos rfl]
theorem updL_ne{l:Int→List Int}{k j:Int}{x:List Int}(h:j≠k): updL l k x j=l j:=by unfold updL; rw [if_neg h]
abbrev hd(ws:List Int)(k:Int): Int:=ws.getD (3+k).toNat 0
abbrev lnk(c:Cfg)(ws:List Int)(b:Int): Int:=ws.getD (blockAt c b).toNat 0
structure Stab (c:Cfg) (ws ws':List Int) (own:List Int):Prop where
 tag:∀k:Int,k=0∨k=1→hi32 (hd ws k)≤hi32 (hd ws' k)∧(hi32 (hd ws k)=hi32 (hd ws' k)→hd ws' k=hd ws k)
 link:∀b,0≤clsOf c b→b∉own→lnk c ws' b=lnk c ws b
theorem Stab.refl(c:Cfg)(ws own:List Int): Stab c ws ws own:=⟨fun _ _=>⟨Int.le_refl _,fun _=>rfl⟩,fun _ _ _=>rfl⟩
theorem blk_next{c:Cfg}(hc:c.Ok){b:Int}(h:1≤b∧b+1≤c.n0+c.n1): blockAt c (b+1)=blockAt c b+1+szK c (clsOf c b):=by
 have h1:=ref_block hc (b:=b) (by omega)
 have hk:clsOf c b=if b≤c.n0 then 0 else 1:=by unfold clsOf; rw [if_pos (by omega)]
 rw [h1,hk]
 unfold szK
 split <;> rename_i h2
 ·rw [if_pos (by omega)]
 ·rw [if_neg (by omega)]
theorem blk_above{c:Cfg}(hc:c.Ok): ∀(k:Nat) {b:Int},1≤b→b+((k+1:Nat):Int)≤c.n0+c.n1→blockAt c b+1+szK c (clsOf c b)≤blockAt c (b+((k+1:Nat):Int))
 | 0,b,h1,h2=>by
  rw [show b+((0+1:Nat):Int)=b+1 by omega,blk_next hc (by omega)]
  exact Int.le_refl _
 | k+1,b,h1,h2=>by
  have ih:=blk_above hc k h1 (by omega)
  have hn:=blk_next hc (b:=b+((k+1:Nat):Int)) (by omega)
  have hz:=szK_ok hc (clsOf c (b+((k+1:Nat):Int)))
  rw [show b+((k+1+1:Nat):Int)=b+((k+1:Nat):Int)+1 by omega,hn]
  omega
theorem blk_far2{c:Cfg}(hc:c.Ok){b b':Int}(hb:0≤clsOf c b)(hb':0≤clsOf c b')(h:b≠b'):
  blockAt c b+1+szK c (clsOf c b)≤blockAt c b'∨blockAt c b'+1+szK c (clsOf c b')≤blockAt c b:=by
 have h1:=clsOf_ok hb
 have h2:=clsOf_ok hb'
 rcases Int.lt_or_gt_of_ne h with hlt | hlt
 ·left
  have:=blk_above hc (b'-b-1).toNat (b:=b) (by omega) (by omega)
  rw [show b+(((b'-b-1).toNat+1:Nat):Int)=b' by omega] at this
  exact this
 ·right
  have:=blk_above hc (b-b'-1).toNat (b:=b') (by omega) (by omega)
  rw [show b'+(((b-b'-1).toNat+1:Nat):Int)=b by omega] at this
  exact this
theorem ctl_top{c:Cfg}(hc:c.Ok){t:Int}(h:0≤t∧t<c.topics): ctlAt c t<5+c.slots+c.topics+c.topics*(1+2*c.small):=by
 have hc':=hc
 simp only [Cfg.Ok] at hc'
 unfold ctlAt
 rw [if_pos h]
 have:(t+1)*(1+2*c.small)≤c.topics*(1+2*c.small):=Int.mul_le_mul_of_nonneg_right (by omega) (by omega)
 rw [Int.add_mul] at this
 omega
def Far(c:Cfg)(i:Nat): Prop:=i≠3∧i≠4∧∀b,0≤clsOf c b→i≠(blockAt c b).toNat
theorem Stab.far{c:Cfg}{ws own:List Int}{i:Nat}{v:Int}(h:Far c i): Stab c ws (ws.set i v) own:=by
 refine⟨fun k hk => ?_,fun b hb _=>getD_set_ne (h.2.2 b hb)⟩
 have e:hd (ws.set i v) k=hd ws k:=by
  refine getD_set_ne ?_
  rcases hk with rfl | rfl
  ·exact h.1
  ·exact h.2.1
 rw [e]
 exact⟨Int.le_refl _,fun _=>rfl⟩
theorem Chains.far{c:Cfg}{ws:List Int}{l:Int→List Int}{i:Nat}{v:Int}(h:Chains c ws l)(hf:Far c i): Chains c (ws.set i v) l:=by
 intro k hk
 refine chain_set (h k hk) ?_ (fun b hb=>hf.2.2 b ?_)
 ·rcases hk with rfl | rfl
  ·exact hf.1
  ·exact hf.2.1
 ·rw [chain_cls (h k hk) b hb]; omega
theorem far_slot{c:Cfg}(hc:c.Ok){s:Int}(h:0≤s∧s<c.slots): Far c (slotAt c s).toNat:=by
 have h1:=slotAt_ok hc h
 have hc':=hc
 simp only [Cfg.Ok] at hc'
 refine⟨by omega,by omega,fun b hb => ?_⟩
 have:=blockAt_lo hc hb
 omega
theorem far_ctl{c:Cfg}(hc:c.Ok){t:Int}(h:0≤t∧t<c.topics): Far c (ctlAt c t).toNat:=by
 have hc':=hc
 simp only [Cfg.Ok] at hc'
 have h1:=ctlAt_ok hc h
 refine⟨by omega,by omega,fun b hb => ?_⟩
 have h2:=blockAt_lo2 hc hb
 have h3:=ctl_top hc h
 omega
theorem far_data{c:Cfg}(hc:c.Ok){b j:Int}(hb:0≤clsOf c b)(hj:0≤j∧j<szK c (clsOf c b)): Far c (blockAt c b+1+j).toNat:=by
 have hc':=hc
 simp only [Cfg.Ok] at hc'
 have h1:=blockAt_lo hc hb
 refine⟨by omega,by omega,fun b' hb' he => ?_⟩
 have h3:=blockAt_lo hc hb'
 have hz:=szK_ok hc (clsOf c b')
 by_cases e:b=b'
 ·subst e; omega
 ·have:=blk_far2 hc hb hb' e
  omega
theorem Stab.head{c:Cfg}(hc:c.Ok){ws own:List Int}{k b:Int}(hk:k=0∨k=1)(hl:7≤ws.length)(ht:0≤hi32 (hd ws k)∧hi32 (hd ws k)+1<4294967296)(hb:0≤b∧b≤4294967295):
  Stab c ws (ws.set (3+k).toNat (turnW (hd ws k) b)) own:=by
 have hc':=hc
 simp only [Cfg.Ok] at hc'
 refine⟨fun j hj => ?_,fun b' hb' _ => ?_⟩
 ·by_cases e:j=k
  ·subst e
   have e2:hd (ws.set (3+j).toNat (turnW (hd ws j) b)) j=turnW (hd ws j) b:=getD_set_eq (by omega)
   rw [e2,hi32_turnW ht hb]
   exact⟨by omega,fun h=>by omega⟩
  ·have e2:hd (ws.set (3+k).toNat (turnW (hd ws k) b)) j=hd ws j:=getD_set_ne (by omega)
   rw [e2]
   exact⟨Int.le_refl _,fun _=>rfl⟩
 ·have:=blockAt_lo hc hb'
  exact getD_set_ne (by omega)
theorem Stab.link'{c:Cfg}(hc:c.Ok){ws own:List Int}{b v:Int}(hb:0≤clsOf c b)(ho:b∈own): Stab c ws (ws.set (blockAt c b).toNat v) own:=by
 have hc':=hc
 simp only [Cfg.Ok] at hc'
 have h1:=blockAt_lo hc hb
 refine⟨fun j hj => ?_,fun b' hb' hn => ?_⟩
 ·have e2:hd (ws.set (blockAt c b).toNat v) j=hd ws j:=getD_set_ne (by omega)
  rw [e2]
  exact⟨Int.le_refl _,fun _=>rfl⟩
 ·have h2:=blockAt_lo hc hb'
  have h3:=blockAt_inj hc hb hb' (fun e=>hn (e▸ho))
  exact getD_set_ne (by omega)
theorem Chains.link{c:Cfg}(hc:c.Ok){ws:List Int}{l:Int→List Int}(h:Chains c ws l){b v:Int}(hb:0≤clsOf c b)(hn:∀k:Int,k=0∨k=1→b∉l k): Chains c (ws.set (blockAt c b).toNat v) l:=by
 have hc':=hc
 simp only [Cfg.Ok] at hc'
 have h1:=blockAt_lo hc hb
 intro k hk
 refine chain_set (h k hk) (by omega) (fun b' hb' => ?_)
 have h0:0≤clsOf c b':=by rw [chain_cls (h k hk) b' hb']; omega
 have h2:=blockAt_lo hc h0
 have h3:=blockAt_inj hc hb h0 (fun e=>hn k hk (e▸hb'))
 omega
theorem Chains.other{c:Cfg}(hc:c.Ok){ws:List Int}{l:Int→List Int}(h:Chains c ws l){k j v:Int}(hk:k=0∨k=1)(hj:j=0∨j=1)(e:j≠k): Chain c j (ws.set (3+k).toNat v) (3+j) (l j):=by
 have hc':=hc
 simp only [Cfg.Ok] at hc'
 refine chain_set (h j hj) (by omega) (fun b hb => ?_)
 have:=blockAt_lo hc (b:=b) (by rw [chain_cls (h j hj) b hb]; omega)
 omega
theorem Chains.push{c:Cfg}(hc:c.Ok){ws:List Int}{l:Int→List Int}(h:Chains c ws l){b:Int}(hb:0≤clsOf c b)(hl:7≤ws.length)(hx:lo32 (lnk c ws b)=lo32 (hd ws (clsOf c b))):
  Chains c (ws.set (3+clsOf c b).toNat (turnW (hd ws (clsOf c b)) b)) (updL l (clsOf c b) (b :: l (clsOf c b))):=by
 have hc':=hc
 simp only [Cfg.Ok] at hc'
 have h1:=clsOf_ok hb
 have h2:=clsOf_le c b
 intro j hj
 by_cases e:j=clsOf c b
 ·subst e
  rw [updL_self]
  refine⟨?_,rfl, ?_⟩
  ·rw [getD_set_eq (by omega),lo32_turnW (by omega)]
  ·refine chain_set (chain_move (h _ hj) hx) ?_ (fun b' hb' => ?_)
   ·have:=blockAt_lo hc hb; omega
   ·have:=blockAt_lo hc (b:=b') (by rw [chain_cls (h _ hj) b' hb']; exact hb); omega
 ·rw [updL_ne e]
  exact h.other hc (by omega) hj e
theorem Chains.pop{c:Cfg}(hc:c.Ok){ws:List Int}{l:Int→List Int}(h:Chains c ws l){k b a:Int}(hk:k=0∨k=1)(hb:clsOf c b=k)(hl:7≤ws.length)(hw:lo32 (hd ws k)=b)(ha:lo32 (lnk c ws b)=a)(har:0≤a∧a≤4294967295):
  ∃r,l k=b :: r∧Chains c (ws.set (3+k).toNat (turnW (hd ws k) a)) (updL l k r):=by
 have hc':=hc
 simp only [Cfg.Ok] at hc'
 have h1:=clsOf_ok (c:=c) (b:=b) (by omega)
 have hch:=h k hk
 cases hlk:l k with
 | nil=>
  rw [hlk] at hch
  have:lo32 (hd ws k)=0:=hch
  omega
 | cons x r=>
  rw [hlk] at hch
  obtain⟨q1,q2,q3⟩:=hch
  have:x=b:=by rw [←q1]; exact hw
  subst this
  refine⟨r,rfl,fun j hj => ?_⟩
  by_cases e:j=k
  ·subst e
   rw [updL_self]
   have q4:Chain c j ws (blockAt c x) r:=q3
   have q5:Chain c j (ws.set (3+j).toNat (turnW (hd ws j) a)) (blockAt c x) r:=by
    refine chain_set q4 ?_ (fun b' hb' => ?_)
    ·have:=blockAt_lo hc (b:=x) (by omega); omega
    ·have:=blockAt_lo hc (b:=b') (by rw [chain_cls q4 b' hb']; omega); omega
   refine chain_move q5 ?_
   have e1:(ws.set (3+j).toNat (turnW (hd ws j) a)).getD (3+j).toNat 0=turnW (hd ws j) a:=getD_set_eq (by omega)
   have e2:(ws.set (3+j).toNat (turnW (hd ws j) a)).getD (blockAt c x).toNat 0=lnk c ws x:=by
    have:=blockAt_lo hc (b:=x) (by omega)
    exact getD_set_ne (by omega)
   rw [e1,e2,lo32_turnW har,ha]
  ·rw [updL_ne e]
   exact h.other hc hk hj e
structure Hp (c:Cfg) (ws:List Int) (l:Int→List Int) (st:Int):Prop where
 ch:Chains c ws l
 len:7≤ws.length
 tag:∀k:Int,k=0∨k=1→0≤hi32 (hd ws k)∧hi32 (hd ws k)≤st
theorem Hp.mono{c:Cfg}{ws:List Int}{l:Int→List Int}{st st':Int}(h:Hp c ws l st)(hs:st≤st'): Hp c ws l st':=⟨h.ch,h.len,fun k hk=>by have:=h.tag k hk; omega⟩
abbrev fr(l:Int→List Int): List Int:=l 0++l 1
theorem fr_mem{l:Int→List Int}{b k:Int}(hk:k=0∨k=1)(h:b∈l k): b∈fr l:=by
 rcases hk with rfl | rfl
 ·exact List.mem_append_left _ h
 ·exact List.mem_append_right _ h
theorem fr_upd{l:Int→List Int}{k:Int}{x:List Int}(hk:k=0∨k=1): (fr (updL l k x)++l k).Perm (fr l++x):=by
 rw [List.perm_iff_count]
 intro z
 rcases hk with rfl | rfl <;> simp only [fr,updL,List.count_append,if_true,if_false,Int.reduceEq] <;> omega
theorem Hp.far{c:Cfg}{ws:List Int}{l:Int→List Int}{st:Int}(h:Hp c ws l st){i:Nat}{v:Int}(hf:Far c i): Hp c (ws.set i v) l st:=by
 refine⟨h.ch.far hf,by rw [List.length_set]; exact h.len,fun k hk => ?_⟩
 have e:hd (ws.set i v) k=hd ws k:=by
  refine getD_set_ne ?_
  rcases hk with rfl | rfl
  ·exact hf.1
  ·exact hf.2.1
 rw [e]; exact h.tag k hk
def TkI(c:Cfg)(ws:List Int)(T:Tk): Prop:=
 (T.ph=2∨T.ph=3)→T.block=lo32 T.seen∧hi32 T.seen≤hi32 (hd ws T.cls)∧(hd ws T.cls=T.seen→T.ph=3→lo32 (lnk c ws T.block)=T.after)
def GvI(c:Cfg)(ws:List Int)(G:Gv): Prop:=G.ph=3→lo32 (lnk c ws G.block)=lo32 G.seen
theorem chain_head{c:Cfg}{k p:Int}{ws l:List Int}(h:Chain c k ws p l)(h0:lo32 (ws.getD p.toNat 0)≠0): lo32 (ws.getD p.toNat 0)∈l:=by
 cases l with
 | nil=>exact absurd h h0
 | cons x r=>rw [h.1]; exact List.mem_cons_self ..
theorem TkI.stab{c:Cfg}{ws ws' own:List Int}{T:Tk}{l:Int→List Int}(h:TkI c ws T)(hs:Stab c ws ws' own)(hT:T.Ok c)(hch:Chains c ws l)(ho:∀b∈own,b∉fr l): TkI c ws' T:=by
 intro hp
 obtain⟨h1,h2,h3⟩:=h hp
 have hk:=hT.cls
 obtain⟨t1,t2⟩:=hs.tag T.cls hk
 refine⟨h1,by omega,fun he hp3 => ?_⟩
 have e1:hi32 (hd ws T.cls)=hi32 (hd ws' T.cls):=by
  have:hi32 (hd ws' T.cls)=hi32 T.seen:=by rw [he]
  omega
 have e2:=t2 e1
 have e3:hd ws T.cls=T.seen:=by rw [←e2]; exact he
 have hc0:clsOf c T.block=T.cls:=hT.b23 hp
 have hc1:0≤clsOf c T.block:=by omega
 have hb:=clsOf_ok hc1
 have hm:T.block∈fr l:=by
  have e4:lo32 (ws.getD (3+T.cls).toNat 0)=T.block:=by rw [h1]; exact congrArg lo32 e3
  have:=chain_head (hch T.cls hk) (by rw [e4]; omega)
  rw [e4] at this
  exact fr_mem hk this
 rw [hs.link _ hc1 (fun hx=>ho _ hx hm)]
 exact h3 e3 hp3
theorem GvI.stab{c:Cfg}{ws ws' own:List Int}{G:Gv}(h:GvI c ws G)(hs:Stab c ws ws' own)(hb:0≤clsOf c G.block)(ho:G.block∉own): GvI c ws' G:=by
 intro hp
 rw [hs.link _ hb ho]
 exact h hp
def ownT(T:Tk): List Int:=if T.ph=0∧T.block≠0 then [T.block] else []
theorem take_own{c:Cfg}(hc:c.Ok){T:Tk}{A:Ar}{k st:Int}{l:Int→List Int}(hT:T.Ok c)(hA:ArW c A k)(hI:TkI c A.ws T)(hH:Hp c A.ws l st)(hst:st≤4294967000)(hp:T.ph≠0):
  ∃l',Hp c (T.step c A).2.ws l' (st+1)∧Stab c A.ws (T.step c A).2.ws []∧TkI c (T.step c A).2.ws (T.step c A).1∧(fr l'++ownT (T.step c A).1).Perm (fr l):=by
 obtain⟨hdd,cl,sn,bk,af,ph⟩:=T
 obtain⟨h1,h2,h3,h4,h5,h6,h7,h8⟩:=hT
 simp only at h1 h2 h3 h4 h5 h6 h7 h8 hp
 have htg:=hH.tag cl h2
 subst h3
 match ph,h1 with
 | 0,_=>exact absurd rfl hp
 | 1,_=>
  unfold Tk.step
  simp only
  split
  ·rename_i hq
   refine⟨l,hH.mono (by omega),Stab.refl _ _ _,fun _=>⟨rfl,Int.le_refl _,fun _ h=>absurd h (by show ¬(2:Nat)=3; decide)⟩, ?_⟩
   simp [ownT]
  ·refine⟨l,hH.mono (by omega),Stab.refl _ _ _,fun h => ?_, ?_⟩
   ·rcases h with h | h <;> exact absurd h (by show ¬(0:Nat) = _; decide)
   ·simp [ownT]
 | 2,_=>
  obtain⟨i1,i2,i3⟩:=hI (.inl rfl)
  refine⟨l,hH.mono (by omega),Stab.refl _ _ _,fun _=>⟨i1,i2,fun _ _=>rfl⟩, ?_⟩
  simp [Tk.step,ownT]
 | 3,_=>
  obtain⟨i1,i2,i3⟩:=hI (.inr rfl)
  simp only at i1 i2 i3
  unfold Tk.step
  simp only
  split
  ·rename_i hq
   have hb:=h6 (.inr rfl)
   have hbk:bk≠0:=by have:=clsOf_ok (c:=c) (b:=bk) (by omega); omega
   obtain⟨r,e1,e2⟩:=hH.ch.pop hc h2 hb hH.len (by rw [i1]; exact congrArg lo32 hq) (i3 hq trivial) h5
   have hsn:turnW sn af=turnW (hd A.ws cl) af:=by rw [←hq]
   refine⟨updL l cl r, ?_, ?_, ?_, ?_⟩
   ·show Hp c (A.ws.set (3+cl).toNat (turnW sn af)) _ _
    rw [hsn]
    refine⟨e2,by rw [List.length_set]; exact hH.len,fun j hj => ?_⟩
    by_cases ej:j=cl
    ·subst ej
     have e4:hd (A.ws.set (3+j).toNat (turnW (hd A.ws j) af)) j=turnW (hd A.ws j) af:=getD_set_eq (by have:=hH.len; omega)
     rw [e4,hi32_turnW (by omega) h5]
     omega
    ·have e4:hd (A.ws.set (3+cl).toNat (turnW (hd A.ws cl) af)) j=hd A.ws j:=getD_set_ne (by omega)
     rw [e4]; have:=hH.tag j hj; omega
   ·show Stab c A.ws (A.ws.set (3+cl).toNat (turnW sn af)) _
    rw [hsn]
    exact Stab.head hc h2 hH.len (by omega) h5
   ·intro h
    rcases h with h | h <;> exact absurd h (by show ¬(0:Nat) = _; decide)
   ·have e3:ownT ⟨3+cl,cl,sn,bk,af,0⟩=[bk]:=by unfold ownT; rw [if_pos ⟨rfl,hbk⟩]
    rw [e3]
    have e4:=fr_upd (l:=l) (x:=r) h2
    rw [e1] at e4
    rw [List.perm_iff_count] at e4 ⊢
    intro z
    have:=e4 z
    simp only [List.count_append,List.count_cons,List.count_nil] at this ⊢
    omega
  ·refine⟨l,hH.mono (by omega),Stab.refl _ _ _,fun h => ?_, ?_⟩
   ·rcases h with h | h <;> exact absurd h (by show ¬(1:Nat) = _; decide)
   ·simp [ownT]
theorem give_own{c:Cfg}(hc:c.Ok){G:Gv}{A:Ar}{k st:Int}{l:Int→List Int}(hG:GvR c G)(hA:ArW c A k)(hI:GvI c A.ws G)(hH:Hp c A.ws l st)(hst:st≤4294967000)(hn:G.block∉fr l):
  ∃l',Hp c (G.step c A).2.ws l' (st+1)∧Stab c A.ws (G.step c A).2.ws [G.block]∧((G.step c A).1.ph≠0→GvI c (G.step c A).2.ws (G.step c A).1∧l'=l)∧((G.step c A).1.ph=0→(fr l').Perm (G.block :: fr l)):=by
 obtain⟨hdd,sn,bk,ph⟩:=G
 obtain⟨⟨h1,h1'⟩,h2,h3,h4⟩:=hG
 simp only at h1 h1' h2 h3 h4 hn
 subst h2
 have hk:=clsOf_le c bk
 have hb1:=clsOf_ok h3
 have hk2:clsOf c bk=0∨clsOf c bk=1:=by omega
 have htg:=hH.tag _ hk2
 have hc':=hc
 simp only [Cfg.Ok] at hc'
 match ph,h1,h1' with
 | 0,h1,h1'=>omega
 | 1,_,_=>
  refine⟨l,hH.mono (by omega),Stab.refl _ _ _,fun _=>⟨fun h=>absurd h (by show ¬(2:Nat)=3; decide),rfl⟩,fun h=>absurd h (by show ¬(2:Nat)=0; decide)⟩
 | 2,_,_=>
  have hbl:=blockAt_ok hc h3
  have hlen:(blockAt c bk).toNat<A.ws.length:=by have:=hA.1; have:=hA.2.1; omega
  refine⟨l, ?_,Stab.link' hc h3 (by simp),fun _=>⟨fun _ => ?_,rfl⟩,fun h=>absurd h (by show ¬(3:Nat)=0; decide)⟩
  ·have hlo:=blockAt_lo hc h3
   refine⟨hH.ch.link hc h3 (fun k hk hm=>hn (fr_mem hk hm)),by show 7≤(A.ws.set _ _).length; rw [List.length_set]; exact hH.len,fun k hk => ?_⟩
   have e:hd (A.ws.set (blockAt c bk).toNat (lo32 sn)) k=hd A.ws k:=getD_set_ne (by omega)
   show 0≤hi32 (hd (A.ws.set (blockAt c bk).toNat (lo32 sn)) k)∧hi32 (hd (A.ws.set (blockAt c bk).toNat (lo32 sn)) k)≤st+1
   rw [e]; have:=hH.tag k hk; omega
  ·show lo32 ((A.ws.set (blockAt c bk).toNat (lo32 sn)).getD (blockAt c bk).toNat 0)=lo32 sn
   rw [getD_set_eq hlen,lo32_lo32]
 | 3,_,_=>
  unfold Gv.step
  simp only
  split
  ·rename_i hq
   have hx:=hI rfl
   simp only at hx
   have hsn:turnW sn bk=turnW (hd A.ws (clsOf c bk)) bk:=by rw [←hq]
   have hp:=hH.ch.push hc h3 hH.len (by rw [hx]; exact congrArg lo32 hq.symm)
   refine⟨updL l (clsOf c bk) (bk :: l (clsOf c bk)), ?_, ?_,fun h=>absurd rfl h,fun _ => ?_⟩
   ·show Hp c (A.ws.set (3+clsOf c bk).toNat (turnW sn bk)) _ _
    rw [hsn]
    refine⟨hp,by rw [List.length_set]; exact hH.len,fun j hj => ?_⟩
    by_cases ej:j=clsOf c bk
    ·subst ej
     have e4:hd (A.ws.set (3+clsOf c bk).toNat (turnW (hd A.ws (clsOf c bk)) bk)) (clsOf c bk)=turnW (hd A.ws (clsOf c bk)) bk:=getD_set_eq (by have:=hH.len; omega)
     rw [e4,hi32_turnW (by omega) (by omega)]
     omega
    ·have e4:hd (A.ws.set (3+clsOf c bk).toNat (turnW (hd A.ws (clsOf c bk)) bk)) j=hd A.ws j:=getD_set_ne (by omega)
     rw [e4]; have:=hH.tag j hj; omega
   ·show Stab c A.ws (A.ws.set (3+clsOf c bk).toNat (turnW sn bk)) _
    rw [hsn]
    exact Stab.head hc hk2 hH.len (by omega) (by omega)
   ·have e4:=fr_upd (l:=l) (x:=bk :: l (clsOf c bk)) hk2
    rw [List.perm_iff_count] at e4 ⊢
    intro z
    have:=e4 z
    simp only [List.count_append,List.count_cons] at this ⊢
    omega
  ·exact⟨l,hH.mono (by omega),Stab.refl _ _ _,fun _=>⟨fun h=>absurd h (by show ¬(1:Nat)=3; decide),rfl⟩,fun h=>absurd h (by show ¬(1:Nat)=0; decide)⟩
def ScG(c:Cfg)(ws:List Int)(S:Sc): Prop := ∀G,S.give=some G→GvI c ws G
theorem next_give{c:Cfg}{ws:List Int}{S:Sc}: ScG c ws (S.next c):=by
 intro G hG hp
 simp only [Sc.next,Option.map_eq_some_iff] at hG
 obtain⟨b,_,rfl⟩:=hG
 exact absurd hp (by show ¬(1:Nat)=3; decide)
theorem scan_own{c:Cfg}(hc:c.Ok){S:Sc}{A:Ar}{k st:Int}{l:Int→List Int}(hS:ScI c S)(hA:ArW c A k)(hI:ScG c A.ws S)(hH:Hp c A.ws l st)(hst:st≤4294967000)(hn:∀b∈S.kept++S.left,b∉fr l):
  ∃l',Hp c (S.step c A).2.ws l' (st+1)∧Stab c A.ws (S.step c A).2.ws (S.kept++S.left)∧ScG c (S.step c A).2.ws (S.step c A).1∧
   (fr l'++((S.step c A).1.kept++(S.step c A).1.left)).Perm (fr l++(S.kept++S.left)):=by
 unfold Sc.step
 cases hg:S.give with
 | none=>
  simp only
  split
  ·refine⟨l,hH.mono (by omega),Stab.refl _ _ _, ?_, ?_⟩
   ·split
    ·exact next_give
    ·intro G hG; simp only [Sc.look] at hG; rw [hg] at hG; cases hG
   ·split
    ·have hsub:=nextL_sub (named:=(S.look c (A.ws.getD (slotAt c S.slot).toNat 0)).named) S.left S.kept
     have e:((S.look c (A.ws.getD (slotAt c S.slot).toNat 0)).next c).kept++((S.look c (A.ws.getD (slotAt c S.slot).toNat 0)).next c).left=S.kept++S.left:=hsub.1
     rw [e]
    ·exact .refl _
  ·exact⟨l,hH.mono (by omega),Stab.refl _ _ _,fun G hG=>hI G hG,.refl _⟩
 | some G=>
  simp only
  obtain⟨hG,hd⟩:=hS.give G hg
  obtain⟨rest,hl⟩:∃rest,S.left=G.block :: rest:=by
   cases hl:S.left with
   | nil=>rw [hl] at hd; simp at hd
   | cons b r=>rw [hl] at hd; simp at hd; exact⟨r,by rw [hd]⟩
  have hm:G.block∈S.kept++S.left:=by rw [hl]; simp
  obtain⟨l',h1,h2,h3,h4⟩:=give_own hc hG hA (hI G hg) hH hst (hn _ hm)
  have h2':Stab c A.ws (G.step c A).2.ws (S.kept++S.left):=⟨h2.tag,fun b hb hx=>h2.link b hb (fun hy=>hx (by simp only [List.mem_singleton] at hy; rw [hy]; exact hm))⟩
  split
  ·rename_i hz
   refine⟨l',h1,h2',next_give, ?_⟩
   have hsub:=nextL_sub (named:=S.named) (S.left.drop 1) S.kept
   have e:(({S with given:=S.given++[S.left.getD 0 0],left:=S.left.drop 1,give:=none}:Sc).next c).kept++(({S with given:=S.given++[S.left.getD 0 0],left:=S.left.drop 1,give:=none}:Sc).next c).left=S.kept++S.left.drop 1:=hsub.1
   rw [e]
   have h5:=h4 hz
   rw [hl]
   rw [List.perm_iff_count] at h5 ⊢
   intro z
   have:=h5 z
   simp only [List.count_append,List.count_cons,List.drop_succ_cons,List.drop_zero] at this ⊢
   omega
  ·rename_i hz
   obtain⟨h5,h6⟩:=h3 hz
   subst h6
   refine⟨l',h1,h2', ?_,.refl _⟩
   intro G' hG'
   simp only [Option.some.injEq] at hG'
   subst hG'
   exact h5
def ownB(S:Pb): List Int:=if S.block=0 then [] else [S.block]
def ctlL(w:Int): List Int:=if ctlBlock w=0 then [] else [ctlBlock w]
def oldL(S:Pb): List Int:=if S.ph=0∧S.old>0 then [S.old] else []
structure PbI (c:Cfg) (ws:List Int) (S:Pb):Prop where
 t:S.ph=1→TkI c ws S.tk
 g:S.ph=5→GvI c ws S.gv
theorem ctl_pubW{w b:Int}(hb:0≤b∧b≤65535): ctlBlock (pubW w b)=b:=by
 unfold ctlBlock pubW packW3; omega
theorem pub_own{c:Cfg}(hc:c.Ok){ep:Int}{ws:List Int}{S:Pb}{A:Ar}{k st:Int}{l:Int→List Int}(hS:S.Ok c ws)(hA:ArW c A k)(hI:PbI c A.ws S)(hH:Hp c A.ws l st)(hst:st≤4294967000)
  (hn:∀b∈ownB S,b∉fr l) (hp:S.ph≠0) :
  ∃l',Hp c (S.step c (ctlAt c 0) ep ws A).2.ws l' (st+1)∧Stab c A.ws (S.step c (ctlAt c 0) ep ws A).2.ws (ownB S)∧PbI c (S.step c (ctlAt c 0) ep ws A).2.ws (S.step c (ctlAt c 0) ep ws A).1∧
   (fr l'++(oldL (S.step c (ctlAt c 0) ep ws A).1++ownB (S.step c (ctlAt c 0) ep ws A).1)++ctlL (wordC c (S.step c (ctlAt c 0) ep ws A).2)).Perm (fr l++ownB S++ctlL (wordC c A)):=by
 have hc':=hc
 simp only [Cfg.Ok] at hc'
 have ht0:(0:Int)≤0∧(0:Int)<c.topics:=by omega
 have hfc:=far_ctl hc ht0
 have hct:=ctl0_ok hc
 obtain⟨tk,i,sn,fl,bk,od,tm,cd,gv,ph⟩:=S
 obtain⟨h1,h2,h3,hne,h4,h5,h6,h7,h8,h9,h10,h11,h12,h13,h14,h15,h16,h17,hc0,h18⟩:=hS
 simp only at h1 h2 h3 h4 h5 h6 h7 h8 h9 h10 h11 h12 h13 h14 h15 h16 h17 h18 hc0 hp
 have ol0:od=0:=h14 hp
 subst ol0
 have oz:∀(S:Pb),S.old=0→oldL S=[]:=fun S h=>by unfold oldL; rw [if_neg (by omega)]
 have hlc:(ctlAt c 0).toNat<A.ws.length:=by have:=hA.1; have:=hA.2.1; omega
 match ph,h1 with
 | 0,_=>exact absurd rfl hp
 | 1,_=>
  have hb0:bk=0:=h12 (.inl rfl)
  subst hb0
  obtain⟨l',q1,q2,q3,q4⟩:=take_own hc h2 hA (hI.t rfl) hH hst (h3 rfl)
  have hto:=(tk_step h2 hA).1
  have hwd:wordC c (Tk.step c tk A).2=wordC c A:=by
   obtain⟨hdd,cl,sn',bk',af,ph'⟩:=tk
   have hh:=h2.head; have hk:=h2.cls
   simp only at hh hk
   unfold wordC
   match ph',h2.ph with
   | 0,_=>rfl
   | 1,_=>unfold Tk.step; simp only; split <;> rfl
   | 2,_=>rfl
   | 3,_=>
    unfold Tk.step; simp only; split
    ·show(A.ws.set hdd.toNat (turnW sn' af)).getD _ 0 = _
     exact getD_set_ne (by have:=hfc.1; have:=hfc.2.1; omega)
    ·rfl
  have o0:∀(S:Pb),S.block=0→ownB S=[]:=fun S h=>by unfold ownB; rw [if_pos h]
  have hs1:∀own,Stab c A.ws (Tk.step c tk A).2.ws own:=fun own=>⟨q2.tag,fun b hb _=>q2.link b hb (by simp)⟩
  unfold Pb.step
  simp only
  split
  ·rename_i hz
   split
   ·rename_i hb
    refine⟨l',q1,hs1 _,⟨fun h=>absurd h (by show ¬(0:Nat)=1; decide),fun h=>absurd h (by show ¬(0:Nat)=5; decide)⟩, ?_⟩
    rw [oz _ rfl,o0 _ rfl,hwd,o0 _ rfl]
    have e:ownT (Tk.step c tk A).1=[]:=by unfold ownT; rw [if_neg (fun h=>h.2 hb)]
    rw [e,List.append_nil] at q4
    simp only [List.append_nil]
    exact q4.append_right _
   ·rename_i hb
    refine⟨l',q1,hs1 _,⟨fun h=>absurd h (by show ¬(2:Nat)=1; decide),fun h=>absurd h (by show ¬(2:Nat)=5; decide)⟩, ?_⟩
    rw [oz _ rfl,hwd]
    have e:ownT (Tk.step c tk A).1=[(Tk.step c tk A).1.block]:=by unfold ownT; rw [if_pos ⟨hz,hb⟩]
    have e2:ownB ⟨(Tk.step c tk A).1,i,sn,fl,(Tk.step c tk A).1.block,0,tm,cd,gv,2⟩=[(Tk.step c tk A).1.block]:=by unfold ownB; rw [if_neg hb]
    have e3:=o0 ⟨tk,i,sn,fl,0,0,tm,cd,gv,1⟩ rfl
    rw [e2,e3,List.append_nil,List.nil_append,←e]
    exact q4.append_right _
  ·rename_i hz
   refine⟨l',q1,hs1 _,⟨fun _=>q3,fun h=>absurd h (by show ¬(1:Nat)=5; decide)⟩, ?_⟩
   rw [oz _ rfl,hwd]
   have e:ownT (Tk.step c tk A).1=[]:=by unfold ownT; rw [if_neg (fun h=>hz h.1)]
   rw [e,List.append_nil] at q4
   exact(q4.append_right _).append_right _
 | 2,_=>
  have hcb:=h11 (by decide) (by decide)
  have hk:=h2.cls
  have hi2:=h6 rfl
  have hfd:=far_data hc (b:=bk) (j:=i) (by omega) (by rw [hcb]; omega)
  have hwd:wordC c (A.store (blockAt c bk+1+i) (ws.getD i.toNat 0))=wordC c A:=by
   show(A.ws.set _ _).getD _ 0 = _
   refine getD_set_ne ?_
   have:=ctl_top hc ht0
   have:=blockAt_lo2 hc (b:=bk) (by omega)
   omega
  refine⟨l,(hH.far hfd).mono (by omega),Stab.far hfd,⟨?_, ?_⟩, ?_⟩
  ·intro h; simp only [Pb.step] at h; split at h <;> exact absurd h (by decide)
  ·intro h; simp only [Pb.step] at h; split at h <;> exact absurd h (by decide)
  ·have e:wordC c (Pb.step c (ctlAt c 0) ep ws ⟨tk,i,sn,fl,bk,0,tm,cd,gv,2⟩ A).2=wordC c A:=hwd
   rw [e,oz _ rfl]
   exact .refl _
 | 3,_=>
  have hw:wordC c (A.load (ctlAt c 0))=wordC c A:=rfl
  unfold Pb.step
  simp only
  split
  ·split
   ·refine⟨l,hH.mono (by omega),Stab.refl _ _ _,⟨fun h=>absurd h (by show ¬(5:Nat)=1; decide),fun _ h=>absurd h (by show ¬(1:Nat)=3; decide)⟩, ?_⟩
    rw [oz _ rfl]; exact .refl _
   ·refine⟨l,hH.mono (by omega),Stab.refl _ _ _,⟨fun h=>absurd h (by show ¬(4:Nat)=1; decide),fun h=>absurd h (by show ¬(4:Nat)=5; decide)⟩, ?_⟩
    rw [oz _ rfl]; exact .refl _
  ·refine⟨l,hH.mono (by omega),Stab.refl _ _ _,⟨fun h=>absurd h (by show ¬(5:Nat)=1; decide),fun _ h=>absurd h (by show ¬(1:Nat)=3; decide)⟩, ?_⟩
   rw [oz _ rfl]; exact .refl _
 | 4,_=>
  have hcb:=h11 (by decide) (by decide)
  have hk:=h2.cls
  have hb:=clsOf_ok (c:=c) (b:=bk) (by omega)
  unfold Pb.step
  simp only
  split
  ·rename_i hq
   have hu:=ctl_rng h8
   refine⟨l,(hH.far hfc).mono (by omega),Stab.far hfc,⟨fun h=>absurd h (by show ¬(0:Nat)=1; decide),fun h=>absurd h (by show ¬(0:Nat)=5; decide)⟩, ?_⟩
   have e1:wordC c (A.swapT (ctlAt c 0) (pubW sn bk))=pubW sn bk:=getD_set_eq hlc
   have e2:wordC c A=sn:=hq
   have e3:ctlL (pubW sn bk)=[bk]:=by unfold ctlL; rw [ctl_pubW (by omega),if_neg (by omega)]
   have e4:ownB ⟨tk,i,sn,fl,bk,0,tm,cd,gv,4⟩=[bk]:=by unfold ownB; rw [if_neg (by show ¬bk=0; omega)]
   have e5:ownB ⟨tk,i,sn,fl,0,ctlBlock sn,A.steps+1,0,gv,0⟩=[]:=by unfold ownB; rw [if_pos rfl]
   have e6:oldL ⟨tk,i,sn,fl,0,ctlBlock sn,A.steps+1,0,gv,0⟩=ctlL sn:=by
    unfold oldL ctlL
    by_cases hz:ctlBlock sn=0
    ·rw [if_pos hz,if_neg (by show ¬(_∧ctlBlock sn>0); omega)]
    ·rw [if_neg hz,if_pos ⟨rfl,by show ctlBlock sn>0; omega⟩]
   rw [e1,e2,e3,e4,e5,e6,List.append_nil,List.perm_iff_count]
   intro z
   simp only [List.count_append]
   omega
  ·split
   ·refine⟨l,hH.mono (by omega),Stab.refl _ _ _,⟨fun h=>absurd h (by show ¬(5:Nat)=1; decide),fun _ h=>absurd h (by show ¬(1:Nat)=3; decide)⟩, ?_⟩
    rw [oz _ rfl]; exact .refl _
   ·refine⟨l,hH.mono (by omega),Stab.refl _ _ _,⟨fun h=>absurd h (by show ¬(3:Nat)=1; decide),fun h=>absurd h (by show ¬(3:Nat)=5; decide)⟩, ?_⟩
    rw [oz _ rfl]; exact .refl _
 | 5,_=>
  obtain⟨hg,hgb⟩:=h16 rfl
  have hcb:=h11 (by decide) (by decide)
  have hk:=h2.cls
  have hb:=clsOf_ok (c:=c) (b:=bk) (by omega)
  have e4:ownB ⟨tk,i,sn,fl,bk,0,tm,cd,gv,5⟩=[bk]:=by unfold ownB; rw [if_neg (by show ¬bk=0; omega)]
  rw [e4] at hn
  obtain⟨l',q1,q2,q3,q4⟩:=give_own hc hg hA (hI.g rfl) hH hst (by rw [hgb]; exact hn bk (by simp))
  have hwd:wordC c (Gv.step c gv A).2=wordC c A:=by
   obtain⟨hdd,sn',bk',ph'⟩:=gv
   have hh:=hg.2.1; have hkk:=hg.2.2.1
   simp only at hh hkk hgb
   have hl2:=clsOf_le c bk'
   unfold wordC
   match ph' with
   | 0=>rfl
   | 1=>rfl
   | 2=>
    show(A.ws.set (blockAt c bk').toNat (lo32 sn')).getD _ 0 = _
    exact getD_set_ne (fun e=>hfc.2.2 bk' hkk e.symm)
   | 3=>
    unfold Gv.step; simp only; split
    ·show(A.ws.set hdd.toNat (turnW sn' bk')).getD _ 0 = _
     exact getD_set_ne (by have:=hfc.1; have:=hfc.2.1; omega)
    ·rfl
   | n+4=>rfl
  have hs1:Stab c A.ws (Gv.step c gv A).2.ws [bk]:=by rw [hgb] at q2; exact q2
  rw [e4]
  unfold Pb.step
  simp only
  split
  ·rename_i hz
   refine⟨l',q1,hs1,⟨fun h=>absurd h (by show ¬(0:Nat)=1; decide),fun h=>absurd h (by show ¬(0:Nat)=5; decide)⟩, ?_⟩
   have e5:ownB ⟨tk,i,sn,fl,0,0,tm,cd,(Gv.step c gv A).1,0⟩=[]:=by unfold ownB; rw [if_pos rfl]
   rw [oz _ rfl,e5,hwd]
   have q5:=q4 hz
   rw [hgb] at q5
   rw [List.perm_iff_count] at q5 ⊢
   intro z
   have:=q5 z
   simp only [List.count_append,List.count_cons,List.count_nil] at this ⊢
   omega
  ·rename_i hz
   obtain⟨q5,q6⟩:=q3 hz
   subst q6
   refine⟨l',q1,hs1,⟨fun h=>absurd h (by show ¬(5:Nat)=1; decide),fun _=>q5⟩, ?_⟩
   have e5:ownB ⟨tk,i,sn,fl,bk,0,tm,cd,(Gv.step c gv A).1,5⟩=[bk]:=by unfold ownB; rw [if_neg (by show ¬bk=0; omega)]
   rw [oz _ rfl,e5,hwd]
   exact .refl _
end Go.Sx
namespace Go.Sx
def RdI(c:Cfg)(S:Rd): Prop:=S.ph=2→∀G,S.gu=some G→G.slot=slotAt c S.slot
theorem gu_slot{r:Int}{G:Gu}{A:Ar}: (G.step r A).1.slot=G.slot:=by
 have look:∀(G:Gu) (w:Int),(G.look w).slot=G.slot:=fun G w=>by unfold Gu.look; split <;> rfl
 unfold Gu.step
 split
 ·rfl
 ·exact look _ _
 ·rfl
 ·split
  ·rfl
  ·split
   ·rfl
   ·exact look _ _
theorem read_own{c:Cfg}(hc:c.Ok){cl ep:Int}{S:Rd}{A:Ar}{k st:Int}{l:Int→List Int}(hS:S.Ok c cl 0 A.n)(hA:ArW c A k)(hI:RdI c S)(hH:Hp c A.ws l st):
  Hp c (S.step c cl 0 ep A).2.ws l (st+1)∧Stab c A.ws (S.step c cl 0 ep A).2.ws []∧RdI c (S.step c cl 0 ep A).1∧wordC c (S.step c cl 0 ep A).2=wordC c A:=by
 have hc':=hc
 simp only [Cfg.Ok] at hc'
 have hct:=ctl0_ok hc
 have fs:∀ {s v:Int},0≤s∧s<c.slots→Hp c (A.ws.set (slotAt c s).toNat v) l (st+1)∧Stab c A.ws (A.ws.set (slotAt c s).toNat v) []∧(A.ws.set (slotAt c s).toNat v).getD (ctlAt c 0).toNat 0=wordC c A:=by
  intro s v hs
  have h1:=slotAt_ok hc hs
  exact⟨(hH.far (far_slot hc hs)).mono (by omega),Stab.far (far_slot hc hs),getD_set_ne (by omega)⟩
 have same:Hp c A.ws l (st+1)∧Stab c A.ws A.ws []:=⟨hH.mono (by omega),Stab.refl _ _ _⟩
 obtain⟨K,gu,sl,ws,cd,ph⟩:=S
 obtain⟨h1,h2,h3,h4,h5,h6,h7,h8,h8b,h9,h10,h10b,h11,h12⟩:=hS
 simp only at h1 h2 h3 h4 h5 h6 h7 h8 h8b h9 h10 h10b h11 h12
 have no2:∀ {S:Rd},S.ph≠2→RdI c S:=fun h hp=>absurd hp h
 match ph,h1 with
 | 0,_=>exact⟨same.1,same.2,hI,rfl⟩
 | 1,_=>
  obtain⟨e1,e2,e3,e4,e5⟩:=h5 rfl
  have hat:=h2.at_.resolve_left e4
  have hk:Hp c (K.step c A).2.ws l (st+1)∧Stab c A.ws (K.step c A).2.ws []∧wordC c (K.step c A).2=wordC c A:=by
   unfold Cl.step
   rw [if_neg e4]
   split
   ·exact fs hat
   ·exact⟨same.1,same.2,rfl⟩
  unfold Rd.step
  simp only
  split
  ·split
   ·exact⟨hk.1,hk.2.1,no2 (by show ¬(0:Nat)=2; decide),hk.2.2⟩
   ·exact⟨hk.1,hk.2.1,fun _ G hG=>by cases hG; rfl,hk.2.2⟩
  ·exact⟨hk.1,hk.2.1,no2 (by show ¬(1:Nat)=2; decide),hk.2.2⟩
 | 2,_=>
  obtain⟨G,e1,e2,e3,e4⟩:=h6 rfl
  subst e1
  have hsl:=h9.resolve_left (h10 (by decide) (by decide))
  have hgs:G.slot=slotAt c sl:=hI rfl G rfl
  have hk:Hp c (G.step c.retry A).2.ws l (st+1)∧Stab c A.ws (G.step c.retry A).2.ws []∧wordC c (G.step c.retry A).2=wordC c A:=by
   unfold Gu.step
   split
   ·exact⟨same.1,same.2,rfl⟩
   ·exact⟨same.1,same.2,rfl⟩
   ·rw [hgs]; exact fs hsl
   ·split
    ·exact⟨same.1,same.2,rfl⟩
    ·split <;> exact⟨same.1,same.2,rfl⟩
  unfold Rd.step
  simp only
  split
  ·split
   ·exact⟨hk.1,hk.2.1,no2 (by show ¬(3:Nat)=2; decide),hk.2.2⟩
   ·exact⟨hk.1,hk.2.1,no2 (by show ¬(4:Nat)=2; decide),hk.2.2⟩
  ·exact⟨hk.1,hk.2.1,fun _ G' hG=>by cases hG; rw [gu_slot]; exact hgs,hk.2.2⟩
 | 3,_=>
  unfold Rd.step
  simp only
  split
  ·exact⟨same.1,same.2,no2 (by show ¬(4:Nat)=2; decide),rfl⟩
  ·exact⟨same.1,same.2,no2 (by show ¬(3:Nat)=2; decide),rfl⟩
 | 4,_=>
  have hsl:=h9.resolve_left (h10 (by decide) (by decide))
  have:=fs (v:=0) hsl
  exact⟨this.1,this.2.1,no2 (by show ¬(0:Nat)=2; decide),this.2.2⟩
theorem scan_word{c:Cfg}(hc:c.Ok){S:Sc}{A:Ar}(hS:ScI c S): wordC c (S.step c A).2=wordC c A:=step_ctl hc hS (by simp only [Cfg.Ok] at hc; omega)
def Kc.own(k:Kc): List Int:=k.ret++match k.d with
 | .pub _ _ S=>ownB S
 | _=>[]
def Kc.St(c:Cfg)(A:Ar)(i:Int)(k:Kc): Prop:=match k.d with
 | .idle=>True
 | .pub _ ws S=>S.Ok c ws∧(∀j:Nat,U64 (ws.getD j 0))∧S.ph≠0∧i<2
 | .scan S=>ScI c S∧k.ret=S.kept++S.left∧Sc.done c S=false∧i<2
 | .read cl _ S=>S.Ok c cl 0 A.n∧cl=i∧S.ph≠0∧2≤i
def Kc.In(c:Cfg)(ws:List Int)(k:Kc): Prop:=match k.d with
 | .idle=>True
 | .pub _ _ S=>PbI c ws S
 | .scan S=>ScG c ws S
 | .read _ _ S=>RdI c S
theorem Kc.In.stab{c:Cfg}{A:Ar}{ws' own:List Int}{i:Int}{k:Kc}{l:Int→List Int}(h:k.In c A.ws)(hS:k.St c A i)(hs:Stab c A.ws ws' own)(hch:Chains c A.ws l)(ho:∀b∈own,b∉fr l)(hd:∀b∈own,b∉k.own): k.In c ws':=by
 obtain⟨d,ret,id_⟩:=k
 cases d with
 | idle=>trivial
 | pub ep ws S=>
  have hP:S.Ok c ws:=hS.1
  refine⟨fun hp=>(h.t hp).stab hs hP.tk hch ho,fun hp => ?_⟩
  obtain⟨g1,g2⟩:=hP.gv hp
  refine(h.g hp).stab hs g1.2.2.1 (fun hm=>hd _ hm ?_)
  have hb:=clsOf_ok g1.2.2.1
  show _∈ret++ownB S
  have:ownB S=[S.gv.block]:=by unfold ownB; rw [←g2,if_neg (by omega)]
  rw [this]; simp
 | scan S=>
  intro G hG
  have hP:ScI c S:=hS.1
  obtain⟨g1,g2⟩:=hP.give G hG
  refine(h G hG).stab hs g1.2.2.1 (fun hm=>hd _ hm ?_)
  have hr:ret=S.kept++S.left:=hS.2.1
  show _∈ret++[]
  rw [hr]
  have:=List.mem_of_mem_head? (by rw [g2]; rfl:G.block∈S.left.head?)
  simp [this]
 | read cl ep S=>exact h
theorem Kc.St.arena{c:Cfg}{A A':Ar}{i:Int}{k:Kc}(h:k.St c A i)(hn:A'.n=A.n): k.St c A' i:=by
 obtain⟨d,ret,id_⟩:=k
 cases d with
 | idle=>trivial
 | pub ep ws S=>exact h
 | scan S=>exact h
 | read cl ep S=>simp only [Kc.St] at h ⊢; rw [hn]; exact h
theorem old_told{S:Pb}{ret:List Int}(h:S.ph=0): (if (Pb.told S).1>0 then ret++[(Pb.told S).1] else ret)=ret++oldL S:=by
 obtain⟨tk,i,sn,fl,bk,od,tm,cd,gv,ph⟩:=S
 simp only at h
 subst h
 show(if od>0 then ret++[od] else ret) = _
 unfold oldL
 by_cases ho:od>0
 ·rw [if_pos ho,if_pos ⟨rfl,ho⟩]
 ·rw [if_neg ho,if_neg (fun h=>ho h.2),List.append_nil]
theorem kc_own{c:Cfg}(hc:c.Ok){now i:Int}{K:Kc}{A:Ar}{k st:Int}{l:Int→List Int}(hS:K.St c A i)(hA:ArW c A k)(hI:K.In c A.ws)(hH:Hp c A.ws l st)(hst:st≤4294967000)(hC:CtlOk c A 0)
  (hn:∀b∈K.own,b∉fr l) :
  ∃l',Hp c (K.step c now A).A.ws l' (st+1)∧Stab c A.ws (K.step c now A).A.ws K.own∧(K.step c now A).k.In c (K.step c now A).A.ws∧(K.step c now A).k.St c (K.step c now A).A i∧ArW c (K.step c now A).A (k+1)∧
   (fr l'++(K.step c now A).k.own++ctlL (wordC c (K.step c now A).A)).Perm (fr l++K.own++ctlL (wordC c A))∧(i≥2→(K.step c now A).k.ret=K.ret):=by
 have hc':=hc
 simp only [Cfg.Ok] at hc'
 have ht0:(0:Int)≤0∧(0:Int)<c.topics:=by omega
 obtain⟨d,ret,id_⟩:=K
 cases d with
 | idle=>exact⟨l,hH.mono (by omega),Stab.refl _ _ _,trivial,trivial,hA.mono (by omega),.refl _,fun _=>rfl⟩
 | pub ep ws S=>
  obtain⟨hP,hu,hp,hi⟩:=hS
  have hs2:=pb_step (at_:=ctlAt c 0) (ep:=ep) hc hu hP hA
  obtain⟨l',q1,q2,q3,q4⟩:=pub_own (ep:=ep) hc hP hA hI hH hst (fun b hb=>hn b (List.mem_append_right _ hb)) hp
  have q2':Stab c A.ws (S.step c (ctlAt c 0) ep ws A).2.ws (ret++ownB S):=⟨q2.tag,fun b hb hx=>q2.link b hb (fun hy=>hx (List.mem_append_right _ hy))⟩
  unfold Kc.step
  simp only
  split
  ·rename_i hz
   refine⟨l',q1,q2',trivial,trivial,hs2.2, ?_,fun h=>by omega⟩
   show(fr l'++((if (Pb.told _).1>0 then ret++[(Pb.told _).1] else ret)++[])++ctlL _).Perm (fr l++(ret++ownB S)++ctlL _)
   rw [old_told hz]
   have e:ownB (S.step c (ctlAt c 0) ep ws A).1=[]:=by unfold ownB; rw [if_pos (hs2.1.bl1 (.inr hz))]
   rw [e] at q4
   rw [List.perm_iff_count] at q4 ⊢
   intro z
   have:=q4 z
   simp only [List.count_append,List.count_nil] at this ⊢
   omega
  ·rename_i hz
   refine⟨l',q1,q2',q3,⟨hs2.1,hu,hz,hi⟩,hs2.2, ?_,fun h=>by omega⟩
   have e:oldL (S.step c (ctlAt c 0) ep ws A).1=[]:=by unfold oldL; rw [if_neg (fun h=>hz h.1)]
   rw [e] at q4
   show(fr l'++(ret++ownB _)++ctlL _).Perm (fr l++(ret++ownB S)++ctlL _)
   rw [List.perm_iff_count] at q4 ⊢
   intro z
   have:=q4 z
   simp only [List.count_append,List.count_nil] at this ⊢
   omega
 | scan S=>
  obtain⟨hP,hr,hd,hi⟩:=hS
  simp only at hr
  subst hr
  have hs2:=sc_step hc hP hA
  obtain⟨l',q1,q2,q3,q4⟩:=scan_own hc hP hA hI hH hst (fun b hb=>hn b (List.mem_append_left _ hb))
  have q2':Stab c A.ws (S.step c A).2.ws (S.kept++S.left++[]):=by rw [List.append_nil]; exact q2
  have e:wordC c (S.step c A).2=wordC c A:=scan_word hc hP
  have hfin:(fr l'++((S.step c A).1.kept++(S.step c A).1.left++[])++ctlL (wordC c (S.step c A).2)).Perm (fr l++(S.kept++S.left++[])++ctlL (wordC c A)):=by
   rw [e,List.append_nil,List.append_nil]
   exact q4.append_right _
  unfold Kc.step
  simp only
  cases hd2:Sc.done c (S.step c A).1 with
  | true=>exact⟨l',q1,q2',trivial,trivial,hs2.2,hfin,fun h=>by omega⟩
  | false=>exact⟨l',q1,q2',q3,⟨hs2.1,rfl,hd2,hi⟩,hs2.2,hfin,fun h=>by omega⟩
 | read cl ep S=>
  obtain⟨hP,hcl2,hp,hi⟩:=hS
  have hs2:=rd_step (ep:=ep) hc hP hA ht0 hC
  obtain⟨q1,q2,q3,q4⟩:=read_own (ep:=ep) hc hP hA hI hH
  have q2':Stab c A.ws (S.step c cl 0 ep A).2.ws (ret++[]):=⟨q2.tag,fun b hb _=>q2.link b hb (by simp)⟩
  unfold Kc.step
  simp only
  split
  ·refine⟨l,q1,q2',trivial,trivial,hs2.2, ?_,fun _=>rfl⟩
   show(_ ++ _++ctlL (wordC c (S.step c cl 0 ep A).2)).Perm _
   rw [q4]; exact .refl _
  ·rename_i hz
   refine⟨l,q1,q2',q3,⟨hs2.1,hcl2,hz,hi⟩,hs2.2, ?_,fun _=>rfl⟩
   show(_ ++ _++ctlL (wordC c (S.step c cl 0 ep A).2)).Perm _
   rw [q4]; exact .refl _
def blks(c:Cfg): List Int:=(List.range (c.n0+c.n1).toNat).map fun i=>((i:Nat):Int)+1
theorem mem_blks{c:Cfg}{b:Int}: b∈blks c↔1≤b∧b≤c.n0+c.n1:=by
 unfold blks
 simp only [List.mem_map,List.mem_range]
 constructor
 ·rintro⟨i,hi,rfl⟩; omega
 ·intro h; exact⟨(b-1).toNat,by omega,by omega⟩
theorem nodup_blks(c:Cfg): (blks c).Nodup:=by
 unfold blks
 refine List.Pairwise.map _ (fun a b h => ?_) (List.nodup_range (n:=(c.n0+c.n1).toNat))
 intro e; exact h (by omega)
theorem good_ofC{c:Cfg}{xs:List Int}(hd:xs.Nodup)(hm:∀b∈xs,0≤clsOf c b): goodRow c xs:=by
 intro i hi
 exact⟨hm (xs.getD i 0) (by rw [List.getD_eq_getElem?_getD,List.getElem?_eq_getElem hi]; exact List.getElem_mem _),hasN_nodup hd i hi⟩
structure Own (c:Cfg) (W:Wd) (l:Int→List Int) (k:Int):Prop where
 arw:ArW c W.A k
 hp:Hp c W.A.ws l k
 ctl:CtlOk c W.A 0
 len:W.ks.length=4
 st:∀i:Int,0≤i∧i<4→(W.k i).St c W.A i
 inn:∀i:Int,0≤i∧i<4→(W.k i).In c W.A.ws
 rd:∀i:Int,2≤i∧i<4→(W.k i).ret=[]
 perm:(fr l++ctlL (wordC c W.A)++W.ks.flatMap Kc.own).Perm (blks c)
theorem flat_at{α : Type}{f : α→List Int}{ks:List α}{n:Nat}(h:n<ks.length)(d : α): (ks.flatMap f).Perm (f (ks.getD n d)++(ks.eraseIdx n).flatMap f):=by
 have e:ks.getD n d=ks[n]:=by rw [List.getD_eq_getElem?_getD,List.getElem?_eq_getElem h]; rfl
 rw [e]
 exact((eraseIdx_perm ks n h).flatMap_right f).symm
theorem flat_set{α : Type}{f : α→List Int}{ks:List α}{n:Nat}(h:n<ks.length)(x : α): ((ks.set n x).flatMap f).Perm (f x++(ks.eraseIdx n).flatMap f):=by
 have h':n<(ks.set n x).length:=by rw [List.length_set]; exact h
 have:=flat_at (f:=f) h' x
 rw [List.getD_eq_getElem?_getD,List.getElem?_set_self h,List.eraseIdx_set_eq] at this
 exact this
theorem flat_oth{α : Type}{f : α→List Int}{ks:List α}{n m:Nat}(d : α)(hm:m<ks.length)(h:m≠n){b:Int}(hb:b∈f (ks.getD m d)): b∈(ks.eraseIdx n).flatMap f:=by
 have e:ks.getD m d=ks[m]:=by rw [List.getD_eq_getElem?_getD,List.getElem?_eq_getElem hm]; rfl
 rw [e] at hb
 exact List.mem_flatMap.2 ⟨ks[m],List.mem_eraseIdx_iff_getElem.2 ⟨m,hm,h,rfl⟩,hb⟩
theorem k_set{W:Wd}{A:Ar}{many:List Int}{now i j:Int}{x:Kc}(hl:W.ks.length=4)(hi:0≤i∧i<4)(hj:0≤j∧j<4): (⟨A,W.ks.set i.toNat x,many,now⟩:Wd).k j=if j=i then x else W.k j:=by
 show(W.ks.set i.toNat x).getD j.toNat dK = _
 rw [List.getD_eq_getElem?_getD,List.getElem?_set]
 by_cases e:j=i
 ·subst e; rw [if_pos rfl,if_pos (by omega),if_pos rfl]; rfl
 ·rw [if_neg (by omega),if_neg e]; exact(List.getD_eq_getElem?_getD ..).symm
theorem Own.perm'{c:Cfg}{W:Wd}{l:Int→List Int}{k:Int}(h:Own c W l k){i:Int}(hi:0≤i∧i<4): (fr l++ctlL (wordC c W.A)++((W.k i).own++(W.ks.eraseIdx i.toNat).flatMap Kc.own)).Perm (blks c):=
 ((flat_at (f:=Kc.own) (ks:=W.ks) (n:=i.toNat) (by have:=h.len; omega) dK).symm.append_left _).trans h.perm
theorem Own.apart{c:Cfg}{W:Wd}{l:Int→List Int}{k:Int}(h:Own c W l k){i:Int}(hi:0≤i∧i<4):
  (∀b∈(W.k i).own,b∉fr l)∧(∀b∈(W.k i).own,b∈blks c)∧(∀b∈(W.k i).own,b∉(W.ks.eraseIdx i.toNat).flatMap Kc.own)∧(W.k i).own.Nodup∧(∀b∈ctlL (wordC c W.A),b∉(W.k i).own):=by
 have hp:=h.perm' hi
 have hn:=(hp.nodup_iff).2 (nodup_blks c)
 rw [List.append_assoc] at hn
 obtain⟨n1,n2,n3⟩:=List.nodup_append.1 hn
 obtain⟨m1,m2,m3⟩:=List.nodup_append.1 n2
 obtain⟨o1,o2,o3⟩:=List.nodup_append.1 m2
 refine⟨fun b hb hx=>n3 b hx b (List.mem_append_right _ (List.mem_append_left _ hb)) rfl,fun b hb=>hp.mem_iff.1 (List.mem_append_right _ (List.mem_append_left _ hb)),fun b hb hx=>o3 b hb b hx rfl,o1,fun b hb hx=>m3 b hb b (List.mem_append_left _ hx) rfl⟩
theorem Own.good{c:Cfg}(hc:c.Ok){W:Wd}{l:Int→List Int}{k:Int}(h:Own c W l k){i:Int}(hi:0≤i∧i<4): goodRow c (W.k i).ret∧(W.k i).ret.length≤24:=by
 obtain⟨a1,a2,a3,a4,a5⟩:=h.apart hi
 have hr:(W.k i).ret.Nodup:=(List.nodup_append.1 a4).1
 refine⟨good_ofC hr fun b hb => ?_, ?_⟩
 ·exact clsOf_pos (mem_blks.1 (a2 b (List.mem_append_left _ hb)))
 ·have h1:=(h.perm' hi).length_eq
  simp only [List.length_append,Kc.own] at h1
  have h2:(blks c).length=(c.n0+c.n1).toNat:=by simp [blks]
  simp only [Cfg.Ok] at hc
  omega
theorem Own.step{c:Cfg}(hc:c.Ok){W:Wd}{l:Int→List Int}{k:Int}(h:Own c W l k)(hk:k≤4294967000){i:Int}(hi:0≤i∧i<4): ∃l',Own c (W.step c i) l' (k+1):=by
 obtain⟨a1,a2,a3,a4,a5⟩:=h.apart hi
 obtain⟨l',q1,q2,q3,q4,q5,q6,q7⟩:=kc_own (now:=W.now) hc (h.st i hi) h.arw (h.inn i hi) h.hp hk h.ctl a1
 have hn5:((W.k i).step c W.now W.A).A.n=W.A.n:=by have h1:=q5.2.1; have h2:=h.arw.2.1; omega
 have hlen:i.toNat<W.ks.length:=by have:=h.len; omega
 have hpm:(fr l'++ctlL (wordC c (W.step c i).A)++(W.step c i).ks.flatMap Kc.own).Perm (blks c):=by
  have hp:=h.perm' hi
  have hs:=flat_set (f:=Kc.own) hlen ((W.k i).step c W.now W.A).k
  refine List.Perm.trans (hs.append_left _) (List.Perm.trans ?_ hp)
  show(fr l'++ctlL (wordC c ((W.k i).step c W.now W.A).A) ++ _).Perm _
  rw [List.perm_iff_count] at q6 ⊢
  intro z
  have:=q6 z
  simp only [List.count_append] at this ⊢
  omega
 refine⟨l',q5,q1, ?_,by show(W.ks.set _ _).length=4; rw [List.length_set]; exact h.len, ?_, ?_, ?_,hpm⟩
 ·show CtlOk c ((W.k i).step c W.now W.A).A 0
  by_cases hz:ctlBlock (wordC c ((W.k i).step c W.now W.A).A)=0
  ·exact .inl hz
  ·refine .inr (clsOf_pos (mem_blks.1 (hpm.mem_iff.1 ?_)))
   have e:ctlL (wordC c (W.step c i).A)=[ctlBlock (wordC c ((W.k i).step c W.now W.A).A)]:=by unfold ctlL; exact if_neg hz
   rw [e]
   exact List.mem_append_left _ (List.mem_append_right _ (List.mem_singleton.2 rfl))
 ·intro j hj
  show((⟨_,W.ks.set i.toNat _,_,_⟩:Wd).k j).St c ((W.k i).step c W.now W.A).A j
  rw [k_set h.len hi hj]
  split
  ·rename_i e; subst e; exact q4
  ·exact(h.st j hj).arena hn5
 ·intro j hj
  show((⟨_,W.ks.set i.toNat _,_,_⟩:Wd).k j).In c ((W.k i).step c W.now W.A).A.ws
  rw [k_set h.len hi hj]
  split
  ·exact q3
  ·rename_i e
   refine(h.inn j hj).stab (h.st j hj) q2 h.hp.ch a1 (fun b hb hx=>a3 b hb ?_)
   exact flat_oth dK (by have:=h.len; omega) (by omega) hx
 ·intro j hj
  show((⟨_,W.ks.set i.toNat _,_,_⟩:Wd).k j).ret=[]
  rw [k_set h.len hi (by omega)]
  split
  ·rename_i e; subst e; rw [q7 hj.1]; exact h.rd j hj
  ·exact h.rd j hj
theorem own_begin(c:Cfg)(e:Int)(many:List Int)(i n:Int)(k:Kc): (k.beginD c e many i n).1.own=k.own∧(k.beginD c e many i n).1.ret=k.ret:=by
 obtain⟨d,ret,id_⟩:=k
 unfold Kc.beginD
 cases d with
 | idle=>
  simp only
  split
  ·exact⟨rfl,rfl⟩
  ·split
   ·exact⟨rfl,rfl⟩
   ·exact⟨rfl,rfl⟩
 | pub ep ws S=>exact⟨rfl,rfl⟩
 | scan S=>exact⟨rfl,rfl⟩
 | read cl ep S=>exact⟨rfl,rfl⟩
theorem mesW_len(many:List Int)(n:Int): ((mesW many n).length:Int)=msz n:=by
 have:=msz_rng n
 unfold mesW; rw [List.length_replicate]; omega
theorem fit_msz{c:Cfg}(h0:c.s0=4)(h1:c.s1=6)(n:Int): (fitK c (msz n)=0∨fitK c (msz n)=1)∧msz n≤szK c (fitK c (msz n)):=by
 have:=msz_rng n
 unfold fitK
 rw [if_neg (by omega),h0,h1]
 split
 ·exact⟨.inl rfl,by unfold szK; rw [if_pos rfl]; omega⟩
 ·rw [if_pos (by omega)]
  exact⟨.inr rfl,by unfold szK; rw [if_neg (by decide)]; omega⟩
theorem Own.begin{c:Cfg}(hc:c.Ok)(h0:c.s0=4)(h1:c.s1=6)(hcl:c.clients=4){W:Wd}{l:Int→List Int}{k:Int}(h:Own c W l k){i:Int}(hi:0≤i∧i<4){n:Int}(hm:W.many.length≤2000): Own c (W.begin c i n) l k:=by
 have hlen:i.toNat<W.ks.length:=by have:=h.len; omega
 obtain⟨e1,e2⟩:=own_begin c (ctlEpoch (wordC c W.A)) W.many i n (W.k i)
 have hg:=h.good hc hi
 have hnd:(W.k i).ret.Nodup:=(List.nodup_append.1 (h.apart hi).2.2.2.1).1
 have key:((W.k i).beginD c (ctlEpoch (wordC c W.A)) W.many i n).1.St c W.A i∧((W.k i).beginD c (ctlEpoch (wordC c W.A)) W.many i n).1.In c W.A.ws:=by
  have q1:=h.st i hi
  have q2:=h.inn i hi
  revert q1 q2 hg
  generalize W.k i=K
  obtain⟨d,ret,id_⟩:=K
  unfold Kc.beginD
  cases d with
  | idle=>
   intro hg _ _
   simp only
   split
   ·rename_i hi2
    refine⟨⟨newRd_ok hc (by omega),rfl,by show(1:Nat)≠0; decide,hi2⟩,fun hp=>absurd hp (by show ¬(1:Nat)=2; decide)⟩
   ·split
    ·rename_i hi2 hs
     have hb:∀b∈ret,0≤clsOf c b:=by
      intro b hb
      obtain⟨j,hj,rfl⟩:=List.getElem_of_mem hb
      have:=(hg.1 j hj).1
      rw [List.getD_eq_getElem?_getD,List.getElem?_eq_getElem hj] at this
      exact this
     refine⟨⟨newSc_ok1 hc (by have:=hg.2; show ret.length≤100; simp only at this; omega) hb,by simp [newSc], ?_,by omega⟩,fun G hG=>by simp [newSc] at hG⟩
     unfold Sc.done
     have hc':=hc
     simp only [Cfg.Ok] at hc'
     rw [show((newSc ret).slot==c.slots)=false from beq_eq_false_iff_ne.2 (by show(0:Int)≠c.slots; omega)]
     rfl
    ·rename_i hi2 hs
     have hml:=mesW_len W.many n
     have hf:=fit_msz h0 h1 n
     have hr:=msz_rng n
     rw [←hml] at hf hr
     refine⟨⟨newPb_ok hc hf.1 (by omega) hf.2,fun j => ?_,by show(1:Nat)≠0; decide,by omega⟩,⟨fun _ h => ?_,fun h=>absurd h (by show ¬(1:Nat)=5; decide)⟩⟩
     ·unfold mesW
      rw [List.getD_eq_getElem?_getD,List.getElem?_replicate]
      unfold U64
      split
      ·simp only [Option.getD_some,List.length_append,List.length_singleton]; omega
      ·simp only [Option.getD_none]; omega
     ·rcases h with h | h <;> exact absurd h (by show ¬(1:Nat) = _; decide)
  | pub ep ws S=>intro _ q1 q2; exact⟨q1,q2⟩
  | scan S=>intro _ q1 q2; exact⟨q1,q2⟩
  | read cl ep S=>intro _ q1 q2; exact⟨q1,q2⟩
 refine⟨h.arw,h.hp,h.ctl,by show(W.ks.set _ _).length=4; rw [List.length_set]; exact h.len, ?_, ?_, ?_, ?_⟩
 ·intro j hj
  show((⟨_,W.ks.set i.toNat _,_,_⟩:Wd).k j).St c W.A j
  rw [k_set h.len hi hj]
  split
  ·rename_i e; subst e; exact key.1
  ·exact h.st j hj
 ·intro j hj
  show((⟨_,W.ks.set i.toNat _,_,_⟩:Wd).k j).In c W.A.ws
  rw [k_set h.len hi hj]
  split
  ·exact key.2
  ·exact h.inn j hj
 ·intro j hj
  show((⟨_,W.ks.set i.toNat _,_,_⟩:Wd).k j).ret=[]
  rw [k_set h.len hi (by omega)]
  split
  ·rename_i e; subst e; rw [e2]; exact h.rd j hj
  ·exact h.rd j hj
 ·have hs:=flat_set (f:=Kc.own) hlen ((W.k i).beginD c (ctlEpoch (wordC c W.A)) W.many i n).1
  rw [e1] at hs
  exact(hs.append_left _).trans (h.perm' hi)
theorem ctl_bornW(w:Int): ctlBlock (bornW w)=0:=by unfold ctlBlock bornW packW3; omega
theorem Own.who{c:Cfg}(hc:c.Ok){W:Wd}{l:Int→List Int}{k:Int}(h:Own c W l k){wh n:Int}: Own c (W.who c wh n) l (k+2):=by
 have hc':=hc
 simp only [Cfg.Ok] at hc'
 have hct:=ctl0_ok hc
 have hfc:=far_ctl hc (t:=0) (by omega)
 have hlen:(0:Nat)<W.ks.length:=by have:=h.len; omega
 have hi0:(0:Int)≤0∧(0:Int)<4:=by omega
 have hlc:(ctlAt c 0).toNat<W.A.ws.length:=by have:=h.arw.1; have:=h.arw.2.1; omega
 have same:∀k0:Kc,k0=W.k 0→Own c ⟨W.A,W.ks.set 0 k0,W.many,W.now⟩ l (k+2):=by
  intro k0 e
  subst e
  have hk:W.ks.set 0 (W.k 0)=W.ks:=by
   show W.ks.set 0 (W.ks.getD 0 dK)=W.ks
   cases hks:W.ks with
   | nil=>rw [hks] at hlen; simp at hlen
   | cons a b=>rfl
  rw [hk]
  exact⟨h.arw.mono (by omega),h.hp.mono (by omega),h.ctl,h.len,h.st,h.inn,h.rd,h.perm⟩
 have hU:U64 (wordC c W.A):=h.arw.2.2.1 _
 have hw2:wordC c (anewW c (wordC c W.A) W.A)=bornW (goneW (wordC c W.A)):=by
  show((W.A.ws.set _ _).set (ctlAt c 0).toNat _).getD (ctlAt c 0).toNat 0 = _
  exact getD_set_eq (by rw [List.length_set]; exact hlc)
 have new:∀k0:Kc,k0.d=(W.k 0).d→k0.ret=(W.k 0).ret++ctlL (wordC c W.A)→((W.k 0).scans=true→ctlL (wordC c W.A)=[])→Own c ⟨anewW c (wordC c W.A) W.A,W.ks.set 0 k0,W.many,0⟩ l (k+2):=by
  intro k0 ed er es
  have ws2:(anewW c (wordC c W.A) W.A).ws=(W.A.ws.set (ctlAt c 0).toNat (goneW (wordC c W.A))).set (ctlAt c 0).toNat (bornW (goneW (wordC c W.A))):=rfl
  have hst:∀own,Stab c W.A.ws (anewW c (wordC c W.A) W.A).ws own:=by
   intro own
   have h1:Stab c W.A.ws (W.A.ws.set (ctlAt c 0).toNat (goneW (wordC c W.A))) own:=Stab.far hfc
   have h2:Stab c (W.A.ws.set (ctlAt c 0).toNat (goneW (wordC c W.A))) (anewW c (wordC c W.A) W.A).ws own:=Stab.far hfc
   refine⟨fun j hj => ?_,fun b hb hx=>(h2.link b hb hx).trans (h1.link b hb hx)⟩
   have a1:=h1.tag j hj
   have a2:=h2.tag j hj
   exact⟨by omega,fun e=>(a2.2 (by omega)).trans (a1.2 (by omega))⟩
  have hown:(k0.own++[]).Perm ((W.k 0).own++ctlL (wordC c W.A)):=by
   unfold Kc.own
   rw [ed,er,List.append_nil,List.append_assoc,List.append_assoc]
   exact List.perm_append_comm.append_left _
  refine⟨?_, ?_, ?_,by show(W.ks.set _ _).length=4; rw [List.length_set]; exact h.len, ?_, ?_, ?_, ?_⟩
  ·exact((h.arw.store _ (goneW_rng hU)).store _ (bornW_rng (goneW_rng hU))).mono (by omega)
  ·exact((h.hp.far hfc).far hfc).mono (by omega)
  ·left; show ctlBlock (wordC c (anewW c (wordC c W.A) W.A))=0; rw [hw2]; exact ctl_bornW _
  ·intro j hj
   show((⟨_,W.ks.set (0:Int).toNat k0,_,_⟩:Wd).k j).St c (anewW c (wordC c W.A) W.A) j
   rw [k_set h.len hi0 hj]
   split
   ·rename_i e; subst e
    have:=(h.st 0 hi0).arena (A':=anewW c (wordC c W.A) W.A) rfl
    revert this
    unfold Kc.St
    rw [ed]
    cases hd:(W.k 0).d with
    | idle=>exact id
    | pub ep ws S=>exact id
    | scan S=>
     have e0:=es (by unfold Kc.scans; rw [hd])
     rw [er,e0,List.append_nil]; exact id
    | read cl ep S=>exact id
   ·exact(h.st j hj).arena rfl
  ·intro j hj
   show((⟨_,W.ks.set (0:Int).toNat k0,_,_⟩:Wd).k j).In c (anewW c (wordC c W.A) W.A).ws
   have hh:∀j:Int,0≤j∧j<4→(W.k j).In c (anewW c (wordC c W.A) W.A).ws:=fun j hj=>(h.inn j hj).stab (h.st j hj) (hst []) h.hp.ch (by simp) (by simp)
   rw [k_set h.len hi0 hj]
   split
   ·rename_i e; subst e
    have:=hh 0 hi0
    revert this
    unfold Kc.In
    rw [ed]; exact id
   ·exact hh j hj
  ·intro j hj
   show((⟨_,W.ks.set (0:Int).toNat k0,_,_⟩:Wd).k j).ret=[]
   rw [k_set h.len hi0 (by omega),if_neg (by omega)]
   exact h.rd j hj
  ·have hs:=flat_set (f:=Kc.own) hlen k0
   have hp:=h.perm' hi0
   refine(hs.append_left _).trans (List.Perm.trans ?_ hp)
   show(fr l++ctlL (wordC c (anewW c (wordC c W.A) W.A)) ++ _).Perm _
   rw [hw2,show ctlL (bornW (goneW (wordC c W.A)))=[] from if_pos (ctl_bornW _)]
   rw [List.perm_iff_count] at hown ⊢
   intro z
   have:=hown z
   simp only [List.count_append,List.count_nil] at this ⊢
   have e:(0:Int).toNat=0:=rfl
   rw [e]
   omega
 unfold Wd.who Kc.whoD
 split
 ·exact same _ rfl
 ·split
  ·rename_i hb
   split
   ·exact same _ rfl
   ·rename_i hs
    refine new _ rfl ?_ (fun h=>absurd h hs)
    show _++[_] = _
    unfold ctlL; rw [if_neg (by omega)]
  ·rename_i hb
   have:=(ctl_rng hU).1
   have e:ctlL (wordC c W.A)=[]:=if_pos (by omega)
   exact new _ rfl (by rw [e,List.append_nil]) (fun _=>e)
end Go.Sx
namespace Go.Sx
def chW(c:Cfg)(k:Int)(ws:List Int): Nat→Int→Option (List Int)
 | 0,_=>none
 | f+1,p=>if lo32 (ws.getD p.toNat 0)=0 then some [] else if clsOf c (lo32 (ws.getD p.toNat 0))=k then(chW c k ws f (blockAt c (lo32 (ws.getD p.toNat 0)))).map (lo32 (ws.getD p.toNat 0) :: ·) else none
theorem chW_chain{c:Cfg}{k:Int}{ws:List Int}: ∀ {f:Nat} {p:Int} {l:List Int},chW c k ws f p=some l→Chain c k ws p l
 | 0,_,_,h=>by simp [chW] at h
 | f+1,p,l,h=>by
  unfold chW at h
  split at h
  ·rename_i h0
   simp only [Option.some.injEq] at h
   subst h; exact h0
  ·split at h
   ·rename_i hk
    simp only [Option.map_eq_some_iff] at h
    obtain⟨r,hr,rfl⟩:=h
    exact⟨rfl,hk,chW_chain hr⟩
   ·simp at h
def blk0(c:Cfg): List Int:=(List.range c.n0.toNat).map fun i=>((i:Nat):Int)+1
def blk1'(c:Cfg): List Int:=(List.range c.n1.toNat).map fun i=>c.n0+(((i:Nat):Int)+1)
def lst0(c:Cfg): Int→List Int:=fun k=>if k=0 then blk0 c else blk1' c
theorem L_first{s n0 n1 r:Int}(hs:1≤s∧s≤4)(h0:1≤n0∧n0≤4)(h1:1≤n1∧n1≤4)(aw:Option Addr)(cw:Nat):
  chW ⟨1,4,s,4,4,n0,6,n1,r⟩ 0 (mkAr ⟨1,4,s,4,4,n0,6,n1,r⟩ aw cw).ws 9 3=some (blk0 ⟨1,4,s,4,4,n0,6,n1,r⟩)∧
  chW ⟨1,4,s,4,4,n0,6,n1,r⟩ 1 (mkAr ⟨1,4,s,4,4,n0,6,n1,r⟩ aw cw).ws 9 4=some (blk1' ⟨1,4,s,4,4,n0,6,n1,r⟩)∧
  (hi32 (hd (mkAr ⟨1,4,s,4,4,n0,6,n1,r⟩ aw cw).ws 0)=0∧hi32 (hd (mkAr ⟨1,4,s,4,4,n0,6,n1,r⟩ aw cw).ws 1)=0)∧
  blk0 ⟨1,4,s,4,4,n0,6,n1,r⟩++blk1' ⟨1,4,s,4,4,n0,6,n1,r⟩=blks ⟨1,4,s,4,4,n0,6,n1,r⟩:=by
 have e1:s=1∨s=2∨s=3∨s=4:=by omega
 have e2:n0=1∨n0=2∨n0=3∨n0=4:=by omega
 have e3:n1=1∨n1=2∨n1=3∨n1=4:=by omega
 rcases e1 with rfl | rfl | rfl | rfl <;> rcases e2 with rfl | rfl | rfl | rfl <;> rcases e3 with rfl | rfl | rfl | rfl <;> exact⟨by kernel_rfl,by kernel_rfl,⟨by kernel_rfl,by kernel_rfl⟩,by kernel_rfl⟩
theorem L_twin{s n0 n1 r:Int}(hs:1≤s∧s≤4)(h0:1≤n0∧n0≤4)(h1:1≤n1∧n1≤4)(hr:1≤r∧r≤4)(aw aw2:Option Addr)(cw cw2:Nat):
  Twin (mkAr ⟨1,4,s,4,4,n0,6,n1,r⟩ aw cw) (rmAr ⟨1,4,s,4,4,n0,6,n1,r⟩ (rpackW ⟨1,4,s,4,4,n0,6,n1,r⟩) aw2 cw2) 0:=by
 have e1:s=1∨s=2∨s=3∨s=4:=by omega
 have e2:n0=1∨n0=2∨n0=3∨n0=4:=by omega
 have e3:n1=1∨n1=2∨n1=3∨n1=4:=by omega
 have e4:r=1∨r=2∨r=3∨r=4:=by omega
 rcases e1 with rfl | rfl | rfl | rfl <;> rcases e2 with rfl | rfl | rfl | rfl <;> rcases e3 with rfl | rfl | rfl | rfl <;> rcases e4 with rfl | rfl | rfl | rfl <;> exact⟨by kernel_rfl,by kernel_rfl,by kernel_rfl,by kernel_rfl,by kernel_rfl,by kernel_rfl⟩
theorem cfgL_rng(q0 q1 q2:Int): (1≤1+bAnd .i64 q0 3∧1+bAnd .i64 q0 3≤4)∧(1≤1+bAnd .i64 q2 3∧1+bAnd .i64 q2 3≤4)∧(1≤1+bAnd .i64 (bShr .i64 q2 2) 3∧1+bAnd .i64 (bShr .i64 q2 2) 3≤4)∧(1≤1+bAnd .i64 q1 3∧1+bAnd .i64 q1 3≤4):=by
 have:=and3 q0; have:=and3 q1; have:=and3 q2; have:=and3 (bShr .i64 q2 2)
 omega
theorem L_twinQ(q0 q1 q2:Int)(aw aw2:Option Addr)(cw cw2:Nat): Twin (mkAr (cfgL q0 q1 q2) aw cw) (rmAr (cfgL q0 q1 q2) (rpackW (cfgL q0 q1 q2)) aw2 cw2) 0:=
 have h:=cfgL_rng q0 q1 q2
 L_twin h.1 h.2.1 h.2.2.1 h.2.2.2 aw aw2 cw cw2
abbrev four: List Kc:=[dK,dK,dK,dK]
theorem four_k{A:Ar}{many:List Int}{now i:Int}: (⟨A,four,many,now⟩:Wd).k i=dK:=by
 show four.getD i.toNat dK=dK
 rw [List.getD_eq_getElem?_getD]
 match i.toNat with
 | 0=>rfl
 | 1=>rfl
 | 2=>rfl
 | 3=>rfl
 | n+4=>rfl
theorem own_first(q0 q1 q2:Int)(aw:Option Addr)(cw:Nat): Own (cfgL q0 q1 q2) ⟨(mkAr (cfgL q0 q1 q2) aw cw).store (ctlAt (cfgL q0 q1 q2) 0) (bornW 0),four,[],0⟩ (lst0 (cfgL q0 q1 q2)) 41:=by
 have hc:=cfgL_ok q0 q1 q2
 have hq:=cfgL_rng q0 q1 q2
 have hA:=mkAr_ok hc aw cw
 obtain⟨f1,f2,f3,f4⟩:=L_first (r:=1+bAnd .i64 q1 3) hq.1 hq.2.1 hq.2.2.1 aw cw
 have hct:=ctl0_ok hc
 have hfc:=far_ctl hc (t:=0) (by have:=hc; simp only [Cfg.Ok] at this; omega)
 have hH:Hp (cfgL q0 q1 q2) (mkAr (cfgL q0 q1 q2) aw cw).ws (lst0 (cfgL q0 q1 q2)) 41:=by
  refine⟨?_,by have:=hA.1; have:=hA.2.1; have:=sizeOfC_ok hc; omega, ?_⟩
  ·intro k hk
   rcases hk with rfl | rfl
   ·exact chW_chain f1
   ·exact chW_chain f2
  ·intro k hk
   rcases hk with rfl | rfl
   ·have:hi32 (hd (mkAr (cfgL q0 q1 q2) aw cw).ws 0)=0:=f3.1
    omega
   ·have:hi32 (hd (mkAr (cfgL q0 q1 q2) aw cw).ws 1)=0:=f3.2
    omega
 have hw:wordC (cfgL q0 q1 q2) ((mkAr (cfgL q0 q1 q2) aw cw).store (ctlAt (cfgL q0 q1 q2) 0) (bornW 0))=bornW 0:=getD_set_eq (by have:=hA.1; have:=hA.2.1; omega)
 refine⟨hA.store _ (bornW_rng (by unfold U64; decide)),hH.far hfc,.inl ?_,rfl,fun i _ => ?_,fun i _ => ?_,fun i _ => ?_, ?_⟩
 ·show ctlBlock (wordC _ _)=0
  rw [hw]; exact ctl_bornW 0
 ·rw [four_k]; trivial
 ·rw [four_k]; trivial
 ·rw [four_k]; rfl
 ·rw [show wordC (cfgL q0 q1 q2) (⟨(mkAr (cfgL q0 q1 q2) aw cw).store (ctlAt (cfgL q0 q1 q2) 0) (bornW 0),four,[],0⟩:Wd).A=bornW 0 from hw]
  rw [show ctlL (bornW 0)=[] from rfl,show four.flatMap Kc.own=[] from rfl,List.append_nil,List.append_nil]
  have:fr (lst0 (cfgL q0 q1 q2))=blks (cfgL q0 q1 q2):=f4
  rw [this]
end Go.Sx
namespace Go.Sx
def Wd.whoB(c:Cfg)(W:Wd)(B:Ar)(wh n:Int): Ar:=bif ((W.k 0).whoD (wordC c W.A) wh n).2.1 then anewW c (wordC c W.A) B else B
abbrev Wd.at_(c:Cfg)(W:Wd)(wh n:Int): Int:=((W.k 0).whoD (wordC c W.A) wh n).1
structure Sy (c:Cfg) (W:Wd) (B:Ar) (k:Int):Prop where
 own:∃l,Own c W l k
 k0:0≤k∧k≤100000
 bw:B.ws=W.A.ws
 bn:B.n=W.A.n
 bs:0≤B.steps∧B.steps≤k
 many:(W.many.length:Int)≤k
theorem Sy.arw{c:Cfg}{W:Wd}{B:Ar}{k:Int}(h:Sy c W B k): ArW c W.A k:=let ⟨_,o⟩:=h.own; o.arw
theorem Sy.len{c:Cfg}{W:Wd}{B:Ar}{k:Int}(h:Sy c W B k): W.ks.length=4:=let ⟨_,o⟩:=h.own; o.len
theorem Sy.bl{c:Cfg}{W:Wd}{B:Ar}{k:Int}(h:Sy c W B k): B.ws.length=B.n:=by rw [h.bw,h.bn]; exact h.arw.1
theorem Sy.bz{c:Cfg}{W:Wd}{B:Ar}{k:Int}(h:Sy c W B k): (B.n:Int)=sizeOfC c:=by rw [h.bn]; exact h.arw.2.1
theorem Sy.good{c:Cfg}(hc:c.Ok){W:Wd}{B:Ar}{k:Int}(h:Sy c W B k){i:Int}(hi:0≤i∧i<4): goodRow c (W.k i).ret∧(W.k i).ret.length≤24:=let ⟨_,o⟩:=h.own; o.good hc hi
theorem Sy.word{c:Cfg}{W:Wd}{B:Ar}{k:Int}(h:Sy c W B k): B.ws.getD (ctlAt c 0).toNat 0=wordC c W.A:=by unfold wordC; rw [h.bw]
theorem Sy.mono{c:Cfg}{W:Wd}{B:Ar}{k k':Int}(h:Sy c W B k)(h1:k≤k')(h2:k'≤100000): Sy c W B k':=by
 obtain⟨l,o⟩:=h.own
 exact⟨⟨l,⟨o.arw.mono h1,o.hp.mono h1,o.ctl,o.len,o.st,o.inn,o.rd,o.perm⟩⟩,by have:=h.k0; omega,h.bw,h.bn,by have:=h.bs; omega,by have:=h.many; omega⟩
theorem Sy.who{c:Cfg}(hc:c.Ok){W:Wd}{B:Ar}{k:Int}(h:Sy c W B k)(hk:k≤90000)(wh n:Int): Sy c (W.who c wh n) (W.whoB c B wh n) (k+2):=by
 obtain⟨l,o⟩:=h.own
 have h0:=h.k0
 refine⟨⟨l,o.who hc⟩,by omega, ?_, ?_, ?_,by have:=h.many; show(W.many.length:Int)≤k+2; omega⟩
 ·show(Wd.whoB c W B wh n).ws=(bif ((W.k 0).whoD (wordC c W.A) wh n).2.1 then anewW c (wordC c W.A) W.A else W.A).ws
  unfold Wd.whoB
  cases ((W.k 0).whoD (wordC c W.A) wh n).2.1 with
  | true=>simp only [cond_true,anewW,Ar.store,h.bw]
  | false=>exact h.bw
 ·show(Wd.whoB c W B wh n).n=(bif ((W.k 0).whoD (wordC c W.A) wh n).2.1 then anewW c (wordC c W.A) W.A else W.A).n
  unfold Wd.whoB
  cases ((W.k 0).whoD (wordC c W.A) wh n).2.1 with
  | true=>exact h.bn
  | false=>exact h.bn
 ·unfold Wd.whoB
  have:=h.bs
  cases ((W.k 0).whoD (wordC c W.A) wh n).2.1 with
  | true=>simp only [cond_true,anewW,Ar.store]; omega
  | false=>simp only [cond_false]; omega
theorem begin_many(c:Cfg)(e:Int)(many:List Int)(i n:Int)(k:Kc): (k.beginD c e many i n).2=many∨(k.beginD c e many i n).2=many++[msz n]:=by
 obtain⟨d,ret,id_⟩:=k
 unfold Kc.beginD
 cases d with
 | idle=>
  simp only
  split
  ·exact .inl rfl
  ·split
   ·exact .inl rfl
   ·exact .inr rfl
 | pub ep ws S=>exact .inl rfl
 | scan S=>exact .inl rfl
 | read cl ep S=>exact .inl rfl
structure C17 (c:Cfg):Prop where
 ok:c.Ok
 cl:c.clients=4
 s0:c.s0=4
 s1:c.s1=6
theorem c17(q0 q1 q2:Int): C17 (cfgL q0 q1 q2):=⟨cfgL_ok q0 q1 q2,rfl,rfl,rfl⟩
theorem Sy.begin{c:Cfg}(hc:C17 c){W:Wd}{B:Ar}{k:Int}(h:Sy c W B k)(hk:k≤1900){i:Int}(hi:0≤i∧i<4)(n:Int): Sy c (W.begin c i n) B (k+1):=by
 obtain⟨l,o⟩:=h.own
 have h0:=h.k0
 have hm:=h.many
 have o2:=o.begin hc.ok hc.s0 hc.s1 hc.cl hi (n:=n) (by omega)
 refine⟨⟨l,⟨o2.arw.mono (by omega),o2.hp.mono (by omega),o2.ctl,o2.len,o2.st,o2.inn,o2.rd,o2.perm⟩⟩,by omega,h.bw,h.bn,by have:=h.bs; omega, ?_⟩
 show((((W.k i).beginD c (ctlEpoch (wordC c W.A)) W.many i n).2).length:Int)≤k+1
 rcases begin_many c (ctlEpoch (wordC c W.A)) W.many i n (W.k i) with e | e <;> rw [e]
 ·omega
 ·rw [List.length_append,List.length_singleton]; omega
theorem Sy.sync{c:Cfg}(hc:c.Ok){W:Wd}{B B':Ar}{k i:Int}(h:Sy c W B k)(hk:k≤90000)(hi:0≤i∧i<4)(h1:B'.ws=(W.step c i).A.ws)(h2:B'.n=(W.step c i).A.n)(h3:0≤B'.steps∧B'.steps≤k+1): Sy c (W.step c i) B' (k+1):=by
 obtain⟨l,o⟩:=h.own
 have h0:=h.k0
 obtain⟨l' ,o'⟩:=o.step hc (by omega) hi
 exact⟨⟨l' ,o'⟩,by omega,h1,h2,h3,by have:=h.many; show(W.many.length:Int)≤k+1; omega⟩
theorem at_rng{c:Cfg}{W:Wd}{wh n:Int}: W.at_ c wh n = -1∨(0≤W.at_ c wh n∧W.at_ c wh n<4):=by
 have:=and3 wh
 unfold Wd.at_ Kc.whoD
 split
 ·right; show 0≤bAnd .i64 wh 3∧bAnd .i64 wh 3<4; omega
 ·split
  ·split
   ·right; show 0≤bAnd .i64 wh 3∧bAnd .i64 wh 3<4; omega
   ·left; rfl
  ·left; rfl
theorem sy_first{q0 q1 q2:Int}{aw aw2:Option Addr}{cw cw2:Nat}: Sy (cfgL q0 q1 q2) ⟨(mkAr (cfgL q0 q1 q2) aw cw).store (ctlAt (cfgL q0 q1 q2) 0) (bornW 0),four,[],0⟩ ((rmAr (cfgL q0 q1 q2) (rpackW (cfgL q0 q1 q2)) aw2 cw2).store (ctlAt (cfgL q0 q1 q2) 0) (bornW 0)) 41:=by
 have hc:=cfgL_ok q0 q1 q2
 have hT:=(L_twinQ q0 q1 q2 aw aw2 cw cw2)
 have hB:=rm_arW hc (mkAr_ok hc aw cw) hT
 have hA:=mkAr_ok hc aw cw
 refine⟨⟨_,own_first q0 q1 q2 aw cw⟩,by omega,(hT.store _ _).ws.symm, ?_, ?_,by show((0:Nat):Int)≤41; decide⟩
 ·have h1:=hB.2.1; have h2:=hA.2.1
  show(rmAr _ _ _ _).n=(mkAr _ _ _).n
  omega
 ·have:=hB.2.2.2
  show 0≤(rmAr _ _ _ _).steps+1∧(rmAr _ _ _ _).steps+1≤41
  omega
structure LAct where
 wh:Int
 n:Int
def encLAct(x:LAct): List Value:=[.int .i64 x.wh,.int .i64 x.n]
def dLAct: LAct:=⟨0,0⟩
theorem sized_encLAct: Sized encLAct 2:=fun _=>rfl
structure Lt where
 i:Int
 W:Wd
 B:Ar
 ma:Option Addr
 mc:Nat
def LtOk(c:Cfg)(z:Lt): Prop:=Sy c z.W z.B (41+4*z.i)∧0≤z.i
theorem lt_who{c:Cfg}(hc:C17 c){p:Lt}(h:LtOk c p)(hi:p.i≤300)(wh n:Int)(ma:Option Addr)(mc:Nat): LtOk c ⟨p.i+1,p.W.who c wh n,p.W.whoB c p.B wh n,ma,mc⟩:=
 ⟨(h.1.who hc.ok (by omega) wh n).mono (by show _≤41+4*(p.i+1); omega) (by show 41+4*(p.i+1)≤_; omega),by have:=h.2; show 0≤p.i+1; omega⟩
end Go.Sx
namespace Go.Sx
def RdW(S:Rd): Prop:=S.ph=4∨S.ph=0→S.code≠0→S.words=[]
theorem rdw_step{c:Cfg}{r ep:Int}{n:Nat}{S:Rd}{A:Ar}(hS:S.Ok c r 0 n)(h:RdW S): RdW (S.step c r 0 ep A).1:=by
 obtain⟨h1,h2,h3,h4,h5,h6,h7,h8,h8b,h9,h10,h10b,h11,h12⟩:=hS
 obtain⟨K,gu,sl,wd,cd,ph⟩:=S
 simp only at h1 h5 h6 h7
 unfold Rd.step
 match ph,h1 with
 | 0,_=>exact h
 | 1,_=>
  obtain⟨q1,q2,q3,q4,q5⟩:=h5 rfl
  subst q2
  simp only
  split
  ·split <;> exact fun _ _=>rfl
  ·exact fun _ _=>rfl
 | 2,_=>
  obtain⟨G,q1,q2,q3,q4⟩:=h6 rfl
  subst q1 q3
  simp only
  split
  ·split <;> exact fun _ _=>rfl
  ·exact fun _ _=>rfl
 | 3,_=>
  obtain⟨G,q1,q2,q3,q4,q5⟩:=h7 rfl
  subst q5
  simp only
  split <;> exact fun _ h=>absurd rfl h
 | 4,_=>exact fun _ hc=>h (.inl rfl) hc
theorem rdw_new(i:Int): RdW (newRd i):=fun _ _=>rfl
theorem rdw_end{c:Cfg}{r:Int}{n:Nat}{S:Rd}(hS:S.Ok c r 0 n)(hw:RdW S)(hz:S.ph=0): (Rd.told S).1=S.words∧(Rd.told S).2=S.code∧Rd.comm S=(match S.gu with | none=>0 | some G=>G.commit):=by
 have tc:Rd.told S=if S.code=0 then(S.words,0) else([],S.code):=by unfold Rd.told; rw [hz]; rfl
 have h4:=hS.g4 (.inr hz)
 refine⟨?_, ?_, ?_⟩
 ·rw [tc]; by_cases hc:S.code=0
  ·rw [if_pos hc]
  ·rw [if_neg hc]; exact(hw (.inr hz) hc).symm
 ·rw [tc]; by_cases hc:S.code=0
  ·rw [if_pos hc]; exact hc.symm
  ·rw [if_neg hc]
 ·unfold Rd.comm; rw [hz]
  cases hg:S.gu with
  | none=>rfl
  | some G=>show Gu.comm G=G.commit; unfold Gu.comm; rw [h4 G hg]; rfl
theorem rdw_go{S:Rd}(hz:S.ph≠0): Rd.comm S=0:=by
 unfold Rd.comm
 split
 ·rename_i h; exact absurd h hz
 ·rfl
theorem pb_end{S:Pb}(hz:S.ph=0): (Pb.told S).1=S.old∧(Pb.told S).2=S.code:=by unfold Pb.told; rw [hz]; exact⟨rfl,rfl⟩
theorem pb_go{S:Pb}(hz:S.ph≠0): (Pb.told S).1=0∧(Pb.told S).2=13:=by
 unfold Pb.told
 split
 ·rename_i h; exact absurd h hz
 ·exact⟨rfl,rfl⟩
def AllW(W:Wd): Prop := ∀i:Int,0≤i∧i<4→∀cl ep S,(W.k i).d = .read cl ep S→RdW S
theorem allw_first{A:Ar}{many:List Int}{now:Int}: AllW ⟨A,four,many,now⟩:=fun i _ cl ep S h=>by rw [four_k] at h; cases h
theorem AllW.who{c:Cfg}{W:Wd}(hl:W.ks.length=4)(h:AllW W)(wh n:Int): AllW (W.who c wh n):=by
 intro j hj cl ep S hd
 have e:(W.who c wh n).k j=if j=0 then((W.k 0).whoD (wordC c W.A) wh n).2.2 else W.k j:=k_set (i:=0) hl (by omega) hj
 rw [e] at hd
 split at hd
 ·rename_i e0; subst e0
  refine h 0 hj cl ep S ?_
  unfold Kc.whoD at hd
  split at hd
  ·exact hd
  ·split at hd
   ·split at hd <;> exact hd
   ·exact hd
 ·exact h j hj cl ep S hd
theorem AllW.begin{c:Cfg}{W:Wd}(hl:W.ks.length=4)(h:AllW W){i:Int}(hi:0≤i∧i<4)(n:Int): AllW (W.begin c i n):=by
 intro j hj cl ep S hd
 have e:(W.begin c i n).k j=if j=i then((W.k i).beginD c (ctlEpoch (wordC c W.A)) W.many i n).1 else W.k j:=k_set hl hi hj
 rw [e] at hd
 split at hd
 ·rename_i e0; subst e0
  have h0:=h j hj cl ep S
  revert hd h0
  generalize W.k j=K
  obtain⟨d,ret,id_⟩:=K
  unfold Kc.beginD
  cases d with
  | idle=>
   simp only
   split
   ·intro hd _; cases hd; exact rdw_new _
   ·split <;> (intro hd _; cases hd)
  | pub a b c=>intro hd h0; exact h0 hd
  | scan a=>intro hd h0; exact h0 hd
  | read a b c=>intro hd h0; exact h0 hd
 ·exact h j hj cl ep S hd
theorem AllW.step{c:Cfg}{W:Wd}{l:Int→List Int}{k:Int}(o:Own c W l k)(h:AllW W){i:Int}(hi:0≤i∧i<4): AllW (W.step c i):=by
 intro j hj cl ep S hd
 have e:(W.step c i).k j=if j=i then((W.k i).step c W.now W.A).k else W.k j:=k_set o.len hi hj
 rw [e] at hd
 split at hd
 ·rename_i e0; subst e0
  have h0:=h j hj; have hs:=o.st j hj
  revert hd h0 hs
  generalize W.k j=K
  obtain⟨d,ret,id_⟩:=K
  unfold Kc.step
  cases d with
  | idle=>intro hd; cases hd
  | pub a b T=>simp only; split <;> (intro hd; cases hd)
  | scan T=>intro hd; simp only at hd; split at hd <;> cases hd
  | read a b T=>
   simp only
   split
   ·intro hd; cases hd
   ·intro hd h0 hs
    cases hd
    exact rdw_step hs.1 (h0 _ _ _ rfl)
 ·exact h j hj cl ep S hd
def LpOk(c:Cfg)(z:Lt): Prop:=LtOk c z∧Twin z.W.A z.B 0∧AllW z.W
theorem lp_first{q0 q1 q2:Int}{aw aw2:Option Addr}{cw cw2:Nat}: LpOk (cfgL q0 q1 q2) ⟨0,⟨(mkAr (cfgL q0 q1 q2) aw cw).store (ctlAt (cfgL q0 q1 q2) 0) (bornW 0),four,[],0⟩,(rmAr (cfgL q0 q1 q2) (rpackW (cfgL q0 q1 q2)) aw2 cw2).store (ctlAt (cfgL q0 q1 q2) 0) (bornW 0),none,0⟩:=
 ⟨⟨sy_first,Int.le_refl 0⟩,(L_twinQ q0 q1 q2 aw aw2 cw cw2).store _ _,allw_first⟩
theorem who_twin{c:Cfg}{W:Wd}{B:Ar}{wh n:Int}(h:Twin W.A B 0): Twin (W.who c wh n).A (W.whoB c B wh n) 0:=by
 show Twin (bif ((W.k 0).whoD (wordC c W.A) wh n).2.1 then anewW c (wordC c W.A) W.A else W.A) (Wd.whoB c W B wh n) 0
 unfold Wd.whoB
 cases ((W.k 0).whoD (wordC c W.A) wh n).2.1 with
 | true=>exact(h.store _ _).store _ _
 | false=>exact h
theorem lp_who{c:Cfg}(hC:C17 c){p:Lt}(h:LpOk c p)(hi:p.i≤300)(wh n:Int)(ma:Option Addr)(mc:Nat): LpOk c ⟨p.i+1,p.W.who c wh n,p.W.whoB c p.B wh n,ma,mc⟩:=
 ⟨lt_who hC h.1 hi wh n ma mc,who_twin h.2.1,h.2.2.who h.1.1.len wh n⟩
theorem lp_turn{c:Cfg}(hC:C17 c){p:Lt}(h:LpOk c p)(hi:p.i≤300){wh n m:Int}{i:Int}(h4:0≤i∧i<4){W1 W2:Wd}{B1 B2:Ar}(e1:p.W.who c wh n=W1)(e2:p.W.whoB c p.B wh n=B1)(e3:W1.begin c i m=W2)(ht:Twin (W2.step c i).A B2 0)(hn:B2.n=B1.n)(ma:Option Addr)(mc:Nat):
  LpOk c ⟨p.i+1,W2.step c i,B2,ma,mc⟩:=by
 subst e1 e2 e3
 have h2:=h.1.2
 have s1:=h.1.1.who hC.ok (by omega) wh n
 have s2:=s1.begin hC (by omega) h4 m
 have hB:=s1.bn
 obtain⟨l,o⟩:=s2.own
 obtain⟨l' ,o'⟩:=o.step hC.ok (by omega) h4
 have hA1:=o.arw.2.1; have hA2:=o'.arw.2.1
 have hst:=ht.steps
 have hs2:=o'.arw.2.2.2
 have s3:=s2.sync (B':=B2) hC.ok (by omega) h4 ht.ws.symm (by
  have:((p.W.who c wh n).begin c i m).A=(p.W.who c wh n).A:=rfl
  have h3:(((p.W.who c wh n).begin c i m).A.n:Int)=((((p.W.who c wh n).begin c i m).step c i).A.n:Int):=by omega
  rw [hn,hB,←this]; omega) (by omega)
 exact⟨⟨s3.mono (by show _≤41+4*(p.i+1); omega) (by show 41+4*(p.i+1)≤_; omega),by show 0≤p.i+1; omega⟩,ht,((h.2.2.who h.1.1.len wh n).begin s1.len h4 m).step o h4⟩
theorem step_pubN{c:Cfg}{W:Wd}{i ep:Int}{wd:List Int}{S:Pb}{ret:List Int}{id_:Int}(hK:W.k i=⟨.pub ep wd S,ret,id_⟩)(hd:(S.step c (ctlAt c 0) ep wd W.A).1.ph≠0):
  W.step c i=⟨(S.step c (ctlAt c 0) ep wd W.A).2,W.ks.set i.toNat ⟨.pub ep wd (S.step c (ctlAt c 0) ep wd W.A).1,ret,id_⟩,W.many,W.now⟩:=by
 unfold Wd.step; rw [hK]; unfold Kc.step; simp only; rw [if_neg hd]
theorem step_pubD{c:Cfg}{W:Wd}{i ep:Int}{wd:List Int}{S:Pb}{ret:List Int}{id_:Int}(hK:W.k i=⟨.pub ep wd S,ret,id_⟩)(hd:(S.step c (ctlAt c 0) ep wd W.A).1.ph=0):
  W.step c i=⟨(S.step c (ctlAt c 0) ep wd W.A).2,W.ks.set i.toNat ⟨.idle,if (Pb.told (S.step c (ctlAt c 0) ep wd W.A).1).1>0 then ret++[(Pb.told (S.step c (ctlAt c 0) ep wd W.A).1).1] else ret,id_⟩,W.many,if (Pb.told (S.step c (ctlAt c 0) ep wd W.A).1).2=0 then id_ else W.now⟩:=by
 unfold Wd.step; rw [hK]; unfold Kc.step; simp only; rw [if_pos hd]
theorem step_scan{c:Cfg}{W:Wd}{i:Int}{S:Sc}{ret:List Int}{id_:Int}(hK:W.k i=⟨.scan S,ret,id_⟩):
  W.step c i=⟨(S.step c W.A).2,W.ks.set i.toNat ⟨if Sc.done c (S.step c W.A).1=true then .idle else .scan (S.step c W.A).1,(S.step c W.A).1.kept++(S.step c W.A).1.left,id_⟩,W.many,W.now⟩:=by
 unfold Wd.step; rw [hK]; rfl
theorem step_rdN{c:Cfg}{W:Wd}{i cl ep:Int}{S:Rd}{ret:List Int}{id_:Int}(hK:W.k i=⟨.read cl ep S,ret,id_⟩)(hd:(S.step c cl 0 ep W.A).1.ph≠0):
  W.step c i=⟨(S.step c cl 0 ep W.A).2,W.ks.set i.toNat ⟨.read cl ep (S.step c cl 0 ep W.A).1,ret,id_⟩,W.many,W.now⟩:=by
 unfold Wd.step; rw [hK]; unfold Kc.step; simp only; rw [if_neg hd]
theorem step_rdD{c:Cfg}{W:Wd}{i cl ep:Int}{S:Rd}{ret:List Int}{id_:Int}(hK:W.k i=⟨.read cl ep S,ret,id_⟩)(hd:(S.step c cl 0 ep W.A).1.ph=0):
  W.step c i=⟨(S.step c cl 0 ep W.A).2,W.ks.set i.toNat ⟨.idle,ret,id_⟩,W.many,W.now⟩:=by
 unfold Wd.step; rw [hK]; unfold Kc.step; simp only; rw [if_pos hd]
theorem tw_steps{A B:Ar}(h:Twin A B 0): A.steps=B.steps:=by have:=h.steps; omega
theorem bneq{a b:Int}(h:a=b): (a != b)=false:=bne_eq_false_iff_eq.2 h
theorem gv_n{c:Cfg}{G:Gv}{A:Ar}: (G.step c A).2.n=A.n:=by
 unfold Gv.step
 split
 ·rfl
 ·rfl
 ·split <;> rfl
 ·rfl
theorem rs_n{c:Cfg}{S:Rs}{A:Ar}: (S.step c A).2.n=A.n:=by
 unfold Rs.step
 split
 ·rfl
 ·split
  ·rfl
  ·split
   ·rfl
   ·split <;> exact gv_n
theorem tk_n{c:Cfg}{T:Tk}{A:Ar}: (T.step c A).2.n=A.n:=by
 unfold Tk.step
 split
 ·split <;> rfl
 ·rfl
 ·split <;> rfl
 ·rfl
theorem pb_n{c:Cfg}{at_ ep:Int}{ws:List Int}{S:Pb}{A:Ar}: (S.step c at_ ep ws A).2.n=A.n:=by
 unfold Pb.step
 split
 ·split
  ·split <;> exact tk_n
  ·exact tk_n
 ·rfl
 ·split
  ·split <;> rfl
  ·rfl
 ·split
  ·rfl
  ·split <;> rfl
 ·split <;> exact gv_n
 ·rfl
theorem rd_n{c:Cfg}{cl tp ep:Int}{S:Rd}{A:Ar}: (S.step c cl tp ep A).2.n=A.n:=by
 unfold Rd.step
 split
 ·split
  ·split <;> exact(cl_keeps c _ _).2
  ·exact(cl_keeps c _ _).2
 ·split
  ·rfl
  ·split
   ·split <;> exact gu_n _ _ _
   ·exact gu_n _ _ _
 ·split <;> rfl
 ·rfl
 ·rfl
end Go.Sx
namespace Go.Sx
def Kc.busy(k:Kc): Prop:=match k.d with
 | .idle=>False
 | _=>True
end Go.Sx
namespace Go.Sx
theorem begin_busy{c:Cfg}{e i n:Int}{many:List Int}{k:Kc}: (k.beginD c e many i n).1.busy:=by
 obtain⟨d,ret,id_⟩:=k
 unfold Kc.beginD
 cases d with
 | idle=>
  simp only
  split
  ·trivial
  ·split <;> trivial
 | pub ep ws S=>trivial
 | scan S=>trivial
 | read cl ep S=>trivial
theorem Wd.begin_k{c:Cfg}{W:Wd}(hl:W.ks.length=4){i:Int}(hi:0≤i∧i<4)(n:Int): ((W.begin c i n).k i).busy:=by
 have e:(W.begin c i n).k i=((W.k i).beginD c (ctlEpoch (wordC c W.A)) W.many i n).1:=by
  show(⟨W.A,W.ks.set i.toNat _,_,W.now⟩:Wd).k i = _
  rw [k_set hl hi hi,if_pos rfl]
 rw [e]; exact begin_busy
end Go.Sx

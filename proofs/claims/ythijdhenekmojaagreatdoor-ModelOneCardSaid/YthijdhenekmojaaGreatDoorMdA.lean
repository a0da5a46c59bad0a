/- Plain laws: configs, words, lists, no program in sight, part 1 of those on which ModelOne rests. -/
import Derived.Test.YthijdhenekmojaaGreatDoorXeA

set_option linter.unusedVariables false
set_option linter.unusedSimpArgs false
/- Plain words for configs. -/
namespace Go.Sx
structure Cfg where
 topics:Int
 small:Int
 slots:Int
 clients:Int
 s0:Int
 n0:Int
 s1:Int
 n1:Int
 retry:Int
/-- a right one -/
def Cfg.Ok(c:Cfg): Prop:=(1≤c.topics∧c.topics≤8)∧(4≤c.small∧c.small≤32)∧(1≤c.slots∧c.slots≤8)∧(1≤c.clients∧c.clients≤8)∧(1≤c.retry∧c.retry≤8)∧(4≤c.s0∧c.s0≤96)∧(0≤c.n0∧c.n0≤12)∧(4≤c.s1∧c.s1≤96)∧(0≤c.n1∧c.n1≤12)∧c.s0<c.s1
end Go.Sx
namespace Go.Sx
/-- where things lie -/
def slotAt(c:Cfg)(i:Int): Int:=if 0≤i∧i<c.slots then 5+i else -1
def ctlAt(c:Cfg)(i:Int): Int:=if 0≤i∧i<c.topics then 5+c.slots+c.topics+i*(1+2*c.small) else -1
def clsOf(c:Cfg)(b:Int): Int:=if 0≤b-1∧b-1<c.n0+c.n1 then(if b≤c.n0 then 0 else 1) else -1
def blockAt(c:Cfg)(b:Int): Int:=
 if 0≤b-1∧b-1<c.n0+c.n1 then
  5+c.slots+c.topics+c.topics*(1+2*c.small)+bMin (b-1) c.n0*(1+c.s0)+(b-1-bMin (b-1) c.n0)*(1+c.s1)
 else -1
def sizeOfC(c:Cfg): Int:=5+c.slots+c.topics+c.topics*(1+2*c.small)+c.n0*(1+c.s0)+c.n1*(1+c.s1)
end Go.Sx
namespace Go.Sx
/-- an arena: where its words lie, its words, how many steps it had, what the last one was -/
structure Ar where
 aw:Option Addr
 cw:Nat
 n:Nat
 ws:List Int
 steps:Int
 lk:Int
 lw:Int
 lv:Int
 lc:Bool
def Ar.load(A:Ar)(i:Int): Ar:={A with steps:=A.steps+1,lk:=1,lw:=i,lv:=A.ws.getD i.toNat 0,lc:=false}
def Ar.store(A:Ar)(i v:Int): Ar:={A with ws:=A.ws.set i.toNat v,steps:=A.steps+1,lk:=2,lw:=i,lv:=(A.ws.set i.toNat v).getD i.toNat 0,lc:=true}
/-- a swap that was done; one that was not -/
def Ar.swapT(A:Ar)(i v:Int): Ar:={A with ws:=A.ws.set i.toNat v,steps:=A.steps+1,lk:=3,lw:=i,lv:=(A.ws.set i.toNat v).getD i.toNat 0,lc:=true}
def Ar.swapF(A:Ar)(i:Int): Ar:={A with steps:=A.steps+1,lk:=3,lw:=i,lv:=A.ws.getD i.toNat 0,lc:=false}
end Go.Sx
namespace Go.Sx
theorem mul_bounds{x y X Y:Int}(hx:0≤x∧x≤X)(hy:0≤y∧y≤Y): 0≤x*y∧x*y≤X*Y:=
 ⟨Int.mul_nonneg hx.1 hy.1,Int.mul_le_mul hx.2 hy.2 hy.1 (by omega)⟩
theorem ctl_nl{c:Cfg}(h:c.Ok){i:Int}(hi:0≤i∧i<c.topics): 0≤i*(1+2*c.small)∧i*(1+2*c.small)≤8*65:=by
 simp only [Cfg.Ok] at h
 exact mul_bounds (by omega) (by omega)
theorem bMin_le(x y:Int): bMin x y≤x∧bMin x y≤y∧(bMin x y=x∨bMin x y=y):=by unfold bMin; split <;> omega
theorem blk_nl{c:Cfg}(h:c.Ok){k:Int}(hk:0≤k-1∧k-1<c.n0+c.n1):
  (0≤c.topics*(1+2*c.small)∧c.topics*(1+2*c.small)≤8*65)∧(0≤bMin (k-1) c.n0*(1+c.s0)∧bMin (k-1) c.n0*(1+c.s0)≤12*97)∧
   (0≤(k-1-bMin (k-1) c.n0)*(1+c.s1)∧(k-1-bMin (k-1) c.n0)*(1+c.s1)≤24*97)∧0≤bMin (k-1) c.n0∧bMin (k-1) c.n0≤12:=by
 simp only [Cfg.Ok] at h
 have hm:=bMin_le (k-1) c.n0
 exact⟨mul_bounds (by omega) (by omega),mul_bounds (by omega) (by omega),mul_bounds (by omega) (by omega),by omega,by omega⟩
end Go.Sx
namespace Go.Sx
theorem clsOf_le(c:Cfg)(b:Int): clsOf c b≤1:=by unfold clsOf; repeat' split <;> omega
theorem clsOf_ok{c:Cfg}{b:Int}(h:0≤clsOf c b): 1≤b∧b≤c.n0+c.n1:=by
 unfold clsOf at h; split at h <;> omega
theorem blockAt_ok{c:Cfg}(hc:c.Ok){b:Int}(h:0≤clsOf c b): 5≤blockAt c b∧blockAt c b<sizeOfC c:=by
 have h1:=clsOf_ok h
 have hr:0≤b-1∧b-1<c.n0+c.n1:=by omega
 have hn:=blk_nl hc hr
 have hm:=bMin_le (b-1) c.n0
 unfold blockAt sizeOfC
 rw [if_pos hr]
 simp only [Cfg.Ok] at hc
 have e1:bMin (b-1) c.n0*(1+c.s0)≤c.n0*(1+c.s0):=Int.mul_le_mul_of_nonneg_right hm.2.1 (by omega)
 by_cases hb:b-1<c.n0
 ·have hmm:bMin (b-1) c.n0=b-1:=by unfold bMin; split <;> omega
  rw [hmm] at hn e1 ⊢
  have e2:(b-1)*(1+c.s0)+(1+c.s0)≤c.n0*(1+c.s0):=by
   have:(b-1+1)*(1+c.s0)≤c.n0*(1+c.s0):=Int.mul_le_mul_of_nonneg_right (by omega) (by omega)
   rw [Int.add_mul] at this
   omega
  have e3:0≤c.n1*(1+c.s1):=Int.mul_nonneg (by omega) (by omega)
  have e4:(b-1-(b-1))*(1+c.s1)=0:=by rw [Int.sub_self,Int.zero_mul]
  rw [e4]
  omega
 ·have hmm:bMin (b-1) c.n0=c.n0:=by unfold bMin; split <;> omega
  rw [hmm] at hn e1 ⊢
  have e2:(b-1-c.n0)*(1+c.s1)+(1+c.s1)≤c.n1*(1+c.s1):=by
   have:(b-1-c.n0+1)*(1+c.s1)≤c.n1*(1+c.s1):=Int.mul_le_mul_of_nonneg_right (by omega) (by omega)
   rw [Int.add_mul] at this
   omega
  omega
theorem slotAt_ok{c:Cfg}(hc:c.Ok){i:Int}(h:0≤i∧i<c.slots): slotAt c i=5+i∧5+i<sizeOfC c:=by
 unfold slotAt
 rw [if_pos h]
 simp only [Cfg.Ok] at hc
 have h1:0≤c.topics*(1+2*c.small):=Int.mul_nonneg (by omega) (by omega)
 have h2:0≤c.n0*(1+c.s0):=Int.mul_nonneg (by omega) (by omega)
 have h3:0≤c.n1*(1+c.s1):=Int.mul_nonneg (by omega) (by omega)
 unfold sizeOfC
 exact⟨rfl,by omega⟩
theorem sizeOfC_ok{c:Cfg}(hc:c.Ok): 7≤sizeOfC c∧sizeOfC c≤3000:=by
 simp only [Cfg.Ok] at hc
 have h1:0≤c.topics*(1+2*c.small)∧c.topics*(1+2*c.small)≤8*65:=mul_bounds (by omega) (by omega)
 have h2:0≤c.n0*(1+c.s0)∧c.n0*(1+c.s0)≤12*97:=mul_bounds (by omega) (by omega)
 have h3:0≤c.n1*(1+c.s1)∧c.n1*(1+c.s1)≤12*97:=mul_bounds (by omega) (by omega)
 unfold sizeOfC
 omega
end Go.Sx
/- Halves of words. -/
namespace Go.Sx
def lo32(w:Int): Int:=w % 4294967296
def hi32(w:Int): Int:=w / 4294967296
/-- a head of another block, with the next tag -/
def turnW(w b:Int): Int:=((hi32 w+1) % 4294967296)*4294967296+b
theorem lo32_lt(w:Int): 0≤lo32 w∧lo32 w<4294967296:=by unfold lo32; omega
theorem hi32_lt{w:Int}(h:0≤w∧w≤18446744073709551615): 0≤hi32 w∧hi32 w<4294967296:=by unfold hi32; omega
theorem wrapU64(r:Int): IntKind.u64.wrap r=r % 18446744073709551616:=by simp [IntKind.wrap,IntKind.signed,IntKind.bits]
theorem wrapU32(r:Int): IntKind.u32.wrap r=r % 4294967296:=by simp [IntKind.wrap,IntKind.signed,IntKind.bits]
theorem wrap32_rng(r:Int): 0≤IntKind.u32.wrap r∧IntKind.u32.wrap r≤4294967295:=by rw [wrapU32]; omega
theorem shr_lit(w:Int)(n:Nat)(h:n≤64): bShr .u64 w n=w / (2 ^ n:Int):=by
 unfold bShr
 have:min ((n:Int).toNat) (IntKind.bits .u64)=n:=by simp [IntKind.bits]; omega
 rw [this]
 have hp:(0:Int)≤2 ^ n:=Int.le_of_lt (Int.pow_pos (by decide))
 rw [Int.fdiv_eq_ediv_of_nonneg _ hp]
theorem bAnd64(a b:Nat)(ha:a<2 ^ 64)(hb:b<2 ^ 64): bAnd .u64 (a:Int) (b:Int)=((a &&& b:Nat):Int):=by
 have h:bAnd .u64 (a:Int) (b:Int)=IntKind.u64.wrap (((BitVec.ofInt 64 (a:Int)) &&& (BitVec.ofInt 64 (b:Int)):BitVec 64).toNat:Int):=rfl
 rw [h,BitVec.ofInt_natCast,BitVec.ofInt_natCast,BitVec.toNat_and,BitVec.toNat_ofNat,BitVec.toNat_ofNat,Nat.mod_eq_of_lt ha,Nat.mod_eq_of_lt hb,wrapU64]
 have:=Nat.and_lt_two_pow a hb
 omega
theorem bOr64(a b:Nat)(ha:a<2 ^ 64)(hb:b<2 ^ 64): bOr .u64 (a:Int) (b:Int)=((a ||| b:Nat):Int):=by
 have h:bOr .u64 (a:Int) (b:Int)=IntKind.u64.wrap (((BitVec.ofInt 64 (a:Int)) ||| (BitVec.ofInt 64 (b:Int)):BitVec 64).toNat:Int):=rfl
 rw [h,BitVec.ofInt_natCast,BitVec.ofInt_natCast,BitVec.toNat_or,BitVec.toNat_ofNat,BitVec.toNat_ofNat,Nat.mod_eq_of_lt ha,Nat.mod_eq_of_lt hb,wrapU64]
 have:=Nat.or_lt_two_pow ha hb
 omega
theorem and_mask(w:Int)(n:Nat)(hn:n≤64)(h:0≤w∧w≤18446744073709551615): bAnd .u64 w (2 ^ n-1)=w % (2 ^ n:Int):=by
 obtain⟨m,rfl⟩:=Int.eq_ofNat_of_zero_le h.1
 have hp:0<2 ^ n:=Nat.two_pow_pos n
 have e:((2:Int) ^ n-1)=((2 ^ n-1:Nat):Int):=by
  rw [Int.natCast_sub (by omega)]; simp
 have hle:2 ^ n≤2 ^ 64:=Nat.pow_le_pow_right (by decide) hn
 rw [e,bAnd64 m _ (by omega) (by omega),Nat.and_two_pow_sub_one_eq_mod]
 simp
theorem get_lo{w:Int}(h:0≤w∧w≤18446744073709551615): bAnd .u64 (bShr .u64 w 0) (bShr .u64 18446744073709551615 (64-32))=lo32 w:=by
 have h1:=shr_lit w 0 (by decide)
 have h2:=shr_lit 18446744073709551615 32 (by decide)
 have e0:((0:Nat):Int)=0:=rfl
 have e1:((32:Nat):Int)=64-32:=rfl
 rw [e0] at h1; rw [e1] at h2
 rw [h1,h2]
 have h3:=and_mask w 32 (by decide) h
 simp only [lo32]
 have:w / 2 ^ 0=w:=by simp
 rw [this]
 exact h3
theorem get_hi64{w:Int}(h:0≤w∧w≤18446744073709551615): bAnd .u64 (bShr .u64 w 32) (bShr .u64 18446744073709551615 (64-32))=hi32 w:=by
 have h1:=shr_lit w 32 (by decide)
 have h2:=shr_lit 18446744073709551615 32 (by decide)
 have e0:((32:Nat):Int)=32:=rfl
 have e1:((32:Nat):Int)=64-32:=rfl
 rw [e0] at h1; rw [e1] at h2
 rw [h1,h2]
 have h3:=and_mask (w / 2 ^ 32) 32 (by decide) (by constructor <;> omega)
 simp only [hi32]
 have e:(18446744073709551615:Int) / 2 ^ 32=2 ^ 32-1:=by decide
 rw [e,h3]
 omega
theorem get_hi{w:Int}(h:0≤w∧w≤18446744073709551615): IntKind.u32.wrap (bAnd .u64 (bShr .u64 w 32) (bShr .u64 18446744073709551615 (64-32)))=hi32 w:=by
 rw [get_hi64 h,wrapU32]
 have:=hi32_lt h
 omega
theorem or_add(t b:Nat)(hb:b<2 ^ 32): (t*2 ^ 32) ||| b=t*2 ^ 32+b:=by
 rw [Nat.mul_comm,←Nat.two_pow_add_eq_or_of_lt hb]
theorem make_eq{t b:Int}(ht:0≤t∧t≤4294967295)(hb:0≤b∧b≤4294967295):
  bOr .u64 (bShl .u64 (IntKind.u64.wrap t) 32) (IntKind.u64.wrap (IntKind.u32.wrap b))=t*4294967296+b:=by
 obtain⟨t,rfl⟩:=Int.eq_ofNat_of_zero_le ht.1
 obtain⟨b,rfl⟩:=Int.eq_ofNat_of_zero_le hb.1
 have e1:IntKind.u64.wrap (t:Int)=t:=by rw [wrapU64]; omega
 have e2:IntKind.u32.wrap (b:Int)=b:=by rw [wrapU32]; omega
 have e3:IntKind.u64.wrap (b:Int)=b:=by rw [wrapU64]; omega
 rw [e1,e2,e3]
 have e4:bShl .u64 (t:Int) 32=((t*2 ^ 32:Nat):Int):=by
  unfold bShl
  have:min ((32:Int).toNat) (IntKind.bits .u64)=32:=by decide
  rw [this,wrapU64]
  omega
 rw [e4]
 rw [bOr64 _ _ (by omega) (by omega),or_add t b (by omega)]
 omega
theorem turn_eq(w b:Int): IntKind.u32.wrap (hi32 w+1)*4294967296+b=turnW w b:=by rw [wrapU32]; rfl
end Go.Sx

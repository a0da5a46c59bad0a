/- Footprints, an executor over the program and its soundness, and the rules for calls, loops and regions: no program in sight, part 2 of those on which LargePlays rests. -/
import Derived.Test.YtpcaijopodhdgaaGreatDoorSxA
import Derived.ProofKit
import Derived.Deep.Slices
import Derived.OpenShut
import Derived.WideKeyArgs

set_option linter.unusedVariables false
set_option linter.unusedSimpArgs false
namespace Go.Sx
theorem R_ldF{P:Program}{F:Fr}{α : Type}{tm:TM}{L:List Ent}(i:Nat){a:Option Addr}{c:Nat}{enc : α→List Value}{d : α}{sz:Nat}{xs:List α}{te:TypeId}{r:Rest}
  (hL:L[i]? = some (.rd a c enc d sz xs te r)) (j fo:Nat) (ag:Bool) (n:Nat) (vs:List Value) (hv:((enc (xs.getD j d)).drop fo).take n=vs) (hn:vs.length=n) (h1:ag=true∨n=1) (hj:j<xs.length) :
  ∀o,ldO P tm o=some (.pointer (some ((slAd a j sz).add fo)),ag,n)→
   Runs P F o (execOp tm.eval o) L (fun v L'=>v=valOf ag vs∧L'=L):=by
 intro o ho
 unfold ldO at ho
 split at ho
 ·rename_i t x hop
  split at ho
  ·rename_i ag' n' ha hs
   simp only [Option.some.injEq,Prod.mk.injEq] at ho
   obtain⟨hx,rfl,rfl⟩:=ho
   intro ac w K Q hin hkk
   have hin0:=hin
   obtain⟨f,hf,hfit,_⟩:=hin0
   obtain⟨f1,g,f2,rfl,⟨hz,hg⟩,_⟩:=dens_get hL hf
   have hld:(Instr.loadAt t (.pointer (some ((slAd a j sz).add fo)))).run P w = .ok (valOf ag' vs) w:=by
    rcases hg with ⟨hx0,_⟩ | ⟨b,off,rfl,hp,hl,rfl⟩
    ·subst hx0; simp at hj
    ·have hb:w.heap[b]? = some (.cells (r.pre++cellsOf enc xs++r.post).toArray te r.fz):=hfit.2 (b,_) (by simp)
     have e:(slAd (some ⟨b,off,none⟩) j sz).add fo=⟨b,off+j*sz+fo,none⟩:=by simp [slAd,jOff_eq,Addr.add]
     rw [e]
     simp only [Instr.loadAt,Instr.sureAddr,Sem.run_bind,Sem.run_pure,Result.andThen_ok]
     have hxj:xs[j]? = some (xs.getD j d):=by simp [hj]
     refine loadVar_run ha (by rw [hn]; exact hs) (by rw [hn]; rcases h1 with h | h <;> simp [h]) ?_
     intro k v hk
     rw [←hv] at hk
     have hkn:k<n':=by
      have h2:=(List.getElem?_eq_some_iff.1 hk).1
      rw [List.length_take] at h2
      omega
     rw [List.getElem?_take_of_lt hkn,List.getElem?_drop] at hk
     have hlt:fo+k<sz:=by
      have h2:=(List.getElem?_eq_some_iff.1 hk).1
      rwa [hz] at h2
     have hgk:=cellsOf_get hz xs j (fo+k) _ hxj hlt
     have hin1:j*sz+(fo+k)<(cellsOf enc xs).length:=by
      rw [cellsOf_length hz]
      calc j*sz+(fo+k)<j*sz+sz:=by omega
       _ = (j+1)*sz:=by rw [Nat.succ_mul]
       _≤xs.length*sz:=Nat.mul_le_mul_right _ hj
     subst hp
     simp only [World.cell?,hb,Option.isSome_none,Bool.false_eq_true,if_false,List.getElem?_toArray]
     rw [show r.pre.length+j*sz+fo+k=r.pre.length+(j*sz+(fo+k)) by omega,List.append_assoc,List.getElem?_append_right (by omega),Nat.add_sub_cancel_left,List.getElem?_append_left hin1,hgk]
     exact hk
   have hrun:(execOp tm.eval o).run P w = .ok (.value (valOf ag' vs)) w:=by
    simp only [execOp,hop,hx,Sem.run_bind,hld,Result.andThen_ok,Sem.run_pure]
   rw [hrun]
   exact hkk _ _ w ⟨rfl,rfl⟩ hin
  ·simp at ho
 ·simp at ho
end Go.Sx
namespace Go.Sx
def Reach(P:Program)(T:TypeId)(rv:Value)(name:String)(f:FuncId): Prop := ∀w:World,(method (P.types.size+Made.depth) T rv name).run P w = .ok (f,rv) w
def invokeeOf(tm:TM)(o:Oper): Option (TypeId×Value×String×Array Value):=
 match o.op with
 | .call c=>match c.callee with
  | .invoke x name=>match tm.eval x with
   | .iface t v=>some (t,v,name,#[v]++(#[Value.iface t v]++c.args.map tm.eval).extract 1 (#[Value.iface t v]++c.args.map tm.eval).size)
   | _=>none
  | _=>none
 | _=>none
section
variable {P:Program} {fn:Func} {body:Code} {nt:Nat} {F:Fr} {R:Ending→World→Prop}
theorem runs_invoke{o:Oper}{tm:TM}{T:TypeId}{rv:Value}{name:String}{f:FuncId}{args:Array Value}{pre:List Ent}{L:List Ent}{Ψ : Value→List Ent→Prop}(idx:List Nat)
  (hr:Reach P T rv name f) (hen:Enters P f) (hS:Ctr P f args pre Ψ) (hc:invokeeOf tm o=some (T,rv,name,args)) (hp:pick L idx=pre) (hi:places L.length idx=true) :
  Runs P F o (execOp tm.eval o) L (fun v L' => ∃post,Ψ v post∧L'=dropAt L idx++post):=by
 intro a w K Q hin hk
 unfold invokeeOf at hc
 split at hc
 ·rename_i c hop
  split at hc
  ·rename_i x nm hx
   split at hc
   ·rename_i t v hv
    simp only [Option.some.injEq,Prod.mk.injEq] at hc
    obtain⟨rfl,rfl,rfl,rfl⟩:=hc
    have h0:(#[Value.iface t v]++c.args.map tm.eval)[0]? = some (Value.iface t v):=by rw [Array.getElem?_append_left (by simp)]; rfl
    have hrun:(execOp tm.eval o).run P w = .ok (.enter f (#[v]++(#[Value.iface t v]++c.args.map tm.eval).extract 1 (#[Value.iface t v]++c.args.map tm.eval).size)) w:=by
     simp only [execOp,hop,resolve,hx,hv,Sem.run_bind,Sem.run_pure,Result.andThen_ok,invoke,h0,callMethod,run_program]
     rw [hr w]
     simp only [Result.andThen_ok]
     exact hen _ _
    rw [hrun]
    obtain⟨F',h1,h2⟩:=hin.take idx hi
    rw [hp] at h1
    refine(hS F' w h1).mono ?_
    rintro e w' ⟨v,post,rfl,hΨ,hw⟩
    exact hk v _ w' ⟨post,hΨ,rfl⟩ (h2 post w' hw)
   ·simp at hc
  ·simp at hc
 ·simp at hc
theorem go_invoke{p:List Nat}{k:Nat}{ks:List Kont}{tm:TM}{L:List Ent}{T:TypeId}{rv:Value}{name:String}{f:FuncId}{args:Array Value}{pre:List Ent}{Ψ : Value→List Ent→Prop}(dst:Option Nat)(idx:List Nat)
  (hr:Reach P T rv name f) (hen:Enters P f) (hS:Ctr P f args pre Ψ)
  (h:((opAt body nt p k tm).map (fun o=>(invokeeOf tm o,o.dst)),pick L idx,places L.length idx)=(some (some (T,rv,name,args),dst),pre,true))
  (hk:∀v post,Ψ v post→Go P fn body nt F R (.o p (k+1) :: ks) (putT dst v tm) (dropAt L idx++post)):Go P fn body nt F R (.o p k :: ks) tm L:=by
 simp only [Prod.mk.injEq,Option.map_eq_some_iff] at h
 obtain⟨⟨o,ho,hc,rfl⟩,hp,hi⟩:=h
 refine go_run ho (runs_invoke idx hr hen hS hc hp hi) ?_
 rintro v L' ⟨post,hΨ,rfl⟩
 exact hk v post hΨ
end
def allL{α : Type}(pred:Nat→α→Res)(qs:List (Nat×α)): List Ent:=qs.map fun q=>.res (pred q.1 q.2)
def AllR{α : Type}(pred:Nat→α→Res)(qs:List (Nat×α)): Res:=dens (allL pred qs)
theorem view_open{L M N:List Ent}(i:Nat)(h:(pick L [i],places L.length [i],dropAt L [i])=([.res (dens N)],true,M)): View L (M++N):=by
 simp only [Prod.mk.injEq] at h
 obtain⟨h1,h2,h3⟩:=h
 intro F w hi
 have hi':In (dropAt L [i]++pick L [i]) F w:=(hi.perm (pick_drop_perm L [i] h2)).perm List.perm_append_comm
 rw [h1,h3] at hi'
 obtain⟨f,hf,hfit,hr⟩:=hi'
 obtain⟨f1,f2,rfl,ha,g1,g2,rfl,hb,hc⟩:=dens_append.1 hf
 have hc':g2=[]:=hc
 subst hc'
 exact⟨f1++g1,dens_append.2 ⟨f1,g1,rfl,ha,hb⟩,by simpa using hfit,hr⟩
theorem view_close{L M N:List Ent}(idx:List Nat)(h:(pick L idx,places L.length idx,dropAt L idx)=(N,true,M)): View L (M++[.res (dens N)]):=by
 simp only [Prod.mk.injEq] at h
 obtain⟨h1,h2,h3⟩:=h
 intro F w hi
 have hi':In (dropAt L idx++pick L idx) F w:=(hi.perm (pick_drop_perm L idx h2)).perm List.perm_append_comm
 rw [h1,h3] at hi'
 obtain⟨f,hf,hfit,hr⟩:=hi'
 obtain⟨f1,f2,rfl,ha,hb⟩:=dens_append.1 hf
 exact⟨f1++f2,dens_append.2 ⟨f1,f2,rfl,ha,f2,[],by simp,hb,rfl⟩,hfit,hr⟩
theorem eraseIdx_perm{α : Type}: ∀(l:List α) (n:Nat) (h:n<l.length),(l[n] :: l.eraseIdx n).Perm l
 | _ :: _,0,_=>List.Perm.refl _
 | a :: l,n+1,h=>by
  have h':n<l.length:=by simpa using h
  have e:=eraseIdx_perm l n h'
  exact(List.Perm.swap a l[n] (l.eraseIdx n)).trans (e.cons a)
theorem view_focus{α : Type}{pred:Nat→α→Res}{qs:List (Nat×α)}{L M:List Ent}(i n:Nat)(d:Nat×α)(hn:n<qs.length)(h:(pick L [i],places L.length [i],dropAt L [i])=([.res (AllR pred qs)],true,M)):
  View L (M++[.res (pred (qs.getD n d).1 (qs.getD n d).2),.res (AllR pred (qs.eraseIdx n))]):=by
 intro F w hi
 have h1:=view_open i h F w hi
 have hp:(allL pred qs).Perm (.res (pred (qs.getD n d).1 (qs.getD n d).2) :: allL pred (qs.eraseIdx n)):=by
  have e:qs.getD n d=qs[n]:=by rw [List.getD_eq_getElem?_getD,List.getElem?_eq_getElem hn]; rfl
  rw [e]
  exact((eraseIdx_perm _ n hn).map (fun q:Nat×α => Ent.res (pred q.1 q.2))).symm
 have h2:=In.perm (List.Perm.append_left M hp) h1
 obtain⟨f,hf,hfit,hr⟩:=h2
 obtain⟨f1,f2,rfl,ha,f3,f4,rfl,hb,hc⟩:=dens_append.1 hf
 exact⟨f1++(f3++f4),dens_append.2 ⟨f1,f3++f4,rfl,ha,f3,f4,rfl,hb,f4,[],by simp,hc,rfl⟩,hfit,hr⟩
theorem view_unfocus{α : Type}{pred:Nat→α→Res}{qs:List (Nat×α)}{L M:List Ent}(i j n:Nat)(p:Nat)(s : α)(hn:n<qs.length)
  (h:(pick L [i,j],places L.length [i,j],dropAt L [i,j])=([.res (pred p s),.res (AllR pred (qs.eraseIdx n))],true,M)):View L (M++[.res (AllR pred (qs.set n (p,s)))]):=by
 simp only [Prod.mk.injEq] at h
 obtain⟨h1,h2,h3⟩:=h
 intro F w hi
 have hi':In (dropAt L [i,j]++pick L [i,j]) F w:=(hi.perm (pick_drop_perm L [i,j] h2)).perm List.perm_append_comm
 rw [h1,h3] at hi'
 obtain⟨f,hf,hfit,hr⟩:=hi'
 obtain⟨f1,f2,rfl,ha,f3,f4,rfl,hb,f5,f6,rfl,hc,hd⟩:=dens_append.1 hf
 have hd':f6=[]:=hd
 subst hd'
 have hp:(.res (pred p s) :: allL pred (qs.eraseIdx n)).Perm (allL pred (qs.set n (p,s))):=by
  have hn':n<(qs.set n (p,s)).length:=by rw [List.length_set]; exact hn
  have e:=(eraseIdx_perm _ n hn').map (fun q:Nat×α => Ent.res (pred q.1 q.2))
  rw [List.getElem_set_self,List.eraseIdx_set_eq] at e
  exact e
 have hM:In (M++(.res (pred p s) :: allL pred (qs.eraseIdx n))) F w:=⟨f1++(f3++f5),dens_append.2 ⟨f1,f3++f5,rfl,ha,f3,f5,rfl,hb,hc⟩,by simpa using hfit,hr⟩
 obtain⟨g,hg,hfit',hr'⟩:=In.perm (List.Perm.append_left M hp) hM
 obtain⟨g1,g2,rfl,hg1,hg2⟩:=dens_append.1 hg
 exact⟨g1++g2,dens_append.2 ⟨g1,g2,rfl,hg1,g2,[],by simp,hg2,rfl⟩,hfit',hr'⟩
end Go.Sx
namespace Go.Sx
theorem kR{p:Prop}(h:p:=by kernel_rfl): p:=h
theorem oM{p:Prop}(h:p:=by first | assumption | omega | (simp only [InK] at *; omega)): p:=h
theorem oW{p:Prop}(h:p:=by first | omega | (simp; done) | (simp; omega)): p:=h
abbrev Lk.w: Lk:=.h .w
abbrev Lk.e(n:Nat): Lk:=.h (.e n)
abbrev Lk.t(b:Bool): Lk:=.h (.t b)
abbrev Kq.ww: Kq:=.h .w
abbrev Kq.e(n:Nat): Kq:=.h (.e n)
abbrev Kq.t(b:Bool): Kq:=.h (.t b)
def kV{α : Type}: Nat→List α→List (Nat×α)
 | _,[]=>[]
 | n,k :: ks=>(n,k) :: kV (n+1) ks
inductive AE (P:Program) (F:Fr) (L:List Ent):List Prop→Prop
 | n:AE P F L []
 | e {α : Type} {ps:List Prop} (a : α) (r:AE P F L ps):AE P F L ((a=a) :: ps)
 | p {ps:List Prop} (p:Prop) (h:p) (r:AE P F L ps):AE P F L (p :: ps)
 | q {v:Value} {i:FuncId×Array Value} {ps:List Prop} (h:LawQ P F L v callO i) (r:AE P F L ps):AE P F L (LawQ P F L v callO i :: ps)
theorem AE.all{P:Program}{F:Fr}{L:List Ent}: ∀ {ps:List Prop},AE P F L ps→allP ps
 | _,.n=>trivial
 | _,.e _ r=>⟨rfl,r.all⟩
 | _,.p _ h r=>⟨h,r.all⟩
 | _,.q h r=>⟨h,r.all⟩
inductive AQ (P:Program) (F:Fr) (L:List Ent):List (FuncId×Array Value×Value)→Prop
 | n:AQ P F L []
 | c {f:FuncId} {args:Array Value} {v:Value} {cs:List (FuncId×Array Value×Value)} (hen:Enters P f) (hq:QuietCall P F L f args v) (r:AQ P F L cs):AQ P F L ((f,args,v) :: cs)
theorem AQ.all{P:Program}{F:Fr}{L:List Ent}: ∀ {cs:List (FuncId×Array Value×Value)},AQ P F L cs→allQ P F L cs
 | _,.n=>trivial
 | _,.c h1 h2 r=>⟨⟨h1,h2⟩,r.all⟩
def nT(x:Option (TM×List Prop)): TM:=match x with
 | some p=>p.1
 | none=>[]
def qT(x:Option (TM×List Prop×List (FuncId×Array Value×Value))): TM:=match x with
 | some p=>p.1
 | none=>[]
def SOut.nx{α : Type}: SOut α→SOut α
 | .obl _ o=>o
 | _=>.bad
def SOut.nn{α : Type}: SOut α→Nat→SOut α
 | .new k,b=>k b
 | _,_=>.bad
def SOut.va: SOut Next→Value
 | .ok (.value v) _=>v
 | _=>undef
def SOut.li{α : Type}: SOut α→List Ent
 | .ok _ L=>L
 | _=>[]
structure Sat (Φ : Value→List Ent→Prop) (o:SOut Next):Prop where
 h:o.sat (NxV Φ)
theorem sQ{Φ : Value→List Ent→Prop}{o:SOut Next}{α : Type}(a : α)(hk:Sat Φ o.nx)(h:o = .obl (a=a) o.nx:=by kernel_rfl): Sat Φ o:=⟨by rw [h]; exact⟨rfl,hk.h⟩⟩
theorem sN{Φ : Value→List Ent→Prop}{o:SOut Next}(hk:∀b,Sat Φ (o.nn b))(h:o = .new o.nn:=by kernel_rfl): Sat Φ o:=⟨by rw [h]; exact fun b=>(hk b).h⟩
theorem sV{Φ : Value→List Ent→Prop}{o:SOut Next}(hk : Φ o.va o.li)(h:o = .ok (.value o.va) o.li:=by kernel_rfl): Sat Φ o:=⟨by rw [h]; exact hk⟩
theorem sK{Φ : Value→List Ent→Prop}{o:SOut Next}(hk : Φ undef o.li)(h:o = .ok .skip o.li:=by kernel_rfl): Sat Φ o:=⟨by rw [h]; exact hk⟩
theorem vK{α : Type}(I : α→Prop)(LL : α→List Ent)(x : α){L:List Ent}(idx:List Nat)(hI:I x)(h:(pick L idx,places L.length idx)=(LL x,true):=by kernel_rfl): View L (dropAt L idx++[.res (Box I LL)]):=
 view_pack I LL x idx (by rw [Prod.mk.injEq] at h; rw [h.1,h.2]) hI
theorem vQ{L L':List Ent}(idx:List Nat)(h:(pick L idx,places L.length idx)=(L',true):=by kernel_rfl): View L L':=view_pick idx h
theorem vC{L:List Ent}(idx:List Nat)(h:places L.length idx=true:=by kernel_rfl): View L (dropAt L idx++[.res (dens (pick L idx))]):=view_close idx (by rw [h])
theorem oC{P:Program}{α : Type}{I : α→Prop}{LL : α→List Ent}{f:FuncId}{args:Array Value}{L:List Ent}{Ψ : Value→List Ent→Prop}(i:Nat)(hg:∀x,I x→Ctr P f args (dropAt L [i]++LL x) Ψ)
  (h:(pick L [i],places L.length [i])=([.res (Box I LL)],true):=by kernel_rfl):Ctr P f args L Ψ :=
 ctr_open i (by rw [Prod.mk.injEq] at h; rw [h.1,h.2]) hg
theorem cP{P:Program}{f:FuncId}{args:Array Value}{L L':List Ent}{Ψ Ψ':Value→List Ent→Prop}(idx:List Nat)(hg:Ctr P f args L' Ψ)(hk:∀v post,Ψ v post→∃L2,View (dropAt L idx++post) L2∧Ψ' v L2)
  (h:(pick L idx,places L.length idx)=(L',true):=by kernel_rfl):Ctr P f args L Ψ':=
 ctr_post (ctr_frame idx h hg) (by rintro v L ⟨post,hp,rfl⟩; exact hk v post hp)
section
variable {P:Program} {fn:Func} {body:Code} {nt:Nat} {F:Fr} {R:Ending→World→Prop}
theorem cB{f:FuncId}{args:List Value}{pre:List Ent}{Ψ : Value→List Ent→Prop}(body:Code)(nt:Nat)(hf:P.funcs[f]? = some fn)
  (h:∀F,Go P fn body nt F (RetR F Ψ) [.c []] (argTM 0 args) pre) (hb:fn.body=some body:=by kernel_rfl) (hnt:args.length+(fn.ntmps-args.length)=nt:=by kernel_rfl):Ctr P f args.toArray pre Ψ := ctr_of hf hb hnt h
theorem gI{o:Out}{Ψ : Value→List Ent→Prop}(v:Value)(idx:List Nat){post:List Ent}(hΨ : Ψ v post)(h:(o,pick o.rL idx,places o.rL.length idx)=(.ret v o.rL,post,true):=by kernel_rfl): OK P fn body nt F (RetR F Ψ) o:=gP v post idx hΨ h
theorem gJ{o:Out}{Ψ : Value→List Ent→Prop}{v:Value}(idx:List Nat){post:List Ent}(hΨ : Ψ v post)(h:(o,pick o.rL idx,places o.rL.length idx)=(.ret v o.rL,post,true):=by kernel_rfl): OK P fn body nt F (RetR F Ψ) o:=gP v post idx hΨ h
theorem rK{v:Value}{L:List Ent}{Ψ : Value→List Ent→Prop}(idx:List Nat){post:List Ent}(hΨ : Ψ v post)(h:(pick L idx,places L.length idx)=(post,true):=by kernel_rfl): (Out.ret v L).ok P fn body nt F (RetR F Ψ):=ret_ok idx h hΨ
theorem oG{α : Type}{I : α→Prop}{LL : α→List Ent}{ks:List Kont}{tm:TM}{L:List Ent}(i:Nat)(hg:∀x,I x→Go P fn body nt F R ks tm (dropAt L [i]++LL x))
  (h:(pick L [i],places L.length [i])=([.res (Box I LL)],true):=by kernel_rfl):Go P fn body nt F R ks tm L:=
 go_open i (by rw [Prod.mk.injEq] at h; rw [h.1,h.2]) hg
theorem gE{ks:List Kont}{tm:TM}{L:List Ent}(tm':TM)(L':List Ent)(hg:Go P fn body nt F R ks tm' L')(h:(tm,L)=(tm' ,L'):=by kernel_rfl): Go P fn body nt F R ks tm L:=go_cast h hg
theorem qR{f:FuncId}{args:Array Value}{pre L:List Ent}{v0:Value}(idx:List Nat)(hS:Ctr P f args pre (Ret v0 pre))(h:(pick L idx,places L.length idx)=(pre,true):=by kernel_rfl): QuietCall P F L f args v0:=
 quiet_of idx hS h (by rintro v post ⟨rfl,rfl⟩; exact⟨rfl,rfl⟩)
theorem lQ{f:FuncId}{args:Array Value}{pre L:List Ent}{v0:Value}(idx:List Nat)(hen:Enters P f)(hS:Ctr P f args pre (Ret v0 pre))(h:(pick L idx,places L.length idx)=(pre,true):=by kernel_rfl): LawQ P F L v0 callO (f,args):=
 law_call hen (qR idx hS h)
theorem qG{p:List Nat}{ks:List Kont}{tm:TM}{L:List Ent}{ps:List Prop}{cs:List (FuncId×Array Value×Value)}(KA:List (Nat×Kq))(keep:List Nat)(hps:AE P F L ps)(hcs:AQ P F L cs)
  (hk:Go P fn body nt F R ks (qT (quietAt P body nt p KA tm L keep)) L) (h:(quietAt P body nt p KA tm L keep).map (·.2)=some (ps,cs):=by kernel_rfl) (hmix:P.follows .mixedOrders=true:=by kernel_rfl):Go P fn body nt F R (.c p :: ks) tm L:=by
 cases hq:quietAt P body nt p KA tm L keep with
 | none=>rw [hq] at h; simp at h
 | some x=>
  rw [hq] at h hk
  obtain⟨t,p' ,c'⟩:=x
  simp only [Option.map_some,Option.some.injEq,Prod.mk.injEq] at h
  obtain⟨rfl,rfl⟩:=h
  exact go_quiet KA keep hmix hq hps.all hcs.all hk
theorem tC{p:List Nat}{ks:List Kont}{tm:TM}{L:List Ent}{f:FuncId}{args:Array Value}{pre:List Ent}{Ψ : Value→List Ent→Prop}{ps:List Prop}{cs:List (FuncId×Array Value×Value)}(dst:Option Nat)
  (KA:List (Nat×Kq)) (W:Nat) (KB:List (Nat×Kq)) (idx keep:List Nat) (hen:Enters P f) (hS:Ctr P f args pre Ψ) (hps:AE P F L ps) (hcs:AQ P F L cs)
  (hk:∀v post,Ψ v post→TailNext P fn body nt F R p KA W KB tm L keep v ks (dropAt L idx++post))
  (h:((tailAt P body nt p KA W KB tm L).map (fun x=>(calleeOf x.2.2.1 x.2.1,x.2.1.dst,x.2.2.2)),pick L idx,places L.length idx)=(some (some (f,args),dst,ps,cs),pre,true):=by kernel_rfl)
  (hmix:P.follows .mixedOrders=true:=by kernel_rfl):Go P fn body nt F R (.c p :: ks) tm L:=
 go_tail_call KA W KB idx keep hmix hen hS h hps.all hcs.all hk
def tS(P:Program)(x:Option (Array Oper×Oper×TM×List Prop×List (FuncId×Array Value×Value)))(hw:Hn)(L:List Ent): SOut Next:=match x with
 | some y=>opS P y.2.1 hw y.2.2.1 L
 | none=>.bad
theorem tO{p:List Nat}{ks:List Kont}{tm:TM}{L:List Ent}{ps:List Prop}{cs:List (FuncId×Array Value×Value)}
  (KA:List (Nat×Kq)) (W:Nat) (KB:List (Nat×Kq)) (hw:Hn) (keep:List Nat) (hps:AE P F L ps) (hcs:AQ P F L cs)
  (hk:Sat (fun v L'=>TailNext P fn body nt F R p KA W KB tm L keep v ks L') (tS P (tailAt P body nt p KA W KB tm L) hw L))
  (h:(tailAt P body nt p KA W KB tm L).map (fun x=>x.2.2.2)=some (ps,cs):=by kernel_rfl)
  (hmix:P.follows .mixedOrders=true:=by kernel_rfl):Go P fn body nt F R (.c p :: ks) tm L:=by
 cases hq:tailAt P body nt p KA W KB tm L with
 | none=>rw [hq] at h; simp at h
 | some x=>
  rw [hq] at h hk
  obtain⟨o,w,t,p' ,c'⟩:=x
  simp only [Option.map_some,Option.some.injEq,Prod.mk.injEq] at h
  obtain⟨rfl,rfl⟩:=h
  exact go_tail_op KA W KB hw keep hmix (by rw [hq]; rfl) hps.all hcs.all hk.h
theorem tN{p:List Nat}{KA:List (Nat×Kq)}{W:Nat}{KB:List (Nat×Kq)}{tm:TM}{L L':List Ent}{keep:List Nat}{v:Value}{ks:List Kont}{ps2:List Prop}
  (hps:AE P F [] ps2) (hgo:Go P fn body nt F R ks ((nT (tailGo P body nt p KA W KB tm L v)).restrict keep) L') (h:(tailGo P body nt p KA W KB tm L v).map (·.2)=some ps2:=by kernel_rfl) :
  TailNext P fn body nt F R p KA W KB tm L keep v ks L':=by
 cases hq:tailGo P body nt p KA W KB tm L v with
 | none=>rw [hq] at h; simp at h
 | some x=>
  rw [hq] at h hgo
  obtain⟨t,p'⟩:=x
  simp only [Option.map_some,Option.some.injEq] at h
  subst h
  exact tail_next (by rw [hq]; rfl) hps.all hgo
theorem zG{p:List Nat}{ks:List Kont}{tm:TM}{L:List Ent}(h:Lz P fn body nt F R (regOps body p) ks (Array.replicate (regOps body p).size false) [] tm L)
  (hl:(match look body p with | .region _ _ true=>true | _=>false)=true:=by kernel_rfl) (hmix:P.follows .mixedOrders=true:=by kernel_rfl):Go P fn body nt F R (.c p :: ks) tm L:=go_lz hmix hl h
variable {ops:Array Oper} {ks:List Kont} {l:Array Bool} {V:List Nat} {T:TM} {L:List Ent}
theorem zN{ps:List Prop}(KA:List Nat)(KV:List (Nat×Lk))(keep:List Nat)(rs:List Nat)(hp:AE P F L ps)
  (hg:allN (LzOp P fn body nt F R ops ks (markAll l KA) (V++KA) ((nT (nodeV P F ops nt l V KA KV T L)).restrict keep) L) rs)
  (h:((nodeV P F ops nt l V KA KV T L).map (fun x=>(x.2,x.1.restrict (dstsOf ops V))),readyV ops (markAll l KA),rs.isEmpty)=(some (ps,T.restrict (dstsOf ops V)),rs,false):=by kernel_rfl):Lz P fn body nt F R ops ks l V T L:=by
 simp only [Prod.mk.injEq] at h
 cases hq:nodeV P F ops nt l V KA KV T L with
 | none=>rw [hq] at h; simp at h
 | some x=>
  rw [hq] at h hg
  obtain⟨t,p'⟩:=x
  obtain⟨h1,h2,h3⟩:=h
  simp only [Option.map_some,Option.some.injEq,Prod.mk.injEq] at h1
  obtain⟨rfl,h4⟩:=h1
  exact lz_node KA KV keep rs (by rw [hq]; simp only [Option.map_some,h2,h3,h4]; rfl) hp.all hg
theorem zE{ps:List Prop}(KA:List Nat)(KV:List (Nat×Lk))(keep:List Nat)(hp:AE P F L ps)
  (hg:Go P fn body nt F R ks ((nT (nodeV P F ops nt l V KA KV T L)).restrict keep) L)
  (h:((nodeV P F ops nt l V KA KV T L).map (fun x=>(x.2,x.1.restrict (dstsOf ops V))),(List.range ops.size).all (fun i=>(markAll l KA).getD i false))=(some (ps,T.restrict (dstsOf ops V)),true):=by kernel_rfl):Lz P fn body nt F R ops ks l V T L:=by
 simp only [Prod.mk.injEq] at h
 cases hq:nodeV P F ops nt l V KA KV T L with
 | none=>rw [hq] at h; simp at h
 | some x=>
  rw [hq] at h hg
  obtain⟨t,p'⟩:=x
  obtain⟨h1,h2⟩:=h
  simp only [Option.map_some,Option.some.injEq,Prod.mk.injEq] at h1
  obtain⟨rfl,h4⟩:=h1
  exact lz_end KA KV keep (by rw [hq]; simp only [Option.map_some,h2,h4]; rfl) hp.all hg
theorem zW{l':Array Bool}{V':List Nat}{T':TM}{L':List Ent}(keep idx:List Nat)(hg:Lz P fn body nt F R ops ks l' V' T' L')(h:(T.restrict keep,pick L idx,places L.length idx,l,V.all (hasNat V'))=(T' ,L',true,l',true):=by kernel_rfl): Lz P fn body nt F R ops ks l V T L:=lz_weak keep idx h hg
def oS(P:Program)(ops:Array Oper)(nt:Nat)(T:TM)(L:List Ent)(i:Nat)(hw:Hn): SOut Next:=match opLz ops nt T i with
 | some o=>opS P o hw T L
 | none=>.bad
def oD(ops:Array Oper)(nt:Nat)(T:TM)(i:Nat): Option Nat:=(opLz ops nt T i).bind (·.dst)
theorem zX{i:Nat}(hw:Hn)(hk:Sat (fun v L'=>Lz P fn body nt F R ops ks (l.setIfInBounds i true) (sureV ops V i) (putT (oD ops nt T i) v T) L') (oS P ops nt T L i hw))(h:(opLz ops nt T i).isSome=true:=by kernel_rfl): LzOp P fn body nt F R ops ks l V T L i:=by
 cases hq:opLz ops nt T i with
 | none=>rw [hq] at h; simp at h
 | some o=>
  unfold oS oD at hk
  rw [hq] at hk
  exact lz_op hw (by rw [hq]; rfl) hk.h
theorem lE{i:Nat}(L':List Ent)(hg:LzOp P fn body nt F R ops ks l V T L' i)(h:L=L':=by kernel_rfl): LzOp P fn body nt F R ops ks l V T L i:=h▸hg
theorem zC{i:Nat}{f:FuncId}{args:Array Value}{pre:List Ent}{Ψ : Value→List Ent→Prop}(dst:Option Nat)(idx:List Nat)(hen:Enters P f)(hS:Ctr P f args pre Ψ)
  (hk:∀v post,Ψ v post→Lz P fn body nt F R ops ks (l.setIfInBounds i true) (sureV ops V i) (putT dst v T) (dropAt L idx++post))
  (h:((opLz ops nt T i).map (fun o=>(calleeOf T o,o.dst)),pick L idx,places L.length idx)=(some (some (f,args),dst),pre,true):=by kernel_rfl):LzOp P fn body nt F R ops ks l V T L i:=by
 refine lz_call dst idx hen hS (l':=l.setIfInBounds i true) (V':=sureV ops V i) ?_ hk
 simp only [Prod.mk.injEq] at h
 simp only [h.1,h.2.1,h.2.2]
theorem zB{α : Type}{i:Nat}{Ψ : Value→List Ent→Prop}(dst:Option Nat)(A:Oper→α)(a0 : α)(hR:∀o,A o=a0→Runs P F o (execOp T.eval o) L Ψ)
  (hk:∀v L',Ψ v L'→Lz P fn body nt F R ops ks (l.setIfInBounds i true) (sureV ops V i) (putT dst v T) L') (h:(opLz ops nt T i).map (fun o=>(A o,o.dst))=some (a0,dst):=by kernel_rfl):LzOp P fn body nt F R ops ks l V T L i:=
 lz_by dst A a0 hR (l':=l.setIfInBounds i true) (V':=sureV ops V i) (by rw [h]) hk
end
end Go.Sx
namespace Go.Sx
section
variable {P:Program} {fn:Func} {body:Code} {nt:Nat} {F:Fr} {R:Ending→World→Prop} {ops:Array Oper} {ks:List Kont} {l:Array Bool} {tm:TM} {L:List Ent}
def aS(P:Program)(ops:Array Oper)(nt:Nat)(T:TM)(L:List Ent)(i:Nat)(hw:Hn): SOut Next:=match opIn ops nt T i with
 | some o=>opS P o hw T L
 | none=>.bad
def aD(ops:Array Oper)(nt:Nat)(T:TM)(i:Nat): Option Nat:=(opIn ops nt T i).bind (·.dst)
theorem aX{i:Nat}(hw:Hn)(hk:Sat (fun v L'=>Any P fn body nt F R ops ks (l.setIfInBounds i true) (putT (aD ops nt tm i) v tm) L') (aS P ops nt tm L i hw))(h:(opIn ops nt tm i).isSome=true:=by kernel_rfl): AnyOp P fn body nt F R ops ks l tm L i:=by
 cases hq:opIn ops nt tm i with
 | none=>rw [hq] at h; simp at h
 | some o=>
  unfold aS aD at hk
  rw [hq] at hk
  exact any_op hw (by rw [hq]; rfl) hk.h
theorem aP{ps:List Prop}(hs:List (Nat×Hn))(keep:List Nat)(hp:AE P F [] ps)(hg:Any P fn body nt F R ops ks (anyPure P ops nt hs 200 l tm []).1 (TM.restrict (anyPure P ops nt hs 200 l tm []).2.1 keep) L)
  (h:(Region.noSelect ops,(anyPure P ops nt hs 200 l tm []).2.2)=(true,ps):=by kernel_rfl):Any P fn body nt F R ops ks l tm L:=by
 simp only [Prod.mk.injEq] at h
 exact any_pure hs keep (by rw [h.1,h.2]) hp.all hg
theorem aW{l':Array Bool}{tm':TM}{L':List Ent}(keep idx:List Nat)(hg:Any P fn body nt F R ops ks l' tm' L')(h:(tm.restrict keep,pick L idx,places L.length idx,l)=(tm' ,L',true,l'):=by kernel_rfl): Any P fn body nt F R ops ks l tm L:=by
 simp only [Prod.mk.injEq] at h
 obtain⟨h1,h2,h3,rfl⟩:=h
 exact any_weak keep idx (by rw [h1,h2,h3]) hg
theorem hW(keep idx:List Nat)(hg:Go P fn body nt F R ks (tm.restrict keep) (pick L idx))(h:places L.length idx=true:=by kernel_rfl): Go P fn body nt F R ks tm L:=go_weak keep idx (by rw [h]) hg
end
end Go.Sx
namespace Go.Sx
open Go.ChangeShapes Go.WideShapes Go.RowKit
inductive Kd
 | int (k:IntKind)
 | bool
def Kd.fits: Kd→Value→Prop
 | .int k,v => ∃n,v = .int k n∧(Lit.int k n).wf=true
 | .bool,v => ∃b,v = .bool b
def FitsAll: List Kd→List Value→Prop
 | [],[]=>True
 | k :: ks,v :: vs=>k.fits v∧FitsAll ks vs
 | _,_=>False
theorem FitsAll.len: ∀ {ks:List Kd} {vs:List Value},FitsAll ks vs→vs.length=ks.length
 | [],[],_=>rfl
 | _ :: _,_ :: _,h=>by simp [h.2.len]
 | [],_ :: _,h=>h.elim
 | _ :: _,[],h=>h.elim
theorem FitsAll.append: ∀ {ks ls:List Kd} {vs us:List Value},FitsAll ks vs→FitsAll ls us→FitsAll (ks++ls) (vs++us)
 | [],_,[],_,_,h=>h
 | _ :: _,_,_ :: _,_,h,h'=>⟨h.1,h.2.append h'⟩
 | [],_,_ :: _,_,h,_=>h.elim
 | _ :: _,_,[],_,h,_=>h.elim
def flatF(P:Program)(r:TypeId→Option (List Kd)): List Field→Nat→Option (List Kd)
 | [],_=>some []
 | f :: fs,off=>match r f.type with
  | some ks=>bif Nat.beq f.offset off&&Nat.beq ks.length (P.cellsOf f.type) then(flatF P r fs (off+ks.length)).map (ks ++ ·) else none
  | none=>none
def flat(P:Program): Nat→TypeId→Option (List Kd)
 | 0,_=>none
 | d+1,t=>match P.underlying t with
  | some (.int k)=>some [.int k]
  | some .bool=>some [.bool]
  | some (.struct fs)=>match flatF P (flat P d) fs.toList 0 with
   | some ks=>bif Nat.beq ks.length (P.cellsOf t) then some ks else none
   | none=>none
  | some (.array n e)=>match flat P d e with
   | some ks=>bif Nat.beq ks.length (P.cellsOf e)&&Nat.beq (n*ks.length) (P.cellsOf t) then some (List.replicate n ks).flatten else none
   | none=>none
  | _=>none
section
variable {H:Type} {enc:TypeId×Value→H} {P:Program} {w:World} {base:Nat} {spare:Nat→Bool} {held:Bool}
theorem flatF_fits{r:TypeId→Option (List Kd)}{cs:List Value}: ∀(fs:List Field) (off:Nat) (ks:List Kd),flatF P r fs off=some ks→off+ks.length=cs.length→
  (∀f∈fs,∀ks,r f.type=some ks→FitsAll ks ((cs.drop f.offset).take (P.cellsOf f.type)))→FitsAll ks (cs.drop off)
 | [],off,ks,h,hl,_=>by
  simp only [flatF,Option.some.injEq] at h
  subst h
  rw [List.drop_eq_nil_of_le (by simp at hl; omega)]
  trivial
 | f :: fs,off,ks,h,hl,hf=>by
  simp only [flatF] at h
  split at h
  ·rename_i ks1 hr
   cases hc:(Nat.beq f.offset off&&Nat.beq ks1.length (P.cellsOf f.type)) with
   | false=>rw [hc] at h; simp at h
   | true=>
    rw [hc] at h
    simp only [cond_true,Option.map_eq_some_iff] at h
    obtain⟨ks2,h2,rfl⟩:=h
    simp only [Bool.and_eq_true,Nat.beq_eq] at hc
    have h1:=hf f (List.mem_cons_self ..) ks1 hr
    rw [hc.1,←hc.2] at h1
    rw [List.length_append] at hl
    have ih:=flatF_fits fs (off+ks1.length) ks2 h2 (by omega) (fun g hg=>hf g (List.mem_cons_of_mem _ hg))
    have:=h1.append ih
    rw [←List.drop_drop,List.take_append_drop] at this
    exact this
  ·simp at h
theorem rep_fits{ks:List Kd}: ∀(n:Nat) (cs:List Value),cs.length=n*ks.length→(∀i,i<n→FitsAll ks ((cs.drop (i*ks.length)).take ks.length))→FitsAll (List.replicate n ks).flatten cs
 | 0,cs,h,_=>by
  have:cs=[]:=List.eq_nil_of_length_eq_zero (by simpa using h)
  subst this; trivial
 | n+1,cs,h,hi=>by
  have h0:=hi 0 (by omega)
  simp only [Nat.zero_mul,List.drop_zero] at h0
  rw [List.replicate_succ,List.flatten_cons,←List.take_append_drop ks.length cs]
  refine h0.append (rep_fits n _ (by rw [List.length_drop,h,Nat.succ_mul]; omega) fun i hin => ?_)
  have:=hi (i+1) (by omega)
  rw [List.drop_drop]
  rw [Nat.succ_mul,Nat.add_comm] at this
  exact this
theorem trod_flat: ∀(d:Nat) {t:TypeId} {ks:List Kd} {fuel:Nat} {cs:List Value} {x:DataW H×List MemPlace},flat P d t=some ks→DataW.trod enc P w base spare held fuel t cs=some x→FitsAll ks cs
 | 0,_,_,_,_,_,h,_=>by simp [flat] at h
 | d+1,t,ks,fuel,cs,x,h,ht=>by
  simp only [flat] at h
  split at h
  ·rename_i k hu
   simp only [Option.some.injEq] at h
   subst h
   obtain⟨n,rfl,_,hw⟩:=DataW.trod_int hu ht
   exact⟨⟨n,rfl,hw⟩,trivial⟩
  ·rename_i hu
   simp only [Option.some.injEq] at h
   subst h
   obtain⟨b,rfl,_⟩:=DataW.trod_bool hu ht
   exact⟨⟨b,rfl⟩,trivial⟩
  ·rename_i fs hu
   split at h
   ·rename_i ks' hks
    cases hc:Nat.beq ks'.length (P.cellsOf t) with
    | false=>rw [hc] at h; simp at h
    | true=>
     rw [hc] at h
     simp only [cond_true,Option.some.injEq] at h
     subst h
     rw [Nat.beq_eq] at hc
     obtain⟨xs,n,_,_,hlen,hxl,hf⟩:=DataW.trod_struct hu ht
     have:=flatF_fits (P:=P) (cs:=cs) fs.toList 0 ks' hks (by omega) (by
      intro f hm ks1 hr
      obtain⟨i,hi,hfi⟩:=List.mem_iff_getElem.1 hm
      have hgi:fs[i]? = some f:=by
       rw [←Array.getElem?_toList,List.getElem?_eq_getElem hi,hfi]
      have hx:xs[i]? = some (xs[i]'(by rw [hxl]; simpa using hi)):=List.getElem?_eq_getElem _
      exact trod_flat d hr ((hf i f hgi).trans hx))
     simpa using this
   ·simp at h
  ·rename_i n e hu
   split at h
   ·rename_i ks' hks
    cases hc:(Nat.beq ks'.length (P.cellsOf e)&&Nat.beq (n*ks'.length) (P.cellsOf t)) with
    | false=>rw [hc] at h; simp at h
    | true=>
     rw [hc] at h
     simp only [cond_true,Option.some.injEq] at h
     subst h
     simp only [Bool.and_eq_true,Nat.beq_eq] at hc
     obtain⟨xs,m,_,_,hlen,hxl,hf⟩:=DataW.trod_array hu ht
     refine rep_fits n cs (by omega) fun i hi => ?_
     have hx:xs[i]? = some (xs[i]'(by omega)):=List.getElem?_eq_getElem _
     have:=hf i hi
     rw [←hc.1] at this
     exact trod_flat d hks (this.trans hx)
   ·simp at h
  ·simp at h
theorem open_flat(d:Nat){t:TypeId}{ks:List Kd}{v:Value}{y:DataW H}{ps:List MemPlace}{r0:Go.Reach}{b0:Nat}(hf:flat P d t=some ks)(ha:aggT P t=some true)(hv:Value.okWide P w r0 b0 t v)(h:DataW.Trod enc P w base spare held t v y ps):
  ∃cs,v = .agg cs∧FitsAll ks cs.toList:=by
 have:∃cs,v = .agg cs:=by
  unfold aggT at ha
  unfold Value.okWide at hv
  split at ha
  ·rename_i fs hu; rw [hu] at hv; obtain⟨cs,h1,_⟩:=hv; exact⟨cs,h1⟩
  ·rename_i n e hu; rw [hu] at hv; obtain⟨cs,h1,_⟩:=hv; exact⟨cs,h1⟩
  ·simp at ha
  ·simp at ha
 obtain⟨cs,rfl⟩:=this
 obtain⟨fuel,hx⟩:=h
 exact⟨cs,rfl,trod_flat d hf hx⟩
theorem rows_of{α : Type}{en : α→List Value}{Q : α→Prop}{sz:Nat}(hz:Sized en sz): ∀(n:Nat) (cs:List Value),cs.length=n*sz→(∀i,i<n→∃x,(cs.drop (i*sz)).take sz=en x∧Q x)→∃xs:List α,xs.length=n∧cellsOf en xs=cs∧∀x∈xs,Q x
 | 0,cs,h,_=>⟨[],rfl,by have:cs=[]:=List.eq_nil_of_length_eq_zero (by simpa using h); subst this; rfl,by simp⟩
 | n+1,cs,h,hi=>by
  obtain⟨x,hx,hq⟩:=hi 0 (by omega)
  simp only [Nat.zero_mul,List.drop_zero] at hx
  obtain⟨xs,h1,h2,h3⟩:=rows_of hz n (cs.drop sz) (by rw [List.length_drop,h,Nat.succ_mul]; omega) (fun i hin=>by
   have:=hi (i+1) (by omega)
   rw [List.drop_drop]
   rw [Nat.succ_mul,Nat.add_comm] at this
   exact this)
  refine⟨x :: xs,by simp [h1], ?_,fun y hy=>(List.mem_cons.1 hy).elim (fun e=>e▸hq) (h3 y)⟩
  unfold cellsOf at h2 ⊢
  rw [List.flatMap_cons,h2,←hx,List.take_append_drop]
theorem open_rd{α : Type}{en : α→List Value}{d0 : α}{sz:Nat}(hz:Sized en sz){d:Nat}{t e:TypeId}{ks:List Kd}{v:Value}{y:DataW H}{ps:List MemPlace}(ht:P.underlying t=some (.slice e))(hf:flat P d e=some ks)(hs:P.cellsOf e=sz)(h0:0<sz)
  {Q : α→Prop} (hen:∀row,FitsAll ks row→∃x,row=en x∧Q x) {b0:Nat} (hv:Value.okWide P w .any b0 t v) (h:DataW.Trod enc P w base (fun _=>true) held t v y ps) :
  ∃(a:Option Addr) (c:Nat) (xs:List α) (bt:TypeId) (r:Rest) (foot:Ft),v = .slice a xs.length c∧(xs.length≤c∧∀x∈xs,Q x)∧c≤maxLen∧(Ent.rd a c en d0 sz xs bt r).den foot∧Fits foot w∧foot.length≤1∧∀g,(Ent.rd a c en d0 sz xs bt r).den g→∀p∈foot,p∈g:=by
 obtain⟨fuel,hx⟩:=h
 have hcs:v.cells.toList=[v]:=by
  unfold Value.okWide at hv
  rw [ht] at hv
  cases v with
  | agg cs=>
   exfalso
   simp only at hv
   simp [Cell.okWide,Cell.ok,ht] at hv
  | _=>rfl
 rcases Deep.open_slice ht hx with ⟨h1,_⟩ | ⟨a,len,cap,m,n,D,Pl,h1,hb,hl,hm,hmm,_,hi⟩
 ·rw [hcs] at h1
  simp only [List.cons.injEq,and_true] at h1
  subst h1
  refine⟨none,0,[],0,⟨[],[],(0,0)⟩,[],rfl,⟨by simp,by simp⟩,by simp,⟨hz,.inl ⟨rfl,rfl,fun _=>rfl⟩⟩,⟨by simp,by simp⟩,by simp,by simp⟩
 ·rw [hcs] at h1
  simp only [List.cons.injEq,and_true] at h1
  subst h1
  simp only [if_true] at hmm
  subst hmm
  rw [hs] at hi
  by_cases h00:len=0
  ·subst h00
   exact⟨some a,m,[],0,⟨[],[],(0,0)⟩,[],rfl,⟨hl,by simp⟩,hm,⟨hz,.inl ⟨rfl,rfl,fun h=>by cases h⟩⟩,⟨by simp,by simp⟩,by simp,by simp⟩
  ·have hcell:∀i,i<len→∃cs',cs'.length=sz∧FitsAll ks cs'∧∀j,j<sz→w.cell? (a.add (i*sz+j))=cs'[j]? := by
    intro i hin
    obtain⟨cs',hc,htt⟩:=hi i (by omega)
    obtain⟨_,hcl,hat⟩:=World.cells?_some hc
    refine⟨cs',hcl,trod_flat d hf htt,fun j hj => ?_⟩
    rw [←hat j hj,Go.Deep.add_add]
   obtain⟨c0,hc0,_,hat0⟩:=hcell 0 (by omega)
   have hfirst:=hat0 0 h0
   rw [List.getElem?_eq_getElem (by omega)] at hfirst
   obtain⟨b,off,spot⟩:=a
   have hblk:∃arr bt fz,w.heap[b]? = some (.cells arr bt fz)∧spot=none:=by
    have hbb:(Addr.add ⟨b,off,spot⟩ (0*sz+0)).block=b∧(Addr.add ⟨b,off,spot⟩ (0*sz+0)).spot=spot:=by simp [Addr.add]
    unfold World.cell? at hfirst
    rw [hbb.1,hbb.2] at hfirst
    split at hfirst
    ·rename_i arr bt fz hh
     refine⟨arr,bt,fz,hh, ?_⟩
     cases spot with
     | none=>rfl
     | some _=>simp at hfirst
    ·simp at hfirst
   obtain⟨arr,bt,fz,hh,rfl⟩:=hblk
   have hget:∀i,i<len→∀j,j<sz→∃cs',cs'.length=sz∧FitsAll ks cs'∧arr.toList[off+(i*sz+j)]? = cs'[j]? := by
    intro i hin j hj
    obtain⟨cs',h1,h2,h3⟩:=hcell i hin
    have:=h3 j hj
    rw [addr_add] at this
    simp only [World.cell?,hh,Option.isSome_none,Bool.false_eq_true,if_false] at this
    exact⟨cs',h1,h2,by rw [Array.getElem?_toList]; exact this⟩
   have hsize:off+len*sz≤arr.toList.length:=by
    obtain⟨cs',h1,_,h3⟩:=hget (len-1) (by omega) (sz-1) (by omega)
    rw [List.getElem?_eq_getElem (show sz-1<cs'.length by omega)] at h3
    have:=(List.getElem?_eq_some_iff.1 h3).1
    have e:(len-1)*sz+sz=len*sz:=by
     rw [←Nat.succ_mul]; congr 1; omega
    omega
   obtain⟨xs,hxl,hxs,hxq⟩:=rows_of (en:=en) (Q:=Q) hz len ((arr.toList.drop off).take (len*sz)) (by rw [List.length_take,List.length_drop]; omega) (by
    intro i hin
    obtain⟨cs',h1,h2,h3⟩:=hcell i hin
    obtain⟨x,hx,hq⟩:=hen cs' h2
    refine⟨x, ?_,hq⟩
    rw [←hx]
    have hle:i*sz+sz≤len*sz:=by
     rw [←Nat.succ_mul]; exact Nat.mul_le_mul_right _ hin
    apply List.ext_getElem?
    intro j
    by_cases hj:j<sz
    ·have:=h3 j hj
     rw [addr_add] at this
     simp only [World.cell?,hh,Option.isSome_none,Bool.false_eq_true,if_false] at this
     rw [List.getElem?_take_of_lt hj,List.getElem?_drop,List.getElem?_take_of_lt (by omega),List.getElem?_drop,Array.getElem?_toList,this]
    ·rw [List.getElem?_eq_none (by rw [List.length_take]; omega),List.getElem?_eq_none (by omega)])
   have hsplit:arr.toList=arr.toList.take off++cellsOf en xs++arr.toList.drop (off+len*sz):=by
    rw [hxs,List.append_assoc]
    rw [←List.drop_drop,List.take_append_drop,List.take_append_drop]
   have harr:(arr.toList.take off++cellsOf en xs++arr.toList.drop (off+len*sz)).toArray=arr:=by rw [←hsplit]
   refine⟨some ⟨b,off,none⟩,m,xs,bt,⟨arr.toList.take off,arr.toList.drop (off+len*sz),fz⟩,[(b,.cells arr bt fz)],by rw [hxl],⟨by omega,hxq⟩,hm, ?_, ?_,by simp, ?_⟩
   ·refine⟨hz,.inr ⟨b,off,rfl,by simp only [List.length_take]; omega,by omega, ?_⟩⟩
    simp only [harr]
   ·refine⟨by simp, ?_⟩
    intro p hp
    simp only [List.mem_singleton] at hp
    subst hp; exact hh
   ·rintro g ⟨_,⟨hxn,_⟩ | ⟨b',off',he,_,_,rfl⟩⟩ p hp
    ·exfalso
     rw [hxn] at hxl
     simp at hxl; omega
    ·simp only [Option.some.injEq,Addr.mk.injEq,and_true] at he
     obtain⟨rfl,rfl⟩:=he
     simp only [harr]
     exact hp
end
def others(w:World)(foot:Ft): Ft:=(List.range w.heap.size).filterMap fun i=>bif (foot.map (·.1)).contains i then none else(w.heap[i]?).map fun o=>(i,o)
theorem mem_others{w:World}{foot:Ft}{p:Nat×Obj}: p∈others w foot↔p.1<w.heap.size∧p.1∉foot.map (·.1)∧w.heap[p.1]? = some p.2:=by
 unfold others
 simp only [List.mem_filterMap,List.mem_range]
 constructor
 ·rintro⟨i,hi,h⟩
  cases hc:(foot.map (·.1)).contains i with
  | true=>rw [hc] at h; simp at h
  | false=>
   rw [hc] at h
   simp only [cond_false,Option.map_eq_some_iff] at h
   obtain⟨o,ho,rfl⟩:=h
   exact⟨hi,by simpa using hc,ho⟩
 ·rintro⟨h1,h2,h3⟩
  refine⟨p.1,h1, ?_⟩
  have:(foot.map (·.1)).contains p.1=false:=by simpa using h2
  rw [this]
  simp [h3]
theorem others_ids{w:World}{foot:Ft}: (others w foot).map (·.1)=(List.range w.heap.size).filter fun i => !(foot.map (·.1)).contains i:=by
 unfold others
 have:∀l:List Nat,(∀i∈l,i<w.heap.size)→(l.filterMap fun i=>bif (foot.map (·.1)).contains i then none else(w.heap[i]?).map fun o=>(i,o)).map (·.1)=l.filter fun i => !(foot.map (·.1)).contains i:=by
  intro l
  induction l with
  | nil=>intro _; rfl
  | cons i l ih=>
   intro hl
   have ih':=ih fun j hj=>hl j (List.mem_cons_of_mem _ hj)
   have hi:=hl i (List.mem_cons_self ..)
   cases hc:(foot.map (·.1)).contains i with
   | true=>rw [List.filterMap_cons_none (by rw [hc]; rfl),List.filter_cons_of_neg (by rw [hc]; simp)]; exact ih'
   | false=>
    rw [List.filterMap_cons_some (b:=(i,w.heap[i])) (by rw [hc]; simp [hi]),List.filter_cons_of_pos (by rw [hc]; rfl),List.map_cons,ih']
 exact this _ (fun i hi=>by simpa using hi)
theorem law_calls{P:Program}{f:FuncId}{args:Array Value}{v:Value}{L:List Ent}(hS:Ctr P f args L (Ret v L)){W:World}{foot:Ft}(hd:dens L foot)(hfit:Fits foot W)
  (hpin:∀g,dens L g→∀p∈foot,p∈g):Calls P f args W fun e W'=>e = .returned v∧Below W.heap.size W W':=by
 have hall:Fits (foot++others W foot) W:=by
  refine⟨?_, ?_⟩
  ·rw [List.map_append,others_ids,List.nodup_append]
   refine⟨hfit.1,List.nodup_range.filter _, ?_⟩
   intro a ha b hb hab
   subst hab
   simp only [List.mem_filter,Bool.not_eq_true',List.contains_eq_mem,decide_eq_false_iff_not] at hb
   exact hb.2 ha
  ·intro p hp
   rcases List.mem_append.1 hp with hp | hp
   ·exact hfit.2 p hp
   ·exact(mem_others.1 hp).2.2
 refine(hS {f:=others W foot,os:=W.os,tape:=W.tape,output:=W.output} W ⟨foot,hd,hall,rfl,rfl,rfl⟩).mono ?_
 rintro e W' ⟨v',post,rfl,⟨rfl,rfl⟩,g,hg,hfit',h1,h2,h3⟩
 refine⟨rfl, ?_⟩
 have hblock:∀k,k<W.heap.size→W'.heap[k]? = W.heap[k]? := by
  intro k hk
  by_cases hm:k∈foot.map (·.1)
  ·obtain⟨p,hp,rfl⟩:=List.mem_map.1 hm
   rw [hfit.2 p hp]
   exact hfit'.2 p (List.mem_append_left _ (hpin g hg p hp))
  ·have ho:W.heap[k]? = some W.heap[k]:=by simp [hk]
   rw [ho]
   exact hfit'.2 (k,W.heap[k]) (List.mem_append_right _ (mem_others.2 ⟨hk,hm,ho⟩))
 refine⟨h1,h2,h3, ?_,hblock⟩
 by_cases h0:W.heap.size=0
 ·omega
 ·have:=hblock (W.heap.size-1) (by omega)
  rw [show W.heap[W.heap.size-1]? = some (W.heap[W.heap.size-1]'(by omega)) by simp] at this
  have:=(Array.getElem?_eq_some_iff.1 this).1
  omega
section
variable {H:Type} {enc:TypeId×Value→H} {P:Program}
theorem stays_all(hl:laidOutB P=true){W W':World}(hb:Below W.heap.size W W'){sp:Nat→Bool}: ∀ {ts:List TypeId} {vs:List Value} {ds:List (DataW H)} {ps:List MemPlace},(∀t∈ts,P.readableRec t=true∧t<P.types.size)→
  DataW.TrodAll enc P W 0 (fun _=>true) true ts vs ds ps→(∀x∈ps,x.block<W.heap.size)→(∀x∈ps,sp x.block=true)→DataW.TrodAll enc P W' 0 sp true ts vs ds ps
 | [],[],[],_,_,h,_,_=>h
 | t :: ts,v :: vs,d :: ds,ps,hr,⟨p,q,h1,h2,e⟩,hlt,hs=>by
  subst e
  refine⟨p,q,WideElems.Trod_stays hl (hr t (List.mem_cons_self ..)).1 (hr t (List.mem_cons_self ..)).2 h1 (fun x hx=>hb.same (hlt x (List.mem_append_left _ hx))) (fun x hx=>hs x (List.mem_append_left _ hx)), ?_,rfl⟩
  exact stays_all hl hb (fun t ht=>hr t (List.mem_cons_of_mem _ ht)) h2 (fun x hx=>hlt x (List.mem_append_right _ hx)) (fun x hx=>hs x (List.mem_append_right _ hx))
 | [],_ :: _,_,_,_,h,_,_=>h.elim
 | [],[],_ :: _,_,_,h,_,_=>h.elim
 | _ :: _,[],_,_,_,h,_,_=>h.elim
 | _ :: _,_ :: _,[],_,_,h,_,_=>h.elim
theorem stays_list(hl:laidOutB P=true){W W':World}(hb:Below W.heap.size W W'){sp:Nat→Bool}{ts:List TypeId}{vs:List Value}{ds:List (DataW H)}{ps:List MemPlace}(hr:ts.all (fun t=>P.readableRec t&&Nat.blt t P.types.size)=true)
  (h:DataW.TrodAll enc P W 0 (fun _=>true) true ts vs ds ps) (hlt:∀x∈ps,x.block<W.heap.size) (hs:∀x∈ps,sp x.block=true):DataW.TrodAll enc P W' 0 sp true ts vs ds ps:=by
 refine stays_all hl hb (fun t ht => ?_) h hlt hs
 have:=List.all_eq_true.1 hr t ht
 simp only [Bool.and_eq_true,Nat.blt_eq] at this
 exact this
theorem law_post{f:Func}{s:ChangeSpec}{apart fresh handsOn again:Bool}{W W':World}{args:Array Value}{v:Value}{ds gs:List (DataW H)}{before:List MemPlace}
  (hW:DataW.Whole enc P f.params.toList s.vars apart W args.toList ds gs before)
  (hres:∀(b:Nat) (sp:Nat→Bool) (hd:Bool),DataW.TrodAll enc P W' b sp hd f.resultTypes.toList (v.resultList f.resultTypes.size) (s.fn H (ds++gs)).results [])
  (hargs:∀sp:Nat→Bool,(∀p∈before,sp p.block=true)→DataW.TrodAll enc P W' 0 sp true f.params.toList args.toList (s.fn H (ds++gs)).args before)
  (hvars:∀sp:Nat→Bool,DataW.TrodVars enc P W' sp s.vars (s.fn H (ds++gs)).vars []) (hb:Below W.heap.size W W')
  (hok:∀(j:Nat) (t:TypeId) (r:Value),f.resultTypes[j]? = some t→(v.resultList f.resultTypes.size)[j]? = some r→Value.okWide P W' .any 0 t r) :
  s.post enc P f apart fresh handsOn again W args v W':=by
 have hlt:∀p∈before,p.block<W.heap.size:=fun p hp=>hW.lt p hp
 have hold:∀p∈before,(fun b=>decide (b<W.heap.size)) p.block=true:=fun p hp=>by simpa using hlt p hp
 refine⟨ds,gs,before,[],before,[],hW,hres _ _ _,hargs _ hold,hvars _,World.keptBut_mono (fun p hp=>⟨hp,.inr (.inl hp)⟩) (hb.frame (·∈before)),fun _ => ?_⟩
 obtain⟨_,_,_,_,_,hz,hn⟩:=hW
 refine⟨hok,_,_,([]++before)++[],⟨[]++before,[],trodAll_append (hargs _ (fun _ _=>rfl)) (hres _ _ _),hvars _,rfl, ?_, ?_⟩, ?_⟩
 ·intro b off hp
  have hin:MemPlace.cell b off∈before:=by simpa using hp
  rw [hb.frozen (hlt _ hin)]
  exact hz b off hin
 ·intro ha
  have:=hn ha
  simpa using this
 ·intro p hp _
  simpa using hp
end
end Go.Sx

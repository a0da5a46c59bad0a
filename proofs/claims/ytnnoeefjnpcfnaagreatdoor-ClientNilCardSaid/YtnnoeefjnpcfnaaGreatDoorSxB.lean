/- Footprints, an executor over the program and its soundness, and the rules for calls, loops and regions: no program in sight, part 2 of those on which ClientNil rests. -/
import Derived.Test.YtnnoeefjnpcfnaaGreatDoorSxA
import Derived.DeepKeys
import Derived.ProofKit
import Derived.Deep.Slices
import Derived.OpenShut
import Derived.WideKeyArgs

set_option linter.unusedVariables false
set_option linter.unusedSimpArgs false
/- Regions whose order is drawn: what looks alone comes when it may, what writes comes order by order. -/
namespace Go.Sx
inductive Lk
 | h (h:Hn)
 | q (v:Value)
 | cut (v:Value)
 | get (v:Value)
 | ip (v:Value)
 | ld (v:Value)
 | eq (v:Value)
/-- an operation of such a kind gives this value, and leaves what is owned as it is -/
def LawQ{α : Type}(P:Program)(F:Fr)(L:List Ent)(v:Value)(A:Program→TM→Oper→Option α)(info : α): Prop:=
 ∀(tm:TM) (o:Oper),A P tm o=some info→Runs P F o (execOp tm.eval o) L (fun u L'=>u=v∧L'=L)
def eqO(_:Program)(tm:TM)(o:Oper): Option (Bool×TypeId×Value×Value):=
 match o.op with
 | .binOp .eql t x y _=>some (true,t,tm.eval x,tm.eval y)
 | .binOp .neq t x y _=>some (false,t,tm.eval x,tm.eval y)
 | _=>none
def callO(_:Program)(tm:TM)(o:Oper): Option (FuncId×Array Value):=calleeOf tm o
theorem law_call{P:Program}{F:Fr}{L:List Ent}{v:Value}{f:FuncId}{args:Array Value}(hen:Enters P f)(hq:QuietCall P F L f args v): LawQ P F L v callO (f,args):=by
 intro tm o h a w K Q hin hk
 unfold callO calleeOf at h
 split at h
 ·rename_i c hop
  split at h
  ·rename_i x hx
   split at h
   ·rename_i f' first captured hfv
    simp only [Option.some.injEq,Prod.mk.injEq] at h
    obtain⟨rfl,rfl⟩:=h
    have hr:(execOp tm.eval o).run P w = .ok (.enter f' ((first++c.args.map tm.eval)++captured)) w:=by
     simp only [execOp,hop,resolve,hx,hfv,Deferred.ofValue,Sem.run_bind,Sem.run_pure,Result.andThen_ok,invoke]
     exact hen _ _
    rw [hr]
    refine(hq w hin).mono ?_
    rintro e w' ⟨rfl,hi'⟩
    exact hk _ _ w' ⟨rfl,rfl⟩ hi'
   ·simp at h
  ·simp at h
 ·simp at h
def lookQ(P:Program)(F:Fr)(L:List Ent)(o:Oper)(T:TM): Lk→Option (List Prop×Value)
 | .h h=>bif readOnly o h then flatQ (opS P o h T L) else opP P o h T
 | .q v=>(callO P T o).map fun i=>([LawQ P F L v callO i],v)
 | .cut v=>(cutO P T o).map fun i=>([LawQ P F L v cutO i],v)
 | .get v=>(getO P T o).map fun i=>([LawQ P F L v getO i],v)
 | .ip v=>(ipO P T o).map fun i=>([LawQ P F L v ipO i],v)
 | .ld v=>(ldO P T o).map fun i=>([LawQ P F L v ldO i],v)
 | .eq v=>(eqO P T o).map fun i=>([LawQ P F L v eqO i],v)
theorem lookQ_runs{P:Program}{F:Fr}{L:List Ent}{o:Oper}{T:TM}{k:Lk}{ps:List Prop}{v:Value}(h:lookQ P F L o T k=some (ps,v))(hp:allP ps):
  Runs P F o (execOp T.eval o) L (fun u L'=>u=v∧L'=L):=by
 cases k with
 | h hh=>
  change (bif readOnly o hh then flatQ (opS P o hh T L) else opP P o hh T)=some (ps,v) at h
  cases hr:readOnly o hh with
  | true=>
   rw [hr] at h
   intro a w K Q hin hk
   obtain⟨w',hrun,hi'⟩:=opL_run hr hin h hp
   rw [hrun]
   exact hk _ _ w' ⟨rfl,rfl⟩ hi'
  | false=>
   rw [hr] at h
   intro a w K Q hin hk
   rw [opP_run h hp w]
   exact hk _ _ w ⟨rfl,rfl⟩ hin
 | q u=>simp only [lookQ,Option.map_eq_some_iff] at h; obtain⟨i,hi,he⟩:=h; simp only [Prod.mk.injEq] at he; obtain⟨rfl,rfl⟩:=he; exact hp.1 T o hi
 | cut u=>simp only [lookQ,Option.map_eq_some_iff] at h; obtain⟨i,hi,he⟩:=h; simp only [Prod.mk.injEq] at he; obtain⟨rfl,rfl⟩:=he; exact hp.1 T o hi
 | get u=>simp only [lookQ,Option.map_eq_some_iff] at h; obtain⟨i,hi,he⟩:=h; simp only [Prod.mk.injEq] at he; obtain⟨rfl,rfl⟩:=he; exact hp.1 T o hi
 | ip u=>simp only [lookQ,Option.map_eq_some_iff] at h; obtain⟨i,hi,he⟩:=h; simp only [Prod.mk.injEq] at he; obtain⟨rfl,rfl⟩:=he; exact hp.1 T o hi
 | ld u=>simp only [lookQ,Option.map_eq_some_iff] at h; obtain⟨i,hi,he⟩:=h; simp only [Prod.mk.injEq] at he; obtain⟨rfl,rfl⟩:=he; exact hp.1 T o hi
 | eq u=>simp only [lookQ,Option.map_eq_some_iff] at h; obtain⟨i,hi,he⟩:=h; simp only [Prod.mk.injEq] at he; obtain⟨rfl,rfl⟩:=he; exact hp.1 T o hi
/-- the operations that look alone, in an order in which they may come: the temporaries that they make, and what is owed -/
def runV(P:Program)(F:Fr)(ops:Array Oper)(nt:Nat)(L:List Ent): List (Nat×Lk)→TM→Option (TM×List Prop)
 | [],T=>some (T,[])
 | (i,k) :: r,T=>
  match ops[i]? with
  | none=>none
  | some o=>
   bif dstOk nt o.dst && !isSelect o.op&&waits ops o&&fresh T o.dst then
    match guardOf ops o T with
    | none=>none
    | some false=>runV P F ops nt L r (putT o.dst undef T)
    | some true=>bif o.op.operands.all T.knows then
      match lookQ P F L o T k with
      | some (ps,v)=>match runV P F ops nt L r (putT o.dst v T) with
       | some (T',qs)=>some (T',ps++qs)
       | none=>none
      | none=>none
     else none
   else none
structure Evid (P:Program) (F:Fr) (ops:Array Oper) (nt:Nat) (L:List Ent) (T':TM) (i:Nat) (o:Oper) (T:TM):Prop where
 op:ops[i]? = some o
 dst:dstOk nt o.dst=true
 sel:isSelect o.op=false
 waits:waits ops o=true
 mono:∀t v,T.get t=some v→T'.get t=some v
 how:(guardOf ops o T=some false∧∀d,o.dst=some d→T'.get d=some undef)∨
  (guardOf ops o T=some true∧o.op.operands.all T.knows=true∧∃v,(∀d,o.dst=some d→T'.get d=some v)∧Runs P F o (execOp T.eval o) L (fun u L'=>u=v∧L'=L))
theorem runV_spec{P:Program}{F:Fr}{ops:Array Oper}{nt:Nat}{L:List Ent}: ∀(r:List (Nat×Lk)) (T:TM) {T':TM} {ps:List Prop},runV P F ops nt L r T=some (T',ps)→allP ps→
  (∀t v,T.get t=some v→T'.get t=some v)∧(∀t,(∀i k o,(i,k)∈r→ops[i]? = some o→o.dst≠some t)→T'.get t=T.get t)∧
  (∀i k,(i,k)∈r→∃o T0,Evid P F ops nt L T' i o T0)
 | [],T,T',ps,h,_=>by
  simp only [runV,Option.some.injEq,Prod.mk.injEq] at h
  obtain⟨rfl,rfl⟩:=h
  exact⟨fun _ _ h=>h,fun _ _=>rfl,fun _ _ h=>by cases h⟩
 | (i,k) :: r,T,T',ps,h,hp=>by
  simp only [runV] at h
  split at h
  ·simp at h
  ·rename_i o ho
   cases hc:(dstOk nt o.dst && !isSelect o.op&&waits ops o&&fresh T o.dst) with
   | false=>rw [hc] at h; simp at h
   | true=>
    rw [hc] at h
    simp only [cond_true] at h
    simp only [Bool.and_eq_true,Bool.not_eq_true'] at hc
    obtain⟨⟨⟨hc1,hc2⟩,hc3⟩,hc4⟩:=hc
    have rest:∀ {v:Value} {T':TM} {qs:List Prop},runV P F ops nt L r (putT o.dst v T)=some (T',qs)→allP qs→
      ((∀d,o.dst=some d→T'.get d=some v)→(∀t v,T.get t=some v→T'.get t=some v)→∃o T0,Evid P F ops nt L T' i o T0)→
      (∀t v,T.get t=some v→T'.get t=some v)∧(∀t,(∀j k' o,(j,k')∈(i,k) :: r→ops[j]? = some o→o.dst≠some t)→T'.get t=T.get t)∧
      (∀j k',(j,k')∈(i,k) :: r→∃o T0,Evid P F ops nt L T' j o T0):=by
     intro v T' qs hr hq hd
     obtain⟨h1,h2,h3⟩:=runV_spec r _ hr hq
     have hm:∀t u,T.get t=some u→T'.get t=some u:=fun t u hu=>h1 t u (putT_mono hc4 hu)
     refine⟨hm, ?_, ?_⟩
     ·intro t ht
      rw [h2 t (fun j k' o' hj=>ht j k' o' (List.mem_cons_of_mem _ hj)),putT_get,if_neg (ht i k o (List.mem_cons_self ..) ho)]
     ·intro j k' hj
      rcases List.mem_cons.1 hj with he | hj
      ·simp only [Prod.mk.injEq] at he
       obtain⟨rfl,rfl⟩:=he
       refine hd ?_ hm
       intro d hd'
       exact h1 d v (by rw [putT_get,if_pos hd'])
      ·exact h3 j k' hj
    split at h
    ·simp at h
    ·rename_i hg
     exact rest h hp fun hd hm=>⟨o,T,ho,hc1,hc2,hc3,hm,.inl ⟨hg,hd⟩⟩
    ·rename_i hg
     cases hkn:o.op.operands.all T.knows with
     | false=>rw [hkn] at h; simp at h
     | true=>
      rw [hkn] at h
      simp only [cond_true] at h
      split at h
      ·rename_i qs v hq
       split at h
       ·rename_i T'' qs' hr
        simp only [Option.some.injEq,Prod.mk.injEq] at h
        obtain⟨rfl,rfl⟩:=h
        obtain⟨p1,p2⟩:=(allP_append _ _).1 hp
        exact rest hr p2 fun hd hm=>⟨o,T,ho,hc1,hc2,hc3,hm,.inr ⟨hg,hkn,v,hd,lookQ_runs hq p1⟩⟩
       ·simp at h
      ·simp at h
section
variable {P:Program} {fn:Func} {body:Code} {nt:Nat} {F:Fr} {R:Ending→World→Prop}
/-- what is listed in truth, of what is taken for listed -/
structure Lr (ops:Array Oper) (nt:Nat) (l:Array Bool) (V:List Nat) (T:TM) (lr:Array Bool) (a:Act):Prop where
 size:lr.size=ops.size
 lsize:l.size=ops.size
 sub:∀i,lr.getD i false=true→l.getD i false=true
 late:∀i,i<ops.size→l.getD i false=true→lr.getD i false=false→i∈V
 closed:∀i o,ops[i]? = some o→lr.getD i false=true→∀j∈depsOf o,lr.getD j false=true
 tls:TLs nt ops T lr a
/-- the rest of a region, some operations of which are taken for done -/
def Lz(P:Program)(fn:Func)(body:Code)(nt:Nat)(F:Fr)(R:Ending→World→Prop)(ops:Array Oper)(ks:List Kont)(l:Array Bool)(V:List Nat)(T:TM)(L:List Ent): Prop:=
 ∀lr a w fuel,countNo lr≤fuel→Lr ops nt l V T lr a→In L F w→wpAny P .any ops (KQ P fn body R ks) fuel lr a w
/-- one operation that may come now -/
def LzOp(P:Program)(fn:Func)(body:Code)(nt:Nat)(F:Fr)(R:Ending→World→Prop)(ops:Array Oper)(ks:List Kont)(l:Array Bool)(V:List Nat)(T:TM)(L:List Ent)(i:Nat): Prop:=
 ∀lr a w fuel,countNo lr≤fuel+1→Lr ops nt l V T lr a→In L F w→lr.getD i true=false→(∀o,ops[i]? = some o→∀j∈depsOf o,lr.getD j false=true)→
  wpOp P ops (KQ P fn body R ks) i (wpAny P .any ops (KQ P fn body R ks) fuel (lr.setIfInBounds i true)) a w
theorem evid_step{ops:Array Oper}{lr:Array Bool}{a:Act}{w:World}{Q:Exit→Act→World→Prop}{K:Act→World→Prop}{L:List Ent}{T':TM}{i:Nat}{o:Oper}{T0:TM}(hD:Evid P F ops nt L T' i o T0)
  (hTL:TLs nt ops T' lr a) (hd:∀j∈depsOf o,lr.getD j false=true) (hin:In L F w) (hK:∀v w',(∀d,o.dst=some d→T'.get d=some v)→In L F w'→K (a.put o.dst v) w'):wpOp P ops Q i K a w:=by
 have hwt:=hD.waits
 simp only [waits,Bool.and_eq_true,List.all_eq_true] at hwt
 have hwanted:∀ {g:Bool},guardOf ops o T0=some g→Region.wanted o (yielded ops a.tmps)=g:=by
  intro g hg
  refine guardOf_wanted' ?_ hg
  intro t v ht hv
  have:=hwt.2
  rw [ht] at this
  exact made_known hTL hd this (hD.mono t v hv)
 unfold wpOp
 rw [hD.op]
 simp only
 rcases hD.how with ⟨hg,hv⟩ | ⟨hg,hk,v,hv,hr⟩
 ·rw [hwanted hg]
  simp only [Bool.false_eq_true,if_false]
  exact hK undef w hv hin
 ·rw [hwanted hg]
  simp only [if_true]
  refine .inl ?_
  unfold Oper.wp
  have he:execOp a.eval o=execOp T0.eval o:=by
   refine execOp_congr o (fun cs b he=>by have:=hD.sel; rw [he] at this; simp [isSelect] at this) fun x hx => ?_
   have hkx:=Array.all_eq_true_iff_forall_mem.1 hk x hx
   cases x with
   | tmp t=>
    simp only [TM.knows,Option.isSome_iff_exists] at hkx
    obtain⟨v,hv⟩:=hkx
    have hm:=hwt.1 (.tmp t) (by simpa using hx)
    have:=made_known hTL hd hm (hD.mono t v hv)
    simp [Act.eval,TM.eval,hv,this]
   | _=>rfl
  rw [he]
  refine hr a w _ _ hin ?_
  rintro u L' w' ⟨rfl,rfl⟩ hi'
  exact hK _ w' hv hi'
theorem closed_set{ops:Array Oper}{lr:Array Bool}{i:Nat}{o:Oper}(hc:∀i o,ops[i]? = some o→lr.getD i false=true→∀j∈depsOf o,lr.getD j false=true)(ho:ops[i]? = some o)(hd:∀j∈depsOf o,lr.getD j false=true):
  ∀k o',ops[k]? = some o'→(lr.setIfInBounds i true).getD k false=true→∀j∈depsOf o',(lr.setIfInBounds i true).getD j false=true:=by
 intro k o' hk hl j hj
 rw [listed_set] at hl ⊢
 rcases hl with ⟨rfl,_⟩ | hl
 ·rw [ho] at hk
  simp only [Option.some.injEq] at hk
  subst hk
  exact .inr (hd j hj)
 ·exact .inr (hc k o' hk hl j hj)
/-- those that look alone come when they may; the others, one by one -/
theorem lz_aux{ops:Array Oper}{ks:List Kont}{l:Array Bool}{V:List Nat}{T:TM}{L:List Ent}(hac:acyclic ops=true)(hls:l.size=ops.size)
  (hE:∀i∈V,∃o T0,Evid P F ops nt L T i o T0) (hend:(∀i,i<ops.size→l.getD i false=true)→Go P fn body nt F R ks T L)
  (hop:∀i,i<ops.size→l.getD i false=false→(∀o,ops[i]? = some o→∀j∈depsOf o,l.getD j false=true)→LzOp P fn body nt F R ops ks l V T L i):Lz P fn body nt F R ops ks l V T L:=by
 intro lr a w fuel
 induction fuel generalizing lr a w with
 | zero=>
  intro hf hl hi
  have hr:Region.ready .any ops lr=[]:=by
   rw [List.eq_nil_iff_forall_not_mem]
   intro i hm
   have:=countNo_set lr i (mem_ready.1 hm).2.1
   omega
  have hall:=ready_nil hac hl.size hr
  refine wpAny_done hr (hend (fun i hlt=>hl.sub i (hall i hlt)) a w ⟨hl.tls.1,fun t v hv=>hl.tls.2.2 t v hv fun j oj hj _=>hall j (Array.getElem?_eq_some_iff.1 hj).1,hl.tls.2.1⟩ hi) 0
 | succ fuel ih=>
  intro hf hl hi
  by_cases hr:Region.ready .any ops lr=[]
  ·have hall:=ready_nil hac hl.size hr
   exact wpAny_done hr (hend (fun i hlt=>hl.sub i (hall i hlt)) a w ⟨hl.tls.1,fun t v hv=>hl.tls.2.2 t v hv fun j oj hj _=>hall j (Array.getElem?_eq_some_iff.1 hj).1,hl.tls.2.1⟩ hi) _
  ·refine wpAny_all rfl hr fun i hm => ?_
   obtain⟨hlt,hno,o',ho',hdeps⟩:=mem_ready.1 hm
   have hdeps':∀o,ops[i]? = some o→∀j∈depsOf o,lr.getD j false=true:=by
    intro o ho
    rw [ho'] at ho
    simp only [Option.some.injEq] at ho
    subst ho; exact hdeps
   have hno':lr.getD i false=false:=by
    have:i<lr.size:=by rw [hl.size]; exact hlt
    simpa [Array.getD_eq_getD_getElem?,this] using hno
   cases hli:l.getD i false with
   | true=>
    obtain⟨o,T0,hD⟩:=hE i (hl.late i hlt hli hno')
    refine evid_step hD hl.tls (hdeps' o hD.op) hi ?_
    intro v w' hv hi'
    have hcn:=countNo_set lr i hno
    refine ih _ _ w' (by omega) ⟨by simpa using hl.size,hl.lsize, ?_, ?_,closed_set hl.closed hD.op (hdeps' o hD.op),TLs_put hl.tls hD.op hD.dst hv⟩ hi'
    ·intro k hk
     rw [listed_set] at hk
     rcases hk with ⟨rfl,_⟩ | hk
     ·exact hli
     ·exact hl.sub k hk
    ·intro k hk1 hk2 hk3
     refine hl.late k hk1 hk2 ?_
     cases hx:lr.getD k false with
     | false=>rfl
     | true=>exfalso; rw [listed_set.2 (.inr hx)] at hk3; cases hk3
   | false=>exact hop i hlt hli (fun o ho j hj=>hl.sub j (hdeps' o ho j hj)) lr a w fuel hf hl hi hno (hdeps' ·)
def markAll(l:Array Bool): List Nat→Array Bool
 | []=>l
 | i :: is=>markAll (l.setIfInBounds i true) is
theorem markAll_get: ∀(is:List Nat) (l:Array Bool) (j:Nat),(markAll l is).getD j false=true→j∈is∨l.getD j false=true
 | [],_,_,h=>.inr h
 | i :: is,l,j,h=>by
  rcases markAll_get is _ j h with h | h
  ·exact .inl (List.mem_cons_of_mem _ h)
  ·rw [listed_set] at h
   rcases h with ⟨rfl,_⟩ | h
   ·exact .inl (List.mem_cons_self ..)
   ·exact .inr h
theorem markAll_mono: ∀(is:List Nat) (l:Array Bool) (j:Nat),l.getD j false=true→(markAll l is).getD j false=true
 | [],_,_,h=>h
 | i :: is,l,j,h=>markAll_mono is _ j (listed_set.2 (.inr h))
theorem markAll_size: ∀(is:List Nat) (l:Array Bool),(markAll l is).size=l.size
 | [],_=>rfl
 | i :: is,l=>by rw [markAll,markAll_size is]; simp
/-- the temporaries that these operations make -/
def dstsOf(ops:Array Oper)(V:List Nat): List Nat:=V.filterMap fun i=>(ops[i]?).bind (·.dst)
def without(T:TM)(ds:List Nat): TM:=T.filter fun x => !hasNat ds x.1
theorem without_get{T:TM}{ds:List Nat}{t:Nat}{v:Value}(h:(without T ds).get t=some v): T.get t=some v∧hasNat ds t=false:=by
 induction T with
 | nil=>simp [without,TM.get] at h
 | cons x T ih=>
  obtain⟨k,u⟩:=x
  by_cases hk:hasNat ds k=true
  ·have e:without ((k,u) :: T) ds=without T ds:=by simp [without,hk]
   rw [e] at h
   obtain⟨h1,h2⟩:=ih h
   refine⟨?_,h2⟩
   rw [TM.get_cons]
   split
   ·rename_i he; subst he; rw [hk] at h2; cases h2
   ·exact h1
  ·have hk':hasNat ds k=false:=by simpa using hk
   have e:without ((k,u) :: T) ds=(k,u) :: without T ds:=by simp [without,hk']
   rw [e,TM.get_cons] at h
   rw [TM.get_cons]
   split at h
   ·rename_i he; subst he; rw [if_pos rfl]; exact⟨h,hk'⟩
   ·rename_i he; rw [if_neg he]; exact ih h
/-- what may come now -/
def readyV(ops:Array Oper)(l:Array Bool): List Nat:=
 (List.range ops.size).filter fun i=>match ops[i]? with
  | some o => !l.getD i false&&(depsOf o).all (fun j=>l.getD j false)
  | none=>false
/-- a node: what is looked at now (KV: all that are not surely done; the last ones, from `KA`, anew) -/
def nodeV(P:Program)(F:Fr)(ops:Array Oper)(nt:Nat)(l:Array Bool)(V KA:List Nat)(KV:List (Nat×Lk))(T:TM)(L:List Ent): Option (TM×List Prop):=
 bif acyclic ops&&Nat.beq l.size ops.size&&KA.all (fun i=>Nat.blt i ops.size && !l.getD i false)&&V.all (fun i=>hasNat (KV.map (·.1)) i)&&KA.all (fun i=>hasNat (KV.map (·.1)) i)&&(KV.map (·.1)).all (fun i=>hasNat V i||hasNat KA i) then
  runV P F ops nt L KV (without T (dstsOf ops (KV.map (·.1))))
 else none
theorem restrict_get_of{T T':TM}: ∀ {ds:List Nat} {t:Nat} {v:Value},T.restrict ds=T'.restrict ds→t∈ds→T'.get t=some v→T.get t=some v:=by
 have key:∀(T:TM) (ds:List Nat) (t:Nat) (v:Value),t∈ds→T.get t=some v→(T.restrict ds).get t=some v:=by
  intro T ds
  induction ds with
  | nil=>intro t v h; cases h
  | cons d ds ih=>
   intro t v hm hv
   simp only [TM.restrict]
   by_cases hd:d=t
   ·subst hd; rw [hv]; simp [TM.get]
   ·have hm':t∈ds:=by
     rcases List.mem_cons.1 hm with h | h
     ·exact absurd h.symm hd
     ·exact h
    split
    ·rw [TM.get_cons,if_neg hd]; exact ih t v hm' hv
    ·exact ih t v hm' hv
 intro ds t v he hm hv
 have:=key T' ds t v hm hv
 rw [←he] at this
 exact T.restrict_get ds t v this
theorem lz_enter{ops:Array Oper}{l:Array Bool}{V KA:List Nat}{KV:List (Nat×Lk)}{T T1:TM}{L:List Ent}{ps:List Prop}
  (h:nodeV P F ops nt l V KA KV T L=some (T1,ps)) (hp:allP ps) (hold:T1.restrict (dstsOf ops V)=T.restrict (dstsOf ops V)) :
  acyclic ops=true∧l.size=ops.size∧(∀i∈V++KA,∃o T0,Evid P F ops nt L T1 i o T0)∧
   ∀lr a,Lr ops nt l V T lr a→Lr ops nt (markAll l KA) (V++KA) T1 lr a:=by
 unfold nodeV at h
 cases hc:(acyclic ops&&Nat.beq l.size ops.size&&KA.all (fun i=>Nat.blt i ops.size && !l.getD i false)&&V.all (fun i=>hasNat (KV.map (·.1)) i)&&KA.all (fun i=>hasNat (KV.map (·.1)) i)&&(KV.map (·.1)).all (fun i=>hasNat V i||hasNat KA i)) with
 | false=>rw [hc] at h; simp at h
 | true=>
  rw [hc] at h
  simp only [cond_true] at h
  simp only [Bool.and_eq_true,Nat.beq_eq,List.all_eq_true,Bool.not_eq_true',Nat.blt_eq,Bool.or_eq_true] at hc
  obtain⟨⟨⟨⟨⟨hac,hls⟩,hKA⟩,hV⟩,hKA2⟩,hcov⟩:=hc
  obtain⟨h1,h2,h3⟩:=runV_spec _ _ h hp
  have memOf:∀ {i:Nat},hasNat (KV.map (·.1)) i=true→∃k,(i,k)∈KV:=by
   intro i hm
   obtain⟨⟨j,k⟩,hm',rfl⟩:=List.mem_map.1 (hasNat_mem hm)
   exact⟨k,hm'⟩
  refine⟨hac,hls, ?_, ?_⟩
  ·intro i hi
   rcases List.mem_append.1 hi with hi | hi
   ·obtain⟨k,hm⟩:=memOf (hV i hi); exact h3 i k hm
   ·obtain⟨k,hm⟩:=memOf (hKA2 i hi); exact h3 i k hm
  ·intro lr a hl
   refine⟨hl.size,by rw [markAll_size]; exact hl.lsize,fun i hi=>markAll_mono _ _ _ (hl.sub i hi), ?_,hl.closed,hl.tls.1,hl.tls.2.1, ?_⟩
   ·intro i hlt hi hno
    rcases markAll_get _ _ _ hi with hi | hi
    ·exact List.mem_append_right _ hi
    ·exact List.mem_append_left _ (hl.late i hlt hi hno)
   ·intro t v hv hlisted
    by_cases hex:∃i k o,(i,k)∈KV∧ops[i]? = some o∧o.dst=some t
    ·obtain⟨i,k,o,hm,ho,hd⟩:=hex
     have hli:=hlisted i o ho hd
     rcases hcov i (List.mem_map_of_mem hm) with hv' | ha
     ·-- an old one: its value is as it was
      have hmem:t∈dstsOf ops V:=by
       simp only [dstsOf,List.mem_filterMap]
       exact⟨i,hasNat_mem hv',by rw [ho]; exact hd⟩
      exact hl.tls.2.2 t v (restrict_get_of hold.symm hmem hv) hlisted
     ·have:=(hKA i (hasNat_mem ha)).2
      have hx:=hl.sub i hli
      rw [this] at hx; cases hx
    ·have hn:T1.get t=(without T (dstsOf ops (KV.map (·.1)))).get t:=h2 t fun i k o hm ho hd=>hex ⟨i,k,o,hm,ho,hd⟩
     rw [hn] at hv
     exact hl.tls.2.2 t v (without_get hv).1 hlisted
theorem Lr.restrict{ops:Array Oper}{l:Array Bool}{V:List Nat}{T:TM}{lr:Array Bool}{a:Act}(h:Lr ops nt l V T lr a)(keep:List Nat): Lr ops nt l V (T.restrict keep) lr a:=
 ⟨h.size,h.lsize,h.sub,h.late,h.closed,h.tls.1,h.tls.2.1,fun t v hv=>h.tls.2.2 t v (T.restrict_get keep t v hv)⟩
/-- a node beyond which something is to be done -/
theorem lz_node{ops:Array Oper}{ks:List Kont}{l l':Array Bool}{V V':List Nat}{T T1:TM}{L:List Ent}{ps:List Prop}(KA:List Nat)(KV:List (Nat×Lk))(keep:List Nat)(rs:List Nat)
  (h:((nodeV P F ops nt l V KA KV T L).map (fun x=>(x.1.restrict keep,x.2,x.1.restrict (dstsOf ops V))),markAll l KA,V++KA,readyV ops (markAll l KA),rs.isEmpty)=(some (T1,ps,T.restrict (dstsOf ops V)),l' ,V',rs,false)) (hp:allP ps)
  (hg:allN (LzOp P fn body nt F R ops ks l' V' T1 L) rs):Lz P fn body nt F R ops ks l V T L:=by
 simp only [Prod.mk.injEq,Option.map_eq_some_iff] at h
 obtain⟨⟨⟨T2,ps2⟩,h1,h2,rfl,h4⟩,rfl,rfl,hrs,hne⟩:=h
 simp only at h2 h4 hp
 subst h2
 obtain⟨hac,hls,hE,hL⟩:=lz_enter h1 hp h4
 have hsz:(markAll l KA).size=ops.size:=by rw [markAll_size]; exact hls
 have hready:∀i,i<ops.size→(markAll l KA).getD i false=false→(∀o,ops[i]? = some o→∀j∈depsOf o,(markAll l KA).getD j false=true)→i∈rs:=by
  intro i hlt hno hd
  rw [←hrs]
  simp only [readyV,List.mem_filter,List.mem_range]
  refine⟨hlt, ?_⟩
  have ho:ops[i]? = some ops[i]:=by simp [hlt]
  rw [ho]
  simp only [Bool.and_eq_true,Bool.not_eq_true',List.all_eq_true]
  exact⟨hno,hd _ ho⟩
 have hnot:∃i,i<ops.size∧(markAll l KA).getD i false=false:=by
  cases hrl:rs with
  | nil=>rw [hrl] at hne; simp at hne
  | cons i is=>
   have hi:i∈readyV ops (markAll l KA):=by rw [hrs,hrl]; exact List.mem_cons_self ..
   simp only [readyV,List.mem_filter,List.mem_range] at hi
   refine⟨i,hi.1, ?_⟩
   have:=hi.2
   split at this
   ·simp only [Bool.and_eq_true,Bool.not_eq_true'] at this; exact this.1
   ·cases this
 intro lr a w fuel hf hl hi
 refine lz_aux (T:=T2) hac hsz hE ?_ ?_ lr a w fuel hf (hL lr a hl) hi
 ·intro hall
  obtain⟨i,h5,h6⟩:=hnot
  rw [hall i h5] at h6; cases h6
 ·intro i hlt hno hd lr a w fuel hf hl hi hn hdd
  exact allN_mem hg i (hready i hlt hno hd) lr a w fuel hf (hl.restrict keep) hi hn hdd
/-- the last node -/
theorem lz_end{ops:Array Oper}{ks:List Kont}{l:Array Bool}{V:List Nat}{T T1:TM}{L:List Ent}{ps:List Prop}(KA:List Nat)(KV:List (Nat×Lk))(keep:List Nat)
  (h:((nodeV P F ops nt l V KA KV T L).map (fun x=>(x.1.restrict keep,x.2,x.1.restrict (dstsOf ops V))),(List.range ops.size).all (fun i=>(markAll l KA).getD i false))=(some (T1,ps,T.restrict (dstsOf ops V)),true)) (hp:allP ps)
  (hg:Go P fn body nt F R ks T1 L):Lz P fn body nt F R ops ks l V T L:=by
 simp only [Prod.mk.injEq,Option.map_eq_some_iff] at h
 obtain⟨⟨⟨T2,ps2⟩,h1,h2,rfl,h4⟩,hall⟩:=h
 simp only at h2 h4 hp
 subst h2
 simp only [List.all_eq_true,List.mem_range] at hall
 obtain⟨hac,hls,hE,hL⟩:=lz_enter h1 hp h4
 have hsz:(markAll l KA).size=ops.size:=by rw [markAll_size]; exact hls
 intro lr a w fuel hf hl hi
 refine lz_aux (T:=T2) hac hsz hE ?_ ?_ lr a w fuel hf (hL lr a hl) hi
 ·exact fun _ a w ht hi=>hg a w (ht.restrict keep) hi
 ·intro i hlt hno
  rw [hall i hlt] at hno; cases hno
/-- into such a region -/
theorem go_lz{p:List Nat}{ks:List Kont}{tm:TM}{L:List Ent}(hmix:P.follows .mixedOrders=true)(hl:(match look body p with | .region _ _ true=>true | _=>false)=true)
  (h:Lz P fn body nt F R (regOps body p) ks (Array.replicate (regOps body p).size false) [] tm L):Go P fn body nt F R (.c p :: ks) tm L:=by
 intro a w ht hi
 unfold regOps at h
 split at hl
 ·rename_i id ops hlk
  rw [hlk] at h
  simp only [KQ,hlk]
  refine wp_region_any hmix ?_
  refine h _ a _ _ (by simp only [countNo]; exact Nat.le_trans List.countP_le_length (by simp)) ⟨by simp,by simp, ?_, ?_, ?_,ht.size,ht.defers,fun t v hv _=>ht.get t v hv⟩ hi.drew
  ·intro i hi; rw [replicate_no] at hi; cases hi
  ·intro i _ hi; rw [replicate_no] at hi; cases hi
  ·intro i _ _ hi; rw [replicate_no] at hi; cases hi
 ·simp at hl
theorem lz_view{ops:Array Oper}{ks:List Kont}{l:Array Bool}{V:List Nat}{T:TM}{L L':List Ent}(hv:View L L')(h:Lz P fn body nt F R ops ks l V T L'): Lz P fn body nt F R ops ks l V T L:=
 fun lr a w fuel hf hl hi=>h lr a w fuel hf hl (hv F w hi)
theorem lzOp_view{ops:Array Oper}{ks:List Kont}{l:Array Bool}{V:List Nat}{T:TM}{L L':List Ent}{i:Nat}(hv:View L L')(h:LzOp P fn body nt F R ops ks l V T L' i): LzOp P fn body nt F R ops ks l V T L i:=
 fun lr a w fuel hf hl hi hn hd=>h lr a w fuel hf hl (hv F w hi) hn hd
def mk(n:Nat)(is:List Nat): Array Bool:=markAll (Array.replicate n false) is
theorem lz_weak{ops:Array Oper}{ks:List Kont}{l l':Array Bool}{V V':List Nat}{T T':TM}{L L':List Ent}(keep idx:List Nat)(h:(T.restrict keep,pick L idx,places L.length idx,l,V.all (hasNat V'))=(T' ,L',true,l',true))
  (hg:Lz P fn body nt F R ops ks l' V' T' L'):Lz P fn body nt F R ops ks l V T L:=by
 simp only [Prod.mk.injEq,List.all_eq_true] at h
 obtain⟨rfl,rfl,h,rfl,hV⟩:=h
 intro lr a w fuel hf hl hi
 have hr:=hl.restrict keep
 exact hg lr a w fuel hf ⟨hr.size,hr.lsize,hr.sub,fun i h1 h2 h3=>hasNat_mem (hV i (hr.late i h1 h2 h3)),hr.closed,hr.tls⟩ (hi.pick idx h)
/-- the operation, its operands known; what is surely done beside it -/
def opLz(ops:Array Oper)(nt:Nat)(T:TM)(i:Nat): Option Oper:=
 match ops[i]? with
 | none=>none
 | some o=>match guardOf ops o T with
  | some true=>bif dstOk nt o.dst && !isSelect o.op&&o.op.operands.all T.knows&&waits ops o then some o else none
  | _=>none
def sureV(ops:Array Oper)(V:List Nat)(i:Nat): List Nat:=
 match ops[i]? with
 | some o=>V.filter fun j => !hasNat (ancs ops 8 (depsOf o)) j
 | none=>V
theorem lz_run{ops:Array Oper}{ks:List Kont}{l:Array Bool}{V:List Nat}{T:TM}{L:List Ent}{i:Nat}{o:Oper}{Ψ : Value→List Ent→Prop}(ho:opLz ops nt T i=some o)(hr:Runs P F o (execOp T.eval o) L Ψ)
  (hk:∀v L',Ψ v L'→Lz P fn body nt F R ops ks (l.setIfInBounds i true) (sureV ops V i) (putT o.dst v T) L'):LzOp P fn body nt F R ops ks l V T L i:=by
 intro lr a w fuel hf hl hi hn hd
 unfold opLz at ho
 split at ho
 ·simp at ho
 ·rename_i o' ho'
  split at ho
  ·rename_i hg
   cases hc:(dstOk nt o'.dst && !isSelect o'.op&&o'.op.operands.all T.knows&&waits ops o') with
   | false=>rw [hc] at ho; simp at ho
   | true=>
    rw [hc] at ho
    simp only [cond_true,Option.some.injEq] at ho
    subst ho
    simp only [Bool.and_eq_true,Bool.not_eq_true'] at hc
    obtain⟨⟨⟨hc1,hc2⟩,hc3⟩,hc4⟩:=hc
    have hdo:=hd o' ho'
    have hwt:=hc4
    simp only [waits,Bool.and_eq_true,List.all_eq_true] at hwt
    have hlt:i<ops.size:=(Array.getElem?_eq_some_iff.1 ho').1
    have hn':lr.getD i false=false:=by
     have:i<lr.size:=by rw [hl.size]; exact hlt
     simpa [Array.getD_eq_getD_getElem?,this] using hn
    unfold wpOp
    rw [ho']
    simp only
    have hw:Region.wanted o' (yielded ops a.tmps)=true:=by
     refine guardOf_wanted' ?_ hg
     intro t v ht hv
     have:=hwt.2
     rw [ht] at this
     exact made_known hl.tls hdo this hv
    rw [if_pos hw]
    refine .inl ?_
    unfold Oper.wp
    have he:execOp a.eval o'=execOp T.eval o':=by
     refine execOp_congr o' (fun cs b he=>by rw [he] at hc2; simp [isSelect] at hc2) fun x hx => ?_
     have hkx:=Array.all_eq_true_iff_forall_mem.1 hc3 x hx
     cases x with
     | tmp t=>
      simp only [TM.knows,Option.isSome_iff_exists] at hkx
      obtain⟨v,hv⟩:=hkx
      have:=made_known hl.tls hdo (hwt.1 (.tmp t) (by simpa using hx)) hv
      simp [Act.eval,TM.eval,hv,this]
     | _=>rfl
    rw [he]
    refine hr a w _ _ hi ?_
    intro v L' w' hΨ hi'
    have hcn:=countNo_set lr i hn
    refine hk v L' hΨ _ _ w' fuel (by omega) ⟨by simpa using hl.size,by simpa using hl.lsize, ?_, ?_,closed_set hl.closed ho' hdo, ?_⟩ hi'
    ·intro k hk
     rw [listed_set] at hk ⊢
     rcases hk with ⟨rfl,h2⟩ | hk
     ·exact .inl ⟨rfl,by rw [hl.lsize]; exact hlt⟩
     ·exact .inr (hl.sub k hk)
    ·intro k hk1 hk2 hk3
     have hki:k≠i:=by
      rintro rfl
      rw [listed_set.2 (.inl ⟨rfl,by rw [hl.size]; exact hlt⟩)] at hk3; cases hk3
     have hk3':lr.getD k false=false:=by
      cases hx:lr.getD k false with
      | false=>rfl
      | true=>rw [listed_set.2 (.inr hx)] at hk3; cases hk3
     have hk2':l.getD k false=true:=by
      rw [listed_set] at hk2
      rcases hk2 with ⟨rfl,_⟩ | h
      ·exact absurd rfl hki
      ·exact h
     have hm:=hl.late k hk1 hk2' hk3'
     unfold sureV
     rw [ho']
     simp only [List.mem_filter,Bool.not_eq_true']
     refine⟨hm, ?_⟩
     cases hx:hasNat (ancs ops 8 (depsOf o')) k with
     | false=>rfl
     | true=>
      have:=ancs_listed hl.closed 8 (depsOf o') hdo k (hasNat_mem hx)
      rw [hk3'] at this; cases this
    ·have htl:TLs nt ops (putT o'.dst v T) lr a:=by
      refine⟨hl.tls.1,hl.tls.2.1,fun t u hu hw => ?_⟩
      rw [putT_get] at hu
      split at hu
      ·rename_i hdt
       have:=hw i o' ho' hdt
       rw [hn'] at this; cases this
      ·exact hl.tls.2.2 t u hu hw
     refine TLs_put htl ho' hc1 fun d hd => ?_
     rw [putT_get,if_pos hd]
  ·simp at ho
theorem lz_call{ops:Array Oper}{ks:List Kont}{l l':Array Bool}{V V':List Nat}{T:TM}{L:List Ent}{i:Nat}{f:FuncId}{args:Array Value}{pre:List Ent}{Ψ : Value→List Ent→Prop}(dst:Option Nat)(idx:List Nat)
  (hen:Enters P f) (hS:Ctr P f args pre Ψ)
  (h:((opLz ops nt T i).map (fun o=>(calleeOf T o,o.dst)),pick L idx,places L.length idx,l.setIfInBounds i true,sureV ops V i)=(some (some (f,args),dst),pre,true,l' ,V'))
  (hk:∀v post,Ψ v post→Lz P fn body nt F R ops ks l' V' (putT dst v T) (dropAt L idx++post)):LzOp P fn body nt F R ops ks l V T L i:=by
 simp only [Prod.mk.injEq,Option.map_eq_some_iff] at h
 obtain⟨⟨o,ho,hc,rfl⟩,hp,hi,rfl,rfl⟩:=h
 refine lz_run ho (runs_call idx hen hS hc hp hi) ?_
 rintro v L' ⟨post,hΨ,rfl⟩
 exact hk v post hΨ
theorem lz_op{ops:Array Oper}{ks:List Kont}{l l':Array Bool}{V V':List Nat}{T:TM}{L:List Ent}{i:Nat}{so:SOut Next}{dst:Option Nat}(hw:Hn)
  (h:((opLz ops nt T i).map (fun o=>(opS P o hw T L,o.dst)),l.setIfInBounds i true,sureV ops V i)=(some (so,dst),l' ,V'))
  (hk:so.sat (NxV fun v L'=>Lz P fn body nt F R ops ks l' V' (putT dst v T) L')):LzOp P fn body nt F R ops ks l V T L i:=by
 simp only [Prod.mk.injEq,Option.map_eq_some_iff] at h
 obtain⟨⟨o,ho,hso,rfl⟩,rfl,rfl⟩:=h
 exact lz_run ho (runs_opS (h:=hw) (by rw [hso]; exact hk)) (fun v L' h=>h)
theorem lz_by{α : Type}{ops:Array Oper}{ks:List Kont}{l l':Array Bool}{V V':List Nat}{T:TM}{L:List Ent}{i:Nat}{Ψ : Value→List Ent→Prop}(dst:Option Nat)(A:Oper→α)(a0 : α)
  (hR:∀o,A o=a0→Runs P F o (execOp T.eval o) L Ψ) (h:((opLz ops nt T i).map (fun o=>(A o,o.dst)),l.setIfInBounds i true,sureV ops V i)=(some (a0,dst),l' ,V'))
  (hk:∀v L',Ψ v L'→Lz P fn body nt F R ops ks l' V' (putT dst v T) L'):LzOp P fn body nt F R ops ks l V T L i:=by
 simp only [Prod.mk.injEq,Option.map_eq_some_iff] at h
 obtain⟨⟨o,ho,ha,rfl⟩,rfl,rfl⟩:=h
 exact lz_run ho (hR o ha) hk
end
end Go.Sx
/- Structs of numbers and truths compared. -/
namespace Go.Sx
/-- is a field alike? -/
def fieldEq(P:Program)(xs ys:Array Value)(f:Field): Option Bool:=
 bif f.name == "_" then none else
 match P.underlying f.type,xs[f.offset]?,ys[f.offset]? with
 | some (.int _),some (.int k a),some (.int k' b)=>bif kindEq k k' then some (a==b) else none
 | some .bool,some (.bool a),some (.bool b)=>some (a==b)
 | _,_,_=>none
def fieldsEq(P:Program)(xs ys:Array Value): List Field→Option (List Bool)
 | []=>some []
 | f :: fs=>match fieldEq P xs ys f,fieldsEq P xs ys fs with
  | some b,some bs=>some (b :: bs)
  | _,_=>none
def structEq(P:Program)(t:TypeId)(x y:Value): Option (List Bool):=
 match P.underlying t,x,y with
 | some (.struct fs),.agg xs,.agg ys=>bif P.stoodInHeld t||P.eqGuardType P.depth t then none else fieldsEq P xs ys fs.toList
 | _,_,_=>none
theorem part_scal{P:Program}{t:TypeId}{cs:Array Value}{off:Nat}{v:Value}{w:World}(ha:aggT P t=some false)(hv:cs[off]? = some v): (part t cs off).run P w = .ok v w:=by
 unfold part
 simp only [Sem.run_bind,aggT_run ha,Result.andThen_ok,Bool.false_eq_true,if_false,hv,Sem.run_pure]
theorem run_fieldsEq{P:Program}{w:World}(d:Nat){xs ys:Array Value}: ∀(fs:List Field) {bs:List Bool},fieldsEq P xs ys fs=some bs→(Op.eqFields (d+1) xs ys fs).run P w = .ok (bs.all id) w
 | [],bs,h=>by
  simp only [fieldsEq,Option.some.injEq] at h
  subst h
  simp [Op.eqFields]
 | f :: fs,bs,h=>by
  simp only [fieldsEq] at h
  split at h
  ·rename_i b bs' hb hbs
   simp only [Option.some.injEq] at h
   subst h
   have ih:=run_fieldsEq (w:=w) d fs hbs
   unfold fieldEq at hb
   cases hn:(f.name == "_") with
   | true=>rw [hn] at hb; simp at hb
   | false=>
    rw [hn] at hb
    simp only [cond_false] at hb
    have hn':f.name≠ "_" := by simpa using hn
    split at hb
    ·rename_i q k a k' c hu hx hy
     cases hk:kindEq k k' with
     | false=>rw [hk] at hb; simp at hb
     | true=>
      rw [hk] at hb
      simp only [cond_true,Option.some.injEq] at hb
      obtain rfl:=kindEq_eq hk
      subst hb
      have hagg:aggT P f.type=some false:=by simp [aggT,hu]
      simp only [Op.eqFields,hn',ne_eq,not_false_eq_true,if_true,Sem.run_bind,part_scal hagg hx,part_scal hagg hy,Result.andThen_ok,run_equalIn_int w d f.type k q a c hu]
      cases hac:(a==c) with
      | true=>simpa using ih
      | false=>simp
    ·rename_i a c hu hx hy
     simp only [Option.some.injEq] at hb
     subst hb
     have hagg:aggT P f.type=some false:=by simp [aggT,hu]
     simp only [Op.eqFields,hn',ne_eq,not_false_eq_true,if_true,Sem.run_bind,part_scal hagg hx,part_scal hagg hy,Result.andThen_ok,run_equalIn_bool w d f.type a c hu]
     cases hac:(a==c) with
     | true=>simpa using ih
     | false=>simp
    ·simp at hb
  ·simp at h
theorem R_eq{P:Program}{F:Fr}{L:List Ent}{t:TypeId}{x y:Value}{bs:List Bool}(e r:Bool)(h:structEq P t x y=some bs)(hb:bs.all id=r):
  LawQ P F L (.bool (bif e then r else !r)) eqO (e,t,x,y):=by
 intro tm o ho a w K Q hin hkk
 unfold structEq at h
 split at h
 ·rename_i fs xs ys hu
  cases hc:(P.stoodInHeld t||P.eqGuardType P.depth t) with
  | true=>rw [hc] at h; simp at h
  | false=>
   rw [hc] at h
   simp only [cond_false] at h
   simp only [Bool.or_eq_false_iff] at hc
   have hfs:P.fieldsOf t=fs:=by simp [Program.fieldsOf,hu]
   have hr:(Op.equal t (.agg xs) (.agg ys)).run P w = .ok r w:=by
    unfold Op.equal Op.maxDepth
    rw [run_equalIn_struct w 9999 t xs ys (by rw [hfs]; exact hu) hc.1,hfs,run_fieldsEq 9998 fs.toList h,hb]
   unfold eqO at ho
   split at ho
   ·rename_i t' x' y' t2 hop
    simp only [Option.some.injEq,Prod.mk.injEq] at ho
    obtain⟨rfl,rfl,hx,hy⟩:=ho
    have hrun:(execOp tm.eval o).run P w = .ok (.value (.bool r)) w:=by
     simp only [execOp,hop,hx,hy,Sem.run_bind]
     simp [eqGuard,hc.2,binOp,hr]
    rw [hrun]
    exact hkk _ _ w ⟨rfl,rfl⟩ hin
   ·rename_i t' x' y' t2 hop
    simp only [Option.some.injEq,Prod.mk.injEq] at ho
    obtain⟨rfl,rfl,hx,hy⟩:=ho
    have hrun:(execOp tm.eval o).run P w = .ok (.value (.bool !r)) w:=by
     simp only [execOp,hop,hx,hy,Sem.run_bind]
     simp [eqGuard,hc.2,binOp,hr]
    rw [hrun]
    exact hkk _ _ w ⟨rfl,rfl⟩ hin
   ·simp at ho
 ·simp at h
end Go.Sx
/- Rows that are only looked at. -/
namespace Go.Sx
theorem R_cutHr{P:Program}{F:Fr}{α : Type}{tm:TM}{L:List Ent}(i:Nat){a:Option Addr}{c:Nat}{enc : α→List Value}{d : α}{sz:Nat}{xs:List α}{te:TypeId}{r:Rest}
  (_hL:L[i]? = some (.rd a c enc d sz xs te r)) (kl:IntKind) (n:Int) (hc:xs.length≤c) (h2:0≤n∧n≤(xs.length:Int)) :
  ∀o,cutO P tm o=some (.slice a xs.length c,none,some (.int kl n),sz)→
   Runs P F o (execOp tm.eval o) L (fun v L'=>v = .slice a n.toNat c∧L'=L):=by
 intro o h
 unfold cutO at h
 split at h
 ·rename_i t x lo' hi' hop
  split at h
  ·simp at h
  ·rename_i e he
   split at h
   ·simp at h
   ·rename_i sz' hsz
    simp only [Option.some.injEq,Prod.mk.injEq] at h
    obtain⟨hx,hlo,hhi,rfl⟩:=h
    intro ac w K Q hin hkk
    have hrun:(execOp tm.eval o).run P w = .ok (.value (.slice a n.toNat c)) w:=by
     simp only [execOp,hop,hx,hlo,hhi,Instr.sliceAt,Sem.run_bind,run_underlying (elemT_eq he),Result.andThen_ok]
     simp only [Instr.slice,Sem.run_bind,run_underlying (elemT_eq he),Result.andThen_ok,sliceBounds_run (lo:=none) (hi:=some (.int kl n)) hc h2 trivial,sizeT_run hsz,Option.map_none,Sem.run_pure,loOf,hiOf]
     cases a with
     | none=>simp
     | some ad=>simp [Addr.add]
    rw [hrun]
    exact hkk _ _ w ⟨rfl,rfl⟩ hin
 ·simp at h
theorem cellsOf_append{α : Type}{enc : α→List Value}(xs ys:List α): cellsOf enc (xs++ys)=cellsOf enc xs++cellsOf enc ys:=by simp [cellsOf]
/-- the first ones of a row; and the row again -/
theorem view_take{α : Type}{L:List Ent}(i:Nat){a:Option Addr}{c:Nat}{enc : α→List Value}{d : α}{sz:Nat}{xs:List α}{t:TypeId}{r:Rest}(n:Nat)(h:L[i]? = some (.rd a c enc d sz xs t r)):
  View L (L.set i (.rd a c enc d sz (xs.take n) t ⟨r.pre,cellsOf enc (xs.drop n)++r.post,r.fz⟩)):=by
 intro F w hi
 obtain⟨f,hf,hfit,h1⟩:=hi
 obtain⟨f1,g,f2,rfl,⟨hz,hg⟩,hset⟩:=dens_get h hf
 refine⟨f1++g++f2,hset _ g ⟨hz, ?_⟩,hfit,h1⟩
 rcases hg with ⟨rfl,rfl,hn⟩ | ⟨b,off,rfl,hp,hl,rfl⟩
 ·exact .inl ⟨by simp,rfl,hn⟩
 ·refine .inr ⟨b,off,rfl,hp,by have:=List.length_take_le n xs; rw [List.length_take]; omega, ?_⟩
  have e:cellsOf enc xs=cellsOf enc (xs.take n)++cellsOf enc (xs.drop n):=by rw [←cellsOf_append,List.take_append_drop]
  simp only [e,List.append_assoc]
theorem view_untake{α : Type}{L:List Ent}(i:Nat){a:Option Addr}{c:Nat}{enc : α→List Value}{d : α}{sz:Nat}{xs:List α}{t:TypeId}{r:Rest}(n:Nat)
  (h:L[i]? = some (.rd a c enc d sz (xs.take n) t ⟨r.pre,cellsOf enc (xs.drop n)++r.post,r.fz⟩)) (hn:0<n) (hl:xs.length≤c) :
  View L (L.set i (.rd a c enc d sz xs t r)):=by
 intro F w hi
 obtain⟨f,hf,hfit,h1⟩:=hi
 obtain⟨f1,g,f2,rfl,⟨hz,hg⟩,hset⟩:=dens_get h hf
 refine⟨f1++g++f2,hset _ g ⟨hz, ?_⟩,hfit,h1⟩
 rcases hg with ⟨hx,rfl,hc⟩ | ⟨b,off,rfl,hp,_,rfl⟩
 ·refine .inl ⟨?_,rfl,hc⟩
  cases xs with
  | nil=>rfl
  | cons x l=>cases n with
   | zero=>omega
   | succ n=>simp at hx
 ·refine .inr ⟨b,off,rfl,hp,hl, ?_⟩
  have e:cellsOf enc xs=cellsOf enc (xs.take n)++cellsOf enc (xs.drop n):=by rw [←cellsOf_append,List.take_append_drop]
  simp only [e,List.append_assoc]
/-- a contract that only looks at a row serves for a row of its own, too -/
theorem ctr_rd_sl{P:Program}{α : Type}{f:FuncId}{args:Array Value}{L:List Ent}{Ψ : Value→List Ent→Prop}{a:Option Addr}{c:Nat}{enc : α→List Value}{d : α}{sz:Nat}{xs:List α}{t:TypeId}
  (h:∀r,Ctr P f args (.rd a c enc d sz xs t r :: L) (fun v X => ∃post,Ψ v post∧X = .rd a c enc d sz xs t r :: post)) :
  Ctr P f args (.sl a c enc d sz xs t :: L) (fun v X => ∃post,Ψ v post∧X = .sl a c enc d sz xs t :: post):=by
 intro F w hi
 obtain⟨f0,⟨f1,f2,rfl,⟨hz,hg⟩,h2⟩,hfit,h1⟩:=hi
 rcases hg with ⟨rfl,rfl,rfl,rfl⟩ | ⟨b,off,pre,post,rfl,hp,hc1,hc2,hc3,rfl⟩
 ·refine(h ⟨[],[],(0,0)⟩ F w ⟨[]++f2,⟨[],f2,rfl,⟨hz,.inl ⟨rfl,rfl,fun _=>rfl⟩⟩,h2⟩,hfit,h1⟩).mono ?_
  rintro e w' ⟨v,X,he,⟨post,hΨ,rfl⟩,g0,⟨g1,g2,rfl,⟨_,hg'⟩,h3⟩,hfit',h4⟩
  rcases hg' with ⟨_,rfl,_⟩ | ⟨b,off,h,_⟩
  ·exact⟨v,_,he,⟨post,hΨ,rfl⟩,[]++g2,⟨[],g2,rfl,⟨hz,.inl ⟨rfl,rfl,rfl,rfl⟩⟩,h3⟩,hfit',h4⟩
  ·cases h
 ·by_cases hx:xs=[]
  ·-- whatever it is, the block is a part of the frame
   subst hx
   have hfit2:Fits (([]++f2)++((b,.cells (pre++cellsOf enc []++post).toArray t (0,0)) :: F.f)) w:=by
    refine hfit.perm ?_
    simp only [List.nil_append,List.cons_append]
    exact List.perm_middle.symm
   refine(h ⟨[],[],(0,0)⟩ {F with f:=(b,.cells (pre++cellsOf enc []++post).toArray t (0,0)) :: F.f} w ⟨[]++f2,⟨[],f2,rfl,⟨hz,.inl ⟨rfl,rfl,fun h=>by cases h⟩⟩,h2⟩,hfit2,h1⟩).mono ?_
   rintro e w' ⟨v,X,he,⟨post',hΨ,rfl⟩,g0,⟨g1,g2,rfl,⟨_,hg'⟩,h3⟩,hfit',h4⟩
   rcases hg' with ⟨_,rfl,_⟩ | ⟨b',off',hb',_,_,rfl⟩
   ·refine⟨v,_,he,⟨post',hΨ,rfl⟩,[(b,.cells (pre++cellsOf enc []++post).toArray t (0,0))]++g2,⟨_,g2,rfl,⟨hz,.inr ⟨b,off,pre,post,rfl,hp,hc1,hc2,hc3,rfl⟩⟩,h3⟩, ?_,h4⟩
    refine hfit'.perm ?_
    simp only [List.nil_append,List.cons_append]
    exact List.perm_middle
   ·-- it would lie there twice
    exfalso
    simp only [Option.some.injEq,Addr.mk.injEq,and_true] at hb'
    obtain⟨rfl,rfl⟩:=hb'
    have:=hfit'.1
    simp at this
  ·refine(h ⟨pre,post,(0,0)⟩ F w ⟨_,⟨_,f2,rfl,⟨hz,.inr ⟨b,off,rfl,hp,hc2,rfl⟩⟩,h2⟩,hfit,h1⟩).mono ?_
   rintro e w' ⟨v,X,he,⟨post',hΨ,rfl⟩,g0,⟨g1,g2,rfl,⟨_,hg'⟩,h3⟩,hfit',h4⟩
   rcases hg' with ⟨hx',_⟩ | ⟨b',off',hb',hp',_,rfl⟩
   ·exact absurd hx' hx
   ·exact⟨v,_,he,⟨post',hΨ,rfl⟩,_,⟨_,g2,rfl,⟨hz,.inr ⟨b',off',pre,post,hb',hp',hc1,hc2,hc3,rfl⟩⟩,h3⟩,hfit',h4⟩
theorem R_ixPr{P:Program}{F:Fr}{α : Type}{tm:TM}{L:List Ent}(j:Nat){a:Option Addr}{c:Nat}{enc : α→List Value}{d : α}{sz:Nat}{xs:List α}{te:TypeId}{r:Rest}
  (hL:L[j]? = some (.rd a c enc d sz xs te r)) (n c':Nat) (k:IntKind) (i:Int) (h:0≤i∧i<(n:Int)) (hn:n≤xs.length) :
  ∀o,ipO P tm o=some (.slice a n c',.int k i,sz)→
   Runs P F o (execOp tm.eval o) L (fun v L'=>v=slAt a i.toNat sz∧L'=L):=by
 intro o ho
 unfold ipO at ho
 split at ho
 ·rename_i t x ix hop
  split at ho
  ·rename_i sz' hs
   simp only [Option.some.injEq,Prod.mk.injEq] at ho
   obtain⟨hx,hi,rfl⟩:=ho
   simp only [Option.bind_eq_some_iff] at hs
   obtain⟨e,he1,he2⟩:=hs
   intro ac w K Q hin hkk
   have hin0:=hin
   obtain⟨f,hf,hfit,g1,g2,g3⟩:=hin
   obtain⟨f1,g,f2,rfl,⟨hsd,hg⟩,hset⟩:=dens_get hL hf
   rcases hg with ⟨rfl,_⟩ | ⟨b,off,rfl,_⟩
   ·simp at hn; omega
   ·have hrun:(execOp tm.eval o).run P w = .ok (.value (slAt (some ⟨b,off,none⟩) i.toNat sz')) w:=by
     simp [execOp,hop,hx,hi,indexAt_run he1 he2 h,slAt,slAd,jOff_eq]
    rw [hrun]
    exact hkk _ _ w ⟨rfl,rfl⟩ hin0
  ·simp at ho
 ·simp at ho
theorem ctr_rd_nil{P:Program}{α : Type}{f:FuncId}{args:Array Value}{L:List Ent}{Ψ : Value→List Ent→Prop}{c:Nat}{enc : α→List Value}{d : α}{sz:Nat}{xs:List α}{t:TypeId}{r:Rest}
  (h:xs=[]→c=0→Ctr P f args (.rd none c enc d sz xs t r :: L) Ψ):Ctr P f args (.rd none c enc d sz xs t r :: L) Ψ := by
 intro F w hi
 have hi0:=hi
 obtain⟨f0,⟨f1,f2,rfl,⟨hz,hg⟩,h2⟩,hfit,h1⟩:=hi
 rcases hg with ⟨rfl,rfl,hc⟩ | ⟨b,off,h,_⟩
 ·exact h rfl (hc rfl) F w hi0
 ·cases h
end Go.Sx
/- A field of an element of a row that is only looked at. -/
namespace Go.Sx
theorem R_ldF{P:Program}{F:Fr}{α : Type}{tm:TM}{L:List Ent}(i:Nat){a:Option Addr}{c:Nat}{enc : α→List Value}{d : α}{sz:Nat}{xs:List α}{te:TypeId}{r:Rest}
  (hL:L[i]? = some (.rd a c enc d sz xs te r)) (j fo:Nat) (ag:Bool) (n:Nat) (vs:List Value) (hv:((enc (xs.getD j d)).drop fo).take n=vs) (hn:vs.length=n) (h1:ag=true∨n=1) (hj:j<xs.length) :
  ∀o,ldO P tm o=some (.pointer (some ((slAd a j sz).add fo)),ag,n)→
   Runs P F o (execOp tm.eval o) L (fun v L'=>v=valOf ag vs∧L'=L):=by
 intro o ho
 unfold ldO at ho
 split at ho
 ·rename_i t x hop
  split at ho
  ·rename_i ag' n' ha hs
   simp only [Option.some.injEq,Prod.mk.injEq] at ho
   obtain⟨hx,rfl,rfl⟩:=ho
   intro ac w K Q hin hkk
   have hin0:=hin
   obtain⟨f,hf,hfit,_⟩:=hin0
   obtain⟨f1,g,f2,rfl,⟨hz,hg⟩,_⟩:=dens_get hL hf
   have hld:(Instr.loadAt t (.pointer (some ((slAd a j sz).add fo)))).run P w = .ok (valOf ag' vs) w:=by
    rcases hg with ⟨hx0,_⟩ | ⟨b,off,rfl,hp,hl,rfl⟩
    ·subst hx0; simp at hj
    ·have hb:w.heap[b]? = some (.cells (r.pre++cellsOf enc xs++r.post).toArray te r.fz):=hfit.2 (b,_) (by simp)
     have e:(slAd (some ⟨b,off,none⟩) j sz).add fo=⟨b,off+j*sz+fo,none⟩:=by simp [slAd,jOff_eq,Addr.add]
     rw [e]
     simp only [Instr.loadAt,Instr.sureAddr,Sem.run_bind,Sem.run_pure,Result.andThen_ok]
     have hxj:xs[j]? = some (xs.getD j d):=by simp [hj]
     refine loadVar_run ha (by rw [hn]; exact hs) (by rw [hn]; rcases h1 with h | h <;> simp [h]) ?_
     intro k v hk
     rw [←hv] at hk
     have hkn:k<n':=by
      have h2:=(List.getElem?_eq_some_iff.1 hk).1
      rw [List.length_take] at h2
      omega
     rw [List.getElem?_take_of_lt hkn,List.getElem?_drop] at hk
     have hlt:fo+k<sz:=by
      have h2:=(List.getElem?_eq_some_iff.1 hk).1
      rwa [hz] at h2
     have hgk:=cellsOf_get hz xs j (fo+k) _ hxj hlt
     have hin1:j*sz+(fo+k)<(cellsOf enc xs).length:=by
      rw [cellsOf_length hz]
      calc j*sz+(fo+k)<j*sz+sz:=by omega
       _ = (j+1)*sz:=by rw [Nat.succ_mul]
       _≤xs.length*sz:=Nat.mul_le_mul_right _ hj
     subst hp
     simp only [World.cell?,hb,Option.isSome_none,Bool.false_eq_true,if_false,List.getElem?_toArray]
     rw [show r.pre.length+j*sz+fo+k=r.pre.length+(j*sz+(fo+k)) by omega,List.append_assoc,List.getElem?_append_right (by omega),Nat.add_sub_cancel_left,List.getElem?_append_left hin1,hgk]
     exact hk
   have hrun:(execOp tm.eval o).run P w = .ok (.value (valOf ag' vs)) w:=by
    simp only [execOp,hop,hx,Sem.run_bind,hld,Result.andThen_ok,Sem.run_pure]
   rw [hrun]
   exact hkk _ _ w ⟨rfl,rfl⟩ hin
  ·simp at ho
 ·simp at ho
end Go.Sx
/- Calls of an interface's method; rows of boxes, of which one is opened. -/
namespace Go.Sx
/-- how a method of an interface value is reached -/
def Reach(P:Program)(T:TypeId)(rv:Value)(name:String)(f:FuncId): Prop := ∀w:World,(method (P.types.size+Made.depth) T rv name).run P w = .ok (f,rv) w
/-- whom an operation calls through an interface value, with what -/
def invokeeOf(tm:TM)(o:Oper): Option (TypeId×Value×String×Array Value):=
 match o.op with
 | .call c=>match c.callee with
  | .invoke x name=>match tm.eval x with
   | .iface t v=>some (t,v,name,#[v]++(#[Value.iface t v]++c.args.map tm.eval).extract 1 (#[Value.iface t v]++c.args.map tm.eval).size)
   | _=>none
  | _=>none
 | _=>none
section
variable {P:Program} {fn:Func} {body:Code} {nt:Nat} {F:Fr} {R:Ending→World→Prop}
theorem runs_invoke{o:Oper}{tm:TM}{T:TypeId}{rv:Value}{name:String}{f:FuncId}{args:Array Value}{pre:List Ent}{L:List Ent}{Ψ : Value→List Ent→Prop}(idx:List Nat)
  (hr:Reach P T rv name f) (hen:Enters P f) (hS:Ctr P f args pre Ψ) (hc:invokeeOf tm o=some (T,rv,name,args)) (hp:pick L idx=pre) (hi:places L.length idx=true) :
  Runs P F o (execOp tm.eval o) L (fun v L' => ∃post,Ψ v post∧L'=dropAt L idx++post):=by
 intro a w K Q hin hk
 unfold invokeeOf at hc
 split at hc
 ·rename_i c hop
  split at hc
  ·rename_i x nm hx
   split at hc
   ·rename_i t v hv
    simp only [Option.some.injEq,Prod.mk.injEq] at hc
    obtain⟨rfl,rfl,rfl,rfl⟩:=hc
    have h0:(#[Value.iface t v]++c.args.map tm.eval)[0]? = some (Value.iface t v):=by rw [Array.getElem?_append_left (by simp)]; rfl
    have hrun:(execOp tm.eval o).run P w = .ok (.enter f (#[v]++(#[Value.iface t v]++c.args.map tm.eval).extract 1 (#[Value.iface t v]++c.args.map tm.eval).size)) w:=by
     simp only [execOp,hop,resolve,hx,hv,Sem.run_bind,Sem.run_pure,Result.andThen_ok,invoke,h0,callMethod,run_program]
     rw [hr w]
     simp only [Result.andThen_ok]
     exact hen _ _
    rw [hrun]
    obtain⟨F',h1,h2⟩:=hin.take idx hi
    rw [hp] at h1
    refine(hS F' w h1).mono ?_
    rintro e w' ⟨v,post,rfl,hΨ,hw⟩
    exact hk v _ w' ⟨post,hΨ,rfl⟩ (h2 post w' hw)
   ·simp at hc
  ·simp at hc
 ·simp at hc
/-- a call of an interface's method, by the contract of that which is reached -/
theorem go_invoke{p:List Nat}{k:Nat}{ks:List Kont}{tm:TM}{L:List Ent}{T:TypeId}{rv:Value}{name:String}{f:FuncId}{args:Array Value}{pre:List Ent}{Ψ : Value→List Ent→Prop}(dst:Option Nat)(idx:List Nat)
  (hr:Reach P T rv name f) (hen:Enters P f) (hS:Ctr P f args pre Ψ)
  (h:((opAt body nt p k tm).map (fun o=>(invokeeOf tm o,o.dst)),pick L idx,places L.length idx)=(some (some (T,rv,name,args),dst),pre,true))
  (hk:∀v post,Ψ v post→Go P fn body nt F R (.o p (k+1) :: ks) (putT dst v tm) (dropAt L idx++post)):Go P fn body nt F R (.o p k :: ks) tm L:=by
 simp only [Prod.mk.injEq,Option.map_eq_some_iff] at h
 obtain⟨⟨o,ho,hc,rfl⟩,hp,hi⟩:=h
 refine go_run ho (runs_invoke idx hr hen hS hc hp hi) ?_
 rintro v L' ⟨post,hΨ,rfl⟩
 exact hk v post hΨ
end
/-! ### rows of boxes -/
def allL{α : Type}(pred:Nat→α→Res)(qs:List (Nat×α)): List Ent:=qs.map fun q=>.res (pred q.1 q.2)
def AllR{α : Type}(pred:Nat→α→Res)(qs:List (Nat×α)): Res:=dens (allL pred qs)
/-- what lies in an entry, each by itself; and back -/
theorem view_open{L M N:List Ent}(i:Nat)(h:(pick L [i],places L.length [i],dropAt L [i])=([.res (dens N)],true,M)): View L (M++N):=by
 simp only [Prod.mk.injEq] at h
 obtain⟨h1,h2,h3⟩:=h
 intro F w hi
 have hi':In (dropAt L [i]++pick L [i]) F w:=(hi.perm (pick_drop_perm L [i] h2)).perm List.perm_append_comm
 rw [h1,h3] at hi'
 obtain⟨f,hf,hfit,hr⟩:=hi'
 obtain⟨f1,f2,rfl,ha,g1,g2,rfl,hb,hc⟩:=dens_append.1 hf
 have hc':g2=[]:=hc
 subst hc'
 exact⟨f1++g1,dens_append.2 ⟨f1,g1,rfl,ha,hb⟩,by simpa using hfit,hr⟩
theorem view_close{L M N:List Ent}(idx:List Nat)(h:(pick L idx,places L.length idx,dropAt L idx)=(N,true,M)): View L (M++[.res (dens N)]):=by
 simp only [Prod.mk.injEq] at h
 obtain⟨h1,h2,h3⟩:=h
 intro F w hi
 have hi':In (dropAt L idx++pick L idx) F w:=(hi.perm (pick_drop_perm L idx h2)).perm List.perm_append_comm
 rw [h1,h3] at hi'
 obtain⟨f,hf,hfit,hr⟩:=hi'
 obtain⟨f1,f2,rfl,ha,hb⟩:=dens_append.1 hf
 exact⟨f1++f2,dens_append.2 ⟨f1,f2,rfl,ha,f2,[],by simp,hb,rfl⟩,hfit,hr⟩
theorem eraseIdx_perm{α : Type}: ∀(l:List α) (n:Nat) (h:n<l.length),(l[n] :: l.eraseIdx n).Perm l
 | _ :: _,0,_=>List.Perm.refl _
 | a :: l,n+1,h=>by
  have h':n<l.length:=by simpa using h
  have e:=eraseIdx_perm l n h'
  exact(List.Perm.swap a l[n] (l.eraseIdx n)).trans (e.cons a)
/-- one box of a row, and the others; and back -/
theorem view_focus{α : Type}{pred:Nat→α→Res}{qs:List (Nat×α)}{L M:List Ent}(i n:Nat)(d:Nat×α)(hn:n<qs.length)(h:(pick L [i],places L.length [i],dropAt L [i])=([.res (AllR pred qs)],true,M)):
  View L (M++[.res (pred (qs.getD n d).1 (qs.getD n d).2),.res (AllR pred (qs.eraseIdx n))]):=by
 intro F w hi
 have h1:=view_open i h F w hi
 have hp:(allL pred qs).Perm (.res (pred (qs.getD n d).1 (qs.getD n d).2) :: allL pred (qs.eraseIdx n)):=by
  have e:qs.getD n d=qs[n]:=by rw [List.getD_eq_getElem?_getD,List.getElem?_eq_getElem hn]; rfl
  rw [e]
  exact((eraseIdx_perm _ n hn).map (fun q:Nat×α => Ent.res (pred q.1 q.2))).symm
 have h2:=In.perm (List.Perm.append_left M hp) h1
 obtain⟨f,hf,hfit,hr⟩:=h2
 obtain⟨f1,f2,rfl,ha,f3,f4,rfl,hb,hc⟩:=dens_append.1 hf
 exact⟨f1++(f3++f4),dens_append.2 ⟨f1,f3++f4,rfl,ha,f3,f4,rfl,hb,f4,[],by simp,hc,rfl⟩,hfit,hr⟩
theorem view_unfocus{α : Type}{pred:Nat→α→Res}{qs:List (Nat×α)}{L M:List Ent}(i j n:Nat)(p:Nat)(s : α)(hn:n<qs.length)
  (h:(pick L [i,j],places L.length [i,j],dropAt L [i,j])=([.res (pred p s),.res (AllR pred (qs.eraseIdx n))],true,M)):View L (M++[.res (AllR pred (qs.set n (p,s)))]):=by
 simp only [Prod.mk.injEq] at h
 obtain⟨h1,h2,h3⟩:=h
 intro F w hi
 have hi':In (dropAt L [i,j]++pick L [i,j]) F w:=(hi.perm (pick_drop_perm L [i,j] h2)).perm List.perm_append_comm
 rw [h1,h3] at hi'
 obtain⟨f,hf,hfit,hr⟩:=hi'
 obtain⟨f1,f2,rfl,ha,f3,f4,rfl,hb,f5,f6,rfl,hc,hd⟩:=dens_append.1 hf
 have hd':f6=[]:=hd
 subst hd'
 have hp:(.res (pred p s) :: allL pred (qs.eraseIdx n)).Perm (allL pred (qs.set n (p,s))):=by
  have hn':n<(qs.set n (p,s)).length:=by rw [List.length_set]; exact hn
  have e:=(eraseIdx_perm _ n hn').map (fun q:Nat×α => Ent.res (pred q.1 q.2))
  rw [List.getElem_set_self,List.eraseIdx_set_eq] at e
  exact e
 have hM:In (M++(.res (pred p s) :: allL pred (qs.eraseIdx n))) F w:=⟨f1++(f3++f5),dens_append.2 ⟨f1,f3++f5,rfl,ha,f3,f5,rfl,hb,hc⟩,by simpa using hfit,hr⟩
 obtain⟨g,hg,hfit',hr'⟩:=In.perm (List.Perm.append_left M hp) hM
 obtain⟨g1,g2,rfl,hg1,hg2⟩:=dens_append.1 hg
 exact⟨g1++g2,dens_append.2 ⟨g1,g2,rfl,hg1,g2,[],by simp,hg2,rfl⟩,hfit',hr'⟩
end Go.Sx
/- Short forms of the rules: what the kernel can reckon is not written down. -/
namespace Go.Sx
theorem kR{p:Prop}(h:p:=by kernel_rfl): p:=h
theorem oM{p:Prop}(h:p:=by first | assumption | omega | (simp only [InK] at *; omega)): p:=h
theorem oW{p:Prop}(h:p:=by first | omega | (simp; done) | (simp; omega)): p:=h
abbrev Lk.w: Lk:=.h .w
abbrev Lk.e(n:Nat): Lk:=.h (.e n)
abbrev Lk.t(b:Bool): Lk:=.h (.t b)
abbrev Kq.ww: Kq:=.h .w
abbrev Kq.e(n:Nat): Kq:=.h (.e n)
abbrev Kq.t(b:Bool): Kq:=.h (.t b)
/-- hints in a row, from a number on -/
def kV{α : Type}: Nat→List α→List (Nat×α)
 | _,[]=>[]
 | n,k :: ks=>(n,k) :: kV (n+1) ks
/-- what is owed, with its reasons -/
inductive AE (P:Program) (F:Fr) (L:List Ent):List Prop→Prop
 | n:AE P F L []
 | e {α : Type} {ps:List Prop} (a : α) (r:AE P F L ps):AE P F L ((a=a) :: ps)
 | p {ps:List Prop} (p:Prop) (h:p) (r:AE P F L ps):AE P F L (p :: ps)
 | q {v:Value} {i:FuncId×Array Value} {ps:List Prop} (h:LawQ P F L v callO i) (r:AE P F L ps):AE P F L (LawQ P F L v callO i :: ps)
theorem AE.all{P:Program}{F:Fr}{L:List Ent}: ∀ {ps:List Prop},AE P F L ps→allP ps
 | _,.n=>trivial
 | _,.e _ r=>⟨rfl,r.all⟩
 | _,.p _ h r=>⟨h,r.all⟩
 | _,.q h r=>⟨h,r.all⟩
/-- calls that leave all as it is, with their contracts -/
inductive AQ (P:Program) (F:Fr) (L:List Ent):List (FuncId×Array Value×Value)→Prop
 | n:AQ P F L []
 | c {f:FuncId} {args:Array Value} {v:Value} {cs:List (FuncId×Array Value×Value)} (hen:Enters P f) (hq:QuietCall P F L f args v) (r:AQ P F L cs):AQ P F L ((f,args,v) :: cs)
theorem AQ.all{P:Program}{F:Fr}{L:List Ent}: ∀ {cs:List (FuncId×Array Value×Value)},AQ P F L cs→allQ P F L cs
 | _,.n=>trivial
 | _,.c h1 h2 r=>⟨⟨h1,h2⟩,r.all⟩
def nT(x:Option (TM×List Prop)): TM:=match x with
 | some p=>p.1
 | none=>[]
def qT(x:Option (TM×List Prop×List (FuncId×Array Value×Value))): TM:=match x with
 | some p=>p.1
 | none=>[]
def SOut.nx{α : Type}: SOut α→SOut α
 | .obl _ o=>o
 | _=>.bad
def SOut.nn{α : Type}: SOut α→Nat→SOut α
 | .new k,b=>k b
 | _,_=>.bad
def SOut.va: SOut Next→Value
 | .ok (.value v) _=>v
 | _=>undef
def SOut.li{α : Type}: SOut α→List Ent
 | .ok _ L=>L
 | _=>[]
structure Sat (Φ : Value→List Ent→Prop) (o:SOut Next):Prop where
 h:o.sat (NxV Φ)
theorem sO{Φ : Value→List Ent→Prop}{o:SOut Next}(p:Prop)(hp:p)(hk:Sat Φ o.nx)(h:o = .obl p o.nx:=by kernel_rfl): Sat Φ o:=⟨by rw [h]; exact⟨hp,hk.h⟩⟩
theorem sQ{Φ : Value→List Ent→Prop}{o:SOut Next}{α : Type}(a : α)(hk:Sat Φ o.nx)(h:o = .obl (a=a) o.nx:=by kernel_rfl): Sat Φ o:=⟨by rw [h]; exact⟨rfl,hk.h⟩⟩
theorem sN{Φ : Value→List Ent→Prop}{o:SOut Next}(hk:∀b,Sat Φ (o.nn b))(h:o = .new o.nn:=by kernel_rfl): Sat Φ o:=⟨by rw [h]; exact fun b=>(hk b).h⟩
theorem sV{Φ : Value→List Ent→Prop}{o:SOut Next}(hk : Φ o.va o.li)(h:o = .ok (.value o.va) o.li:=by kernel_rfl): Sat Φ o:=⟨by rw [h]; exact hk⟩
theorem sK{Φ : Value→List Ent→Prop}{o:SOut Next}(hk : Φ undef o.li)(h:o = .ok .skip o.li:=by kernel_rfl): Sat Φ o:=⟨by rw [h]; exact hk⟩
theorem vK{α : Type}(I : α→Prop)(LL : α→List Ent)(x : α){L:List Ent}(idx:List Nat)(hI:I x)(h:(pick L idx,places L.length idx)=(LL x,true):=by kernel_rfl): View L (dropAt L idx++[.res (Box I LL)]):=
 view_pack I LL x idx (by rw [Prod.mk.injEq] at h; rw [h.1,h.2]) hI
theorem vQ{L L':List Ent}(idx:List Nat)(h:(pick L idx,places L.length idx)=(L',true):=by kernel_rfl): View L L':=view_pick idx h
theorem vC{L:List Ent}(idx:List Nat)(h:places L.length idx=true:=by kernel_rfl): View L (dropAt L idx++[.res (dens (pick L idx))]):=view_close idx (by rw [h])
theorem oC{P:Program}{α : Type}{I : α→Prop}{LL : α→List Ent}{f:FuncId}{args:Array Value}{L:List Ent}{Ψ : Value→List Ent→Prop}(i:Nat)(hg:∀x,I x→Ctr P f args (dropAt L [i]++LL x) Ψ)
  (h:(pick L [i],places L.length [i])=([.res (Box I LL)],true):=by kernel_rfl):Ctr P f args L Ψ :=
 ctr_open i (by rw [Prod.mk.injEq] at h; rw [h.1,h.2]) hg
theorem cP{P:Program}{f:FuncId}{args:Array Value}{L L':List Ent}{Ψ Ψ':Value→List Ent→Prop}(idx:List Nat)(hg:Ctr P f args L' Ψ)(hk:∀v post,Ψ v post→∃L2,View (dropAt L idx++post) L2∧Ψ' v L2)
  (h:(pick L idx,places L.length idx)=(L',true):=by kernel_rfl):Ctr P f args L Ψ':=
 ctr_post (ctr_frame idx h hg) (by rintro v L ⟨post,hp,rfl⟩; exact hk v post hp)
section
variable {P:Program} {fn:Func} {body:Code} {nt:Nat} {F:Fr} {R:Ending→World→Prop}
theorem cB{f:FuncId}{args:List Value}{pre:List Ent}{Ψ : Value→List Ent→Prop}(body:Code)(nt:Nat)(hf:P.funcs[f]? = some fn)
  (h:∀F,Go P fn body nt F (RetR F Ψ) [.c []] (argTM 0 args) pre) (hb:fn.body=some body:=by kernel_rfl) (hnt:args.length+(fn.ntmps-args.length)=nt:=by kernel_rfl):Ctr P f args.toArray pre Ψ := ctr_of hf hb hnt h
theorem gI{o:Out}{Ψ : Value→List Ent→Prop}(v:Value)(idx:List Nat){post:List Ent}(hΨ : Ψ v post)(h:(o,pick o.rL idx,places o.rL.length idx)=(.ret v o.rL,post,true):=by kernel_rfl): OK P fn body nt F (RetR F Ψ) o:=gP v post idx hΨ h
theorem gJ{o:Out}{Ψ : Value→List Ent→Prop}{v:Value}(idx:List Nat){post:List Ent}(hΨ : Ψ v post)(h:(o,pick o.rL idx,places o.rL.length idx)=(.ret v o.rL,post,true):=by kernel_rfl): OK P fn body nt F (RetR F Ψ) o:=gP v post idx hΨ h
theorem rK{v:Value}{L:List Ent}{Ψ : Value→List Ent→Prop}(idx:List Nat){post:List Ent}(hΨ : Ψ v post)(h:(pick L idx,places L.length idx)=(post,true):=by kernel_rfl): (Out.ret v L).ok P fn body nt F (RetR F Ψ):=ret_ok idx h hΨ
theorem oG{α : Type}{I : α→Prop}{LL : α→List Ent}{ks:List Kont}{tm:TM}{L:List Ent}(i:Nat)(hg:∀x,I x→Go P fn body nt F R ks tm (dropAt L [i]++LL x))
  (h:(pick L [i],places L.length [i])=([.res (Box I LL)],true):=by kernel_rfl):Go P fn body nt F R ks tm L:=
 go_open i (by rw [Prod.mk.injEq] at h; rw [h.1,h.2]) hg
/-- what is known, written down -/
theorem gE{ks:List Kont}{tm:TM}{L:List Ent}(tm':TM)(L':List Ent)(hg:Go P fn body nt F R ks tm' L')(h:(tm,L)=(tm' ,L'):=by kernel_rfl): Go P fn body nt F R ks tm L:=go_cast h hg
theorem qR{f:FuncId}{args:Array Value}{pre L:List Ent}{v0:Value}(idx:List Nat)(hS:Ctr P f args pre (Ret v0 pre))(h:(pick L idx,places L.length idx)=(pre,true):=by kernel_rfl): QuietCall P F L f args v0:=
 quiet_of idx hS h (by rintro v post ⟨rfl,rfl⟩; exact⟨rfl,rfl⟩)
theorem lQ{f:FuncId}{args:Array Value}{pre L:List Ent}{v0:Value}(idx:List Nat)(hen:Enters P f)(hS:Ctr P f args pre (Ret v0 pre))(h:(pick L idx,places L.length idx)=(pre,true):=by kernel_rfl): LawQ P F L v0 callO (f,args):=
 law_call hen (qR idx hS h)
theorem qG{p:List Nat}{ks:List Kont}{tm:TM}{L:List Ent}{ps:List Prop}{cs:List (FuncId×Array Value×Value)}(KA:List (Nat×Kq))(keep:List Nat)(hps:AE P F L ps)(hcs:AQ P F L cs)
  (hk:Go P fn body nt F R ks (qT (quietAt P body nt p KA tm L keep)) L) (h:(quietAt P body nt p KA tm L keep).map (·.2)=some (ps,cs):=by kernel_rfl) (hmix:P.follows .mixedOrders=true:=by kernel_rfl):Go P fn body nt F R (.c p :: ks) tm L:=by
 cases hq:quietAt P body nt p KA tm L keep with
 | none=>rw [hq] at h; simp at h
 | some x=>
  rw [hq] at h hk
  obtain⟨t,p' ,c'⟩:=x
  simp only [Option.map_some,Option.some.injEq,Prod.mk.injEq] at h
  obtain⟨rfl,rfl⟩:=h
  exact go_quiet KA keep hmix hq hps.all hcs.all hk
theorem tC{p:List Nat}{ks:List Kont}{tm:TM}{L:List Ent}{f:FuncId}{args:Array Value}{pre:List Ent}{Ψ : Value→List Ent→Prop}{ps:List Prop}{cs:List (FuncId×Array Value×Value)}(dst:Option Nat)
  (KA:List (Nat×Kq)) (W:Nat) (KB:List (Nat×Kq)) (idx keep:List Nat) (hen:Enters P f) (hS:Ctr P f args pre Ψ) (hps:AE P F L ps) (hcs:AQ P F L cs)
  (hk:∀v post,Ψ v post→TailNext P fn body nt F R p KA W KB tm L keep v ks (dropAt L idx++post))
  (h:((tailAt P body nt p KA W KB tm L).map (fun x=>(calleeOf x.2.2.1 x.2.1,x.2.1.dst,x.2.2.2)),pick L idx,places L.length idx)=(some (some (f,args),dst,ps,cs),pre,true):=by kernel_rfl)
  (hmix:P.follows .mixedOrders=true:=by kernel_rfl):Go P fn body nt F R (.c p :: ks) tm L:=
 go_tail_call KA W KB idx keep hmix hen hS h hps.all hcs.all hk
def tS(P:Program)(x:Option (Array Oper×Oper×TM×List Prop×List (FuncId×Array Value×Value)))(hw:Hn)(L:List Ent): SOut Next:=match x with
 | some y=>opS P y.2.1 hw y.2.2.1 L
 | none=>.bad
theorem tO{p:List Nat}{ks:List Kont}{tm:TM}{L:List Ent}{ps:List Prop}{cs:List (FuncId×Array Value×Value)}
  (KA:List (Nat×Kq)) (W:Nat) (KB:List (Nat×Kq)) (hw:Hn) (keep:List Nat) (hps:AE P F L ps) (hcs:AQ P F L cs)
  (hk:Sat (fun v L'=>TailNext P fn body nt F R p KA W KB tm L keep v ks L') (tS P (tailAt P body nt p KA W KB tm L) hw L))
  (h:(tailAt P body nt p KA W KB tm L).map (fun x=>x.2.2.2)=some (ps,cs):=by kernel_rfl)
  (hmix:P.follows .mixedOrders=true:=by kernel_rfl):Go P fn body nt F R (.c p :: ks) tm L:=by
 cases hq:tailAt P body nt p KA W KB tm L with
 | none=>rw [hq] at h; simp at h
 | some x=>
  rw [hq] at h hk
  obtain⟨o,w,t,p' ,c'⟩:=x
  simp only [Option.map_some,Option.some.injEq,Prod.mk.injEq] at h
  obtain⟨rfl,rfl⟩:=h
  exact go_tail_op KA W KB hw keep hmix (by rw [hq]; rfl) hps.all hcs.all hk.h
theorem tN{p:List Nat}{KA:List (Nat×Kq)}{W:Nat}{KB:List (Nat×Kq)}{tm:TM}{L L':List Ent}{keep:List Nat}{v:Value}{ks:List Kont}{ps2:List Prop}
  (hps:AE P F [] ps2) (hgo:Go P fn body nt F R ks ((nT (tailGo P body nt p KA W KB tm L v)).restrict keep) L') (h:(tailGo P body nt p KA W KB tm L v).map (·.2)=some ps2:=by kernel_rfl) :
  TailNext P fn body nt F R p KA W KB tm L keep v ks L':=by
 cases hq:tailGo P body nt p KA W KB tm L v with
 | none=>rw [hq] at h; simp at h
 | some x=>
  rw [hq] at h hgo
  obtain⟨t,p'⟩:=x
  simp only [Option.map_some,Option.some.injEq] at h
  subst h
  exact tail_next (by rw [hq]; rfl) hps.all hgo
/-- a drawn region -/
theorem zG{p:List Nat}{ks:List Kont}{tm:TM}{L:List Ent}(h:Lz P fn body nt F R (regOps body p) ks (Array.replicate (regOps body p).size false) [] tm L)
  (hl:(match look body p with | .region _ _ true=>true | _=>false)=true:=by kernel_rfl) (hmix:P.follows .mixedOrders=true:=by kernel_rfl):Go P fn body nt F R (.c p :: ks) tm L:=go_lz hmix hl h
variable {ops:Array Oper} {ks:List Kont} {l:Array Bool} {V:List Nat} {T:TM} {L:List Ent}
theorem zN{ps:List Prop}(KA:List Nat)(KV:List (Nat×Lk))(keep:List Nat)(rs:List Nat)(hp:AE P F L ps)
  (hg:allN (LzOp P fn body nt F R ops ks (markAll l KA) (V++KA) ((nT (nodeV P F ops nt l V KA KV T L)).restrict keep) L) rs)
  (h:((nodeV P F ops nt l V KA KV T L).map (fun x=>(x.2,x.1.restrict (dstsOf ops V))),readyV ops (markAll l KA),rs.isEmpty)=(some (ps,T.restrict (dstsOf ops V)),rs,false):=by kernel_rfl):Lz P fn body nt F R ops ks l V T L:=by
 simp only [Prod.mk.injEq] at h
 cases hq:nodeV P F ops nt l V KA KV T L with
 | none=>rw [hq] at h; simp at h
 | some x=>
  rw [hq] at h hg
  obtain⟨t,p'⟩:=x
  obtain⟨h1,h2,h3⟩:=h
  simp only [Option.map_some,Option.some.injEq,Prod.mk.injEq] at h1
  obtain⟨rfl,h4⟩:=h1
  exact lz_node KA KV keep rs (by rw [hq]; simp only [Option.map_some,h2,h3,h4]; rfl) hp.all hg
theorem zE{ps:List Prop}(KA:List Nat)(KV:List (Nat×Lk))(keep:List Nat)(hp:AE P F L ps)
  (hg:Go P fn body nt F R ks ((nT (nodeV P F ops nt l V KA KV T L)).restrict keep) L)
  (h:((nodeV P F ops nt l V KA KV T L).map (fun x=>(x.2,x.1.restrict (dstsOf ops V))),(List.range ops.size).all (fun i=>(markAll l KA).getD i false))=(some (ps,T.restrict (dstsOf ops V)),true):=by kernel_rfl):Lz P fn body nt F R ops ks l V T L:=by
 simp only [Prod.mk.injEq] at h
 cases hq:nodeV P F ops nt l V KA KV T L with
 | none=>rw [hq] at h; simp at h
 | some x=>
  rw [hq] at h hg
  obtain⟨t,p'⟩:=x
  obtain⟨h1,h2⟩:=h
  simp only [Option.map_some,Option.some.injEq,Prod.mk.injEq] at h1
  obtain⟨rfl,h4⟩:=h1
  exact lz_end KA KV keep (by rw [hq]; simp only [Option.map_some,h2,h4]; rfl) hp.all hg
theorem zW{l':Array Bool}{V':List Nat}{T':TM}{L':List Ent}(keep idx:List Nat)(hg:Lz P fn body nt F R ops ks l' V' T' L')(h:(T.restrict keep,pick L idx,places L.length idx,l,V.all (hasNat V'))=(T' ,L',true,l',true):=by kernel_rfl): Lz P fn body nt F R ops ks l V T L:=lz_weak keep idx h hg
def oS(P:Program)(ops:Array Oper)(nt:Nat)(T:TM)(L:List Ent)(i:Nat)(hw:Hn): SOut Next:=match opLz ops nt T i with
 | some o=>opS P o hw T L
 | none=>.bad
def oD(ops:Array Oper)(nt:Nat)(T:TM)(i:Nat): Option Nat:=(opLz ops nt T i).bind (·.dst)
theorem zX{i:Nat}(hw:Hn)(hk:Sat (fun v L'=>Lz P fn body nt F R ops ks (l.setIfInBounds i true) (sureV ops V i) (putT (oD ops nt T i) v T) L') (oS P ops nt T L i hw))(h:(opLz ops nt T i).isSome=true:=by kernel_rfl): LzOp P fn body nt F R ops ks l V T L i:=by
 cases hq:opLz ops nt T i with
 | none=>rw [hq] at h; simp at h
 | some o=>
  unfold oS oD at hk
  rw [hq] at hk
  exact lz_op hw (by rw [hq]; rfl) hk.h
theorem lE{i:Nat}(L':List Ent)(hg:LzOp P fn body nt F R ops ks l V T L' i)(h:L=L':=by kernel_rfl): LzOp P fn body nt F R ops ks l V T L i:=h▸hg
theorem zC{i:Nat}{f:FuncId}{args:Array Value}{pre:List Ent}{Ψ : Value→List Ent→Prop}(dst:Option Nat)(idx:List Nat)(hen:Enters P f)(hS:Ctr P f args pre Ψ)
  (hk:∀v post,Ψ v post→Lz P fn body nt F R ops ks (l.setIfInBounds i true) (sureV ops V i) (putT dst v T) (dropAt L idx++post))
  (h:((opLz ops nt T i).map (fun o=>(calleeOf T o,o.dst)),pick L idx,places L.length idx)=(some (some (f,args),dst),pre,true):=by kernel_rfl):LzOp P fn body nt F R ops ks l V T L i:=by
 refine lz_call dst idx hen hS (l':=l.setIfInBounds i true) (V':=sureV ops V i) ?_ hk
 simp only [Prod.mk.injEq] at h
 simp only [h.1,h.2.1,h.2.2]
theorem zB{α : Type}{i:Nat}{Ψ : Value→List Ent→Prop}(dst:Option Nat)(A:Oper→α)(a0 : α)(hR:∀o,A o=a0→Runs P F o (execOp T.eval o) L Ψ)
  (hk:∀v L',Ψ v L'→Lz P fn body nt F R ops ks (l.setIfInBounds i true) (sureV ops V i) (putT dst v T) L') (h:(opLz ops nt T i).map (fun o=>(A o,o.dst))=some (a0,dst):=by kernel_rfl):LzOp P fn body nt F R ops ks l V T L i:=
 lz_by dst A a0 hR (l':=l.setIfInBounds i true) (V':=sureV ops V i) (by rw [h]) hk
end
end Go.Sx
namespace Go.Sx
section
variable {P:Program} {fn:Func} {body:Code} {nt:Nat} {F:Fr} {R:Ending→World→Prop} {ops:Array Oper} {ks:List Kont} {l:Array Bool} {tm:TM} {L:List Ent}
def aS(P:Program)(ops:Array Oper)(nt:Nat)(T:TM)(L:List Ent)(i:Nat)(hw:Hn): SOut Next:=match opIn ops nt T i with
 | some o=>opS P o hw T L
 | none=>.bad
def aD(ops:Array Oper)(nt:Nat)(T:TM)(i:Nat): Option Nat:=(opIn ops nt T i).bind (·.dst)
theorem aX{i:Nat}(hw:Hn)(hk:Sat (fun v L'=>Any P fn body nt F R ops ks (l.setIfInBounds i true) (putT (aD ops nt tm i) v tm) L') (aS P ops nt tm L i hw))(h:(opIn ops nt tm i).isSome=true:=by kernel_rfl): AnyOp P fn body nt F R ops ks l tm L i:=by
 cases hq:opIn ops nt tm i with
 | none=>rw [hq] at h; simp at h
 | some o=>
  unfold aS aD at hk
  rw [hq] at hk
  exact any_op hw (by rw [hq]; rfl) hk.h
theorem aP{ps:List Prop}(hs:List (Nat×Hn))(keep:List Nat)(hp:AE P F [] ps)(hg:Any P fn body nt F R ops ks (anyPure P ops nt hs 200 l tm []).1 (TM.restrict (anyPure P ops nt hs 200 l tm []).2.1 keep) L)
  (h:(Region.noSelect ops,(anyPure P ops nt hs 200 l tm []).2.2)=(true,ps):=by kernel_rfl):Any P fn body nt F R ops ks l tm L:=by
 simp only [Prod.mk.injEq] at h
 exact any_pure hs keep (by rw [h.1,h.2]) hp.all hg
theorem aW{l':Array Bool}{tm':TM}{L':List Ent}(keep idx:List Nat)(hg:Any P fn body nt F R ops ks l' tm' L')(h:(tm.restrict keep,pick L idx,places L.length idx,l)=(tm' ,L',true,l'):=by kernel_rfl): Any P fn body nt F R ops ks l tm L:=by
 simp only [Prod.mk.injEq] at h
 obtain⟨h1,h2,h3,rfl⟩:=h
 exact any_weak keep idx (by rw [h1,h2,h3]) hg
theorem aC{i:Nat}{f:FuncId}{args:Array Value}{pre:List Ent}{Ψ : Value→List Ent→Prop}(dst:Option Nat)(idx:List Nat)
  (hen:Enters P f) (hS:Ctr P f args pre Ψ) (hk:∀v post,Ψ v post→Any P fn body nt F R ops ks (l.setIfInBounds i true) (putT dst v tm) (dropAt L idx++post))
  (h:((opIn ops nt tm i).map (fun o=>(calleeOf tm o,o.dst)),pick L idx,places L.length idx)=(some (some (f,args),dst),pre,true):=by kernel_rfl):AnyOp P fn body nt F R ops ks l tm L i:=any_call dst idx hen hS h hk
theorem hW(keep idx:List Nat)(hg:Go P fn body nt F R ks (tm.restrict keep) (pick L idx))(h:places L.length idx=true:=by kernel_rfl): Go P fn body nt F R ks tm L:=go_weak keep idx (by rw [h]) hg
end
end Go.Sx
/- From a row to a contract: arguments as they lie in any memory. -/
namespace Go.Sx
open Go.ChangeShapes Go.WideShapes Go.RowKit
/-! ### flat values -/
inductive Kd
 | int (k:IntKind)
 | bool
def Kd.fits: Kd→Value→Prop
 | .int k,v => ∃n,v = .int k n∧(Lit.int k n).wf=true
 | .bool,v => ∃b,v = .bool b
def FitsAll: List Kd→List Value→Prop
 | [],[]=>True
 | k :: ks,v :: vs=>k.fits v∧FitsAll ks vs
 | _,_=>False
theorem FitsAll.len: ∀ {ks:List Kd} {vs:List Value},FitsAll ks vs→vs.length=ks.length
 | [],[],_=>rfl
 | _ :: _,_ :: _,h=>by simp [h.2.len]
 | [],_ :: _,h=>h.elim
 | _ :: _,[],h=>h.elim
theorem FitsAll.append: ∀ {ks ls:List Kd} {vs us:List Value},FitsAll ks vs→FitsAll ls us→FitsAll (ks++ls) (vs++us)
 | [],_,[],_,_,h=>h
 | _ :: _,_,_ :: _,_,h,h'=>⟨h.1,h.2.append h'⟩
 | [],_,_ :: _,_,h,_=>h.elim
 | _ :: _,_,[],_,h,_=>h.elim
def flatF(P:Program)(r:TypeId→Option (List Kd)): List Field→Nat→Option (List Kd)
 | [],_=>some []
 | f :: fs,off=>match r f.type with
  | some ks=>bif Nat.beq f.offset off&&Nat.beq ks.length (P.cellsOf f.type) then(flatF P r fs (off+ks.length)).map (ks ++ ·) else none
  | none=>none
def flat(P:Program): Nat→TypeId→Option (List Kd)
 | 0,_=>none
 | d+1,t=>match P.underlying t with
  | some (.int k)=>some [.int k]
  | some .bool=>some [.bool]
  | some (.struct fs)=>match flatF P (flat P d) fs.toList 0 with
   | some ks=>bif Nat.beq ks.length (P.cellsOf t) then some ks else none
   | none=>none
  | some (.array n e)=>match flat P d e with
   | some ks=>bif Nat.beq ks.length (P.cellsOf e)&&Nat.beq (n*ks.length) (P.cellsOf t) then some (List.replicate n ks).flatten else none
   | none=>none
  | _=>none
section
variable {H:Type} {enc:TypeId×Value→H} {P:Program} {w:World} {base:Nat} {spare:Nat→Bool} {held:Bool}
theorem flatF_fits{r:TypeId→Option (List Kd)}{cs:List Value}: ∀(fs:List Field) (off:Nat) (ks:List Kd),flatF P r fs off=some ks→off+ks.length=cs.length→
  (∀f∈fs,∀ks,r f.type=some ks→FitsAll ks ((cs.drop f.offset).take (P.cellsOf f.type)))→FitsAll ks (cs.drop off)
 | [],off,ks,h,hl,_=>by
  simp only [flatF,Option.some.injEq] at h
  subst h
  rw [List.drop_eq_nil_of_le (by simp at hl; omega)]
  trivial
 | f :: fs,off,ks,h,hl,hf=>by
  simp only [flatF] at h
  split at h
  ·rename_i ks1 hr
   cases hc:(Nat.beq f.offset off&&Nat.beq ks1.length (P.cellsOf f.type)) with
   | false=>rw [hc] at h; simp at h
   | true=>
    rw [hc] at h
    simp only [cond_true,Option.map_eq_some_iff] at h
    obtain⟨ks2,h2,rfl⟩:=h
    simp only [Bool.and_eq_true,Nat.beq_eq] at hc
    have h1:=hf f (List.mem_cons_self ..) ks1 hr
    rw [hc.1,←hc.2] at h1
    rw [List.length_append] at hl
    have ih:=flatF_fits fs (off+ks1.length) ks2 h2 (by omega) (fun g hg=>hf g (List.mem_cons_of_mem _ hg))
    have:=h1.append ih
    rw [←List.drop_drop,List.take_append_drop] at this
    exact this
  ·simp at h
theorem rep_fits{ks:List Kd}: ∀(n:Nat) (cs:List Value),cs.length=n*ks.length→(∀i,i<n→FitsAll ks ((cs.drop (i*ks.length)).take ks.length))→FitsAll (List.replicate n ks).flatten cs
 | 0,cs,h,_=>by
  have:cs=[]:=List.eq_nil_of_length_eq_zero (by simpa using h)
  subst this; trivial
 | n+1,cs,h,hi=>by
  have h0:=hi 0 (by omega)
  simp only [Nat.zero_mul,List.drop_zero] at h0
  rw [List.replicate_succ,List.flatten_cons,←List.take_append_drop ks.length cs]
  refine h0.append (rep_fits n _ (by rw [List.length_drop,h,Nat.succ_mul]; omega) fun i hin => ?_)
  have:=hi (i+1) (by omega)
  rw [List.drop_drop]
  rw [Nat.succ_mul,Nat.add_comm] at this
  exact this
theorem trod_flat: ∀(d:Nat) {t:TypeId} {ks:List Kd} {fuel:Nat} {cs:List Value} {x:DataW H×List MemPlace},flat P d t=some ks→DataW.trod enc P w base spare held fuel t cs=some x→FitsAll ks cs
 | 0,_,_,_,_,_,h,_=>by simp [flat] at h
 | d+1,t,ks,fuel,cs,x,h,ht=>by
  simp only [flat] at h
  split at h
  ·rename_i k hu
   simp only [Option.some.injEq] at h
   subst h
   obtain⟨n,rfl,_,hw⟩:=DataW.trod_int hu ht
   exact⟨⟨n,rfl,hw⟩,trivial⟩
  ·rename_i hu
   simp only [Option.some.injEq] at h
   subst h
   obtain⟨b,rfl,_⟩:=DataW.trod_bool hu ht
   exact⟨⟨b,rfl⟩,trivial⟩
  ·rename_i fs hu
   split at h
   ·rename_i ks' hks
    cases hc:Nat.beq ks'.length (P.cellsOf t) with
    | false=>rw [hc] at h; simp at h
    | true=>
     rw [hc] at h
     simp only [cond_true,Option.some.injEq] at h
     subst h
     rw [Nat.beq_eq] at hc
     obtain⟨xs,n,_,_,hlen,hxl,hf⟩:=DataW.trod_struct hu ht
     have:=flatF_fits (P:=P) (cs:=cs) fs.toList 0 ks' hks (by omega) (by
      intro f hm ks1 hr
      obtain⟨i,hi,hfi⟩:=List.mem_iff_getElem.1 hm
      have hgi:fs[i]? = some f:=by
       rw [←Array.getElem?_toList,List.getElem?_eq_getElem hi,hfi]
      have hx:xs[i]? = some (xs[i]'(by rw [hxl]; simpa using hi)):=List.getElem?_eq_getElem _
      exact trod_flat d hr ((hf i f hgi).trans hx))
     simpa using this
   ·simp at h
  ·rename_i n e hu
   split at h
   ·rename_i ks' hks
    cases hc:(Nat.beq ks'.length (P.cellsOf e)&&Nat.beq (n*ks'.length) (P.cellsOf t)) with
    | false=>rw [hc] at h; simp at h
    | true=>
     rw [hc] at h
     simp only [cond_true,Option.some.injEq] at h
     subst h
     simp only [Bool.and_eq_true,Nat.beq_eq] at hc
     obtain⟨xs,m,_,_,hlen,hxl,hf⟩:=DataW.trod_array hu ht
     refine rep_fits n cs (by omega) fun i hi => ?_
     have hx:xs[i]? = some (xs[i]'(by omega)):=List.getElem?_eq_getElem _
     have:=hf i hi
     rw [←hc.1] at this
     exact trod_flat d hks (this.trans hx)
   ·simp at h
  ·simp at h
/-- a flat argument -/
theorem open_flat(d:Nat){t:TypeId}{ks:List Kd}{v:Value}{y:DataW H}{ps:List MemPlace}{r0:Go.Reach}{b0:Nat}(hf:flat P d t=some ks)(ha:aggT P t=some true)(hv:Value.okWide P w r0 b0 t v)(h:DataW.Trod enc P w base spare held t v y ps):
  ∃cs,v = .agg cs∧FitsAll ks cs.toList:=by
 have:∃cs,v = .agg cs:=by
  unfold aggT at ha
  unfold Value.okWide at hv
  split at ha
  ·rename_i fs hu; rw [hu] at hv; obtain⟨cs,h1,_⟩:=hv; exact⟨cs,h1⟩
  ·rename_i n e hu; rw [hu] at hv; obtain⟨cs,h1,_⟩:=hv; exact⟨cs,h1⟩
  ·simp at ha
  ·simp at ha
 obtain⟨cs,rfl⟩:=this
 obtain⟨fuel,hx⟩:=h
 exact⟨cs,rfl,trod_flat d hf hx⟩
/-! ### rows -/
theorem rows_of{α : Type}{en : α→List Value}{Q : α→Prop}{sz:Nat}(hz:Sized en sz): ∀(n:Nat) (cs:List Value),cs.length=n*sz→(∀i,i<n→∃x,(cs.drop (i*sz)).take sz=en x∧Q x)→∃xs:List α,xs.length=n∧cellsOf en xs=cs∧∀x∈xs,Q x
 | 0,cs,h,_=>⟨[],rfl,by have:cs=[]:=List.eq_nil_of_length_eq_zero (by simpa using h); subst this; rfl,by simp⟩
 | n+1,cs,h,hi=>by
  obtain⟨x,hx,hq⟩:=hi 0 (by omega)
  simp only [Nat.zero_mul,List.drop_zero] at hx
  obtain⟨xs,h1,h2,h3⟩:=rows_of hz n (cs.drop sz) (by rw [List.length_drop,h,Nat.succ_mul]; omega) (fun i hin=>by
   have:=hi (i+1) (by omega)
   rw [List.drop_drop]
   rw [Nat.succ_mul,Nat.add_comm] at this
   exact this)
  refine⟨x :: xs,by simp [h1], ?_,fun y hy=>(List.mem_cons.1 hy).elim (fun e=>e▸hq) (h3 y)⟩
  unfold cellsOf at h2 ⊢
  rw [List.flatMap_cons,h2,←hx,List.take_append_drop]
/-- a slice of flat elements, as it lies in some memory -/
theorem open_rd{α : Type}{en : α→List Value}{d0 : α}{sz:Nat}(hz:Sized en sz){d:Nat}{t e:TypeId}{ks:List Kd}{v:Value}{y:DataW H}{ps:List MemPlace}(ht:P.underlying t=some (.slice e))(hf:flat P d e=some ks)(hs:P.cellsOf e=sz)(h0:0<sz)
  {Q : α→Prop} (hen:∀row,FitsAll ks row→∃x,row=en x∧Q x) {b0:Nat} (hv:Value.okWide P w .any b0 t v) (h:DataW.Trod enc P w base (fun _=>true) held t v y ps) :
  ∃(a:Option Addr) (c:Nat) (xs:List α) (bt:TypeId) (r:Rest) (foot:Ft),v = .slice a xs.length c∧(xs.length≤c∧∀x∈xs,Q x)∧c≤maxLen∧(Ent.rd a c en d0 sz xs bt r).den foot∧Fits foot w∧foot.length≤1∧∀g,(Ent.rd a c en d0 sz xs bt r).den g→∀p∈foot,p∈g:=by
 obtain⟨fuel,hx⟩:=h
 have hcs:v.cells.toList=[v]:=by
  unfold Value.okWide at hv
  rw [ht] at hv
  cases v with
  | agg cs=>
   exfalso
   simp only at hv
   simp [Cell.okWide,Cell.ok,ht] at hv
  | _=>rfl
 rcases Deep.open_slice ht hx with ⟨h1,_⟩ | ⟨a,len,cap,m,n,D,Pl,h1,hb,hl,hm,hmm,_,hi⟩
 ·rw [hcs] at h1
  simp only [List.cons.injEq,and_true] at h1
  subst h1
  refine⟨none,0,[],0,⟨[],[],(0,0)⟩,[],rfl,⟨by simp,by simp⟩,by simp,⟨hz,.inl ⟨rfl,rfl,fun _=>rfl⟩⟩,⟨by simp,by simp⟩,by simp,by simp⟩
 ·rw [hcs] at h1
  simp only [List.cons.injEq,and_true] at h1
  subst h1
  simp only [if_true] at hmm
  subst hmm
  rw [hs] at hi
  by_cases h00:len=0
  ·subst h00
   exact⟨some a,m,[],0,⟨[],[],(0,0)⟩,[],rfl,⟨hl,by simp⟩,hm,⟨hz,.inl ⟨rfl,rfl,fun h=>by cases h⟩⟩,⟨by simp,by simp⟩,by simp,by simp⟩
  ·have hcell:∀i,i<len→∃cs',cs'.length=sz∧FitsAll ks cs'∧∀j,j<sz→w.cell? (a.add (i*sz+j))=cs'[j]? := by
    intro i hin
    obtain⟨cs',hc,htt⟩:=hi i (by omega)
    obtain⟨_,hcl,hat⟩:=World.cells?_some hc
    refine⟨cs',hcl,trod_flat d hf htt,fun j hj => ?_⟩
    rw [←hat j hj,Go.Deep.add_add]
   obtain⟨c0,hc0,_,hat0⟩:=hcell 0 (by omega)
   have hfirst:=hat0 0 h0
   rw [List.getElem?_eq_getElem (by omega)] at hfirst
   obtain⟨b,off,spot⟩:=a
   have hblk:∃arr bt fz,w.heap[b]? = some (.cells arr bt fz)∧spot=none:=by
    have hbb:(Addr.add ⟨b,off,spot⟩ (0*sz+0)).block=b∧(Addr.add ⟨b,off,spot⟩ (0*sz+0)).spot=spot:=by simp [Addr.add]
    unfold World.cell? at hfirst
    rw [hbb.1,hbb.2] at hfirst
    split at hfirst
    ·rename_i arr bt fz hh
     refine⟨arr,bt,fz,hh, ?_⟩
     cases spot with
     | none=>rfl
     | some _=>simp at hfirst
    ·simp at hfirst
   obtain⟨arr,bt,fz,hh,rfl⟩:=hblk
   have hget:∀i,i<len→∀j,j<sz→∃cs',cs'.length=sz∧FitsAll ks cs'∧arr.toList[off+(i*sz+j)]? = cs'[j]? := by
    intro i hin j hj
    obtain⟨cs',h1,h2,h3⟩:=hcell i hin
    have:=h3 j hj
    rw [addr_add] at this
    simp only [World.cell?,hh,Option.isSome_none,Bool.false_eq_true,if_false] at this
    exact⟨cs',h1,h2,by rw [Array.getElem?_toList]; exact this⟩
   have hsize:off+len*sz≤arr.toList.length:=by
    obtain⟨cs',h1,_,h3⟩:=hget (len-1) (by omega) (sz-1) (by omega)
    rw [List.getElem?_eq_getElem (show sz-1<cs'.length by omega)] at h3
    have:=(List.getElem?_eq_some_iff.1 h3).1
    have e:(len-1)*sz+sz=len*sz:=by
     rw [←Nat.succ_mul]; congr 1; omega
    omega
   obtain⟨xs,hxl,hxs,hxq⟩:=rows_of (en:=en) (Q:=Q) hz len ((arr.toList.drop off).take (len*sz)) (by rw [List.length_take,List.length_drop]; omega) (by
    intro i hin
    obtain⟨cs',h1,h2,h3⟩:=hcell i hin
    obtain⟨x,hx,hq⟩:=hen cs' h2
    refine⟨x, ?_,hq⟩
    rw [←hx]
    have hle:i*sz+sz≤len*sz:=by
     rw [←Nat.succ_mul]; exact Nat.mul_le_mul_right _ hin
    apply List.ext_getElem?
    intro j
    by_cases hj:j<sz
    ·have:=h3 j hj
     rw [addr_add] at this
     simp only [World.cell?,hh,Option.isSome_none,Bool.false_eq_true,if_false] at this
     rw [List.getElem?_take_of_lt hj,List.getElem?_drop,List.getElem?_take_of_lt (by omega),List.getElem?_drop,Array.getElem?_toList,this]
    ·rw [List.getElem?_eq_none (by rw [List.length_take]; omega),List.getElem?_eq_none (by omega)])
   have hsplit:arr.toList=arr.toList.take off++cellsOf en xs++arr.toList.drop (off+len*sz):=by
    rw [hxs,List.append_assoc]
    rw [←List.drop_drop,List.take_append_drop,List.take_append_drop]
   have harr:(arr.toList.take off++cellsOf en xs++arr.toList.drop (off+len*sz)).toArray=arr:=by rw [←hsplit]
   refine⟨some ⟨b,off,none⟩,m,xs,bt,⟨arr.toList.take off,arr.toList.drop (off+len*sz),fz⟩,[(b,.cells arr bt fz)],by rw [hxl],⟨by omega,hxq⟩,hm, ?_, ?_,by simp, ?_⟩
   ·refine⟨hz,.inr ⟨b,off,rfl,by simp only [List.length_take]; omega,by omega, ?_⟩⟩
    simp only [harr]
   ·refine⟨by simp, ?_⟩
    intro p hp
    simp only [List.mem_singleton] at hp
    subst hp; exact hh
   ·rintro g ⟨_,⟨hxn,_⟩ | ⟨b',off',he,_,_,rfl⟩⟩ p hp
    ·exfalso
     rw [hxn] at hxl
     simp at hxl; omega
    ·simp only [Option.some.injEq,Addr.mk.injEq,and_true] at he
     obtain⟨rfl,rfl⟩:=he
     simp only [harr]
     exact hp
end
/-! ### the call -/
/-- all blocks of a memory but some -/
def others(w:World)(foot:Ft): Ft:=(List.range w.heap.size).filterMap fun i=>bif (foot.map (·.1)).contains i then none else(w.heap[i]?).map fun o=>(i,o)
theorem mem_others{w:World}{foot:Ft}{p:Nat×Obj}: p∈others w foot↔p.1<w.heap.size∧p.1∉foot.map (·.1)∧w.heap[p.1]? = some p.2:=by
 unfold others
 simp only [List.mem_filterMap,List.mem_range]
 constructor
 ·rintro⟨i,hi,h⟩
  cases hc:(foot.map (·.1)).contains i with
  | true=>rw [hc] at h; simp at h
  | false=>
   rw [hc] at h
   simp only [cond_false,Option.map_eq_some_iff] at h
   obtain⟨o,ho,rfl⟩:=h
   exact⟨hi,by simpa using hc,ho⟩
 ·rintro⟨h1,h2,h3⟩
  refine⟨p.1,h1, ?_⟩
  have:(foot.map (·.1)).contains p.1=false:=by simpa using h2
  rw [this]
  simp [h3]
theorem others_ids{w:World}{foot:Ft}: (others w foot).map (·.1)=(List.range w.heap.size).filter fun i => !(foot.map (·.1)).contains i:=by
 unfold others
 have:∀l:List Nat,(∀i∈l,i<w.heap.size)→(l.filterMap fun i=>bif (foot.map (·.1)).contains i then none else(w.heap[i]?).map fun o=>(i,o)).map (·.1)=l.filter fun i => !(foot.map (·.1)).contains i:=by
  intro l
  induction l with
  | nil=>intro _; rfl
  | cons i l ih=>
   intro hl
   have ih':=ih fun j hj=>hl j (List.mem_cons_of_mem _ hj)
   have hi:=hl i (List.mem_cons_self ..)
   cases hc:(foot.map (·.1)).contains i with
   | true=>rw [List.filterMap_cons_none (by rw [hc]; rfl),List.filter_cons_of_neg (by rw [hc]; simp)]; exact ih'
   | false=>
    rw [List.filterMap_cons_some (b:=(i,w.heap[i])) (by rw [hc]; simp [hi]),List.filter_cons_of_pos (by rw [hc]; rfl),List.map_cons,ih']
 exact this _ (fun i hi=>by simpa using hi)
theorem law_calls{P:Program}{f:FuncId}{args:Array Value}{v:Value}{L:List Ent}(hS:Ctr P f args L (Ret v L)){W:World}{foot:Ft}(hd:dens L foot)(hfit:Fits foot W)
  (hpin:∀g,dens L g→∀p∈foot,p∈g):Calls P f args W fun e W'=>e = .returned v∧Below W.heap.size W W':=by
 have hall:Fits (foot++others W foot) W:=by
  refine⟨?_, ?_⟩
  ·rw [List.map_append,others_ids,List.nodup_append]
   refine⟨hfit.1,List.nodup_range.filter _, ?_⟩
   intro a ha b hb hab
   subst hab
   simp only [List.mem_filter,Bool.not_eq_true',List.contains_eq_mem,decide_eq_false_iff_not] at hb
   exact hb.2 ha
  ·intro p hp
   rcases List.mem_append.1 hp with hp | hp
   ·exact hfit.2 p hp
   ·exact(mem_others.1 hp).2.2
 refine(hS {f:=others W foot,os:=W.os,tape:=W.tape,output:=W.output} W ⟨foot,hd,hall,rfl,rfl,rfl⟩).mono ?_
 rintro e W' ⟨v',post,rfl,⟨rfl,rfl⟩,g,hg,hfit',h1,h2,h3⟩
 refine⟨rfl, ?_⟩
 have hblock:∀k,k<W.heap.size→W'.heap[k]? = W.heap[k]? := by
  intro k hk
  by_cases hm:k∈foot.map (·.1)
  ·obtain⟨p,hp,rfl⟩:=List.mem_map.1 hm
   rw [hfit.2 p hp]
   exact hfit'.2 p (List.mem_append_left _ (hpin g hg p hp))
  ·have ho:W.heap[k]? = some W.heap[k]:=by simp [hk]
   rw [ho]
   exact hfit'.2 (k,W.heap[k]) (List.mem_append_right _ (mem_others.2 ⟨hk,hm,ho⟩))
 refine⟨h1,h2,h3, ?_,hblock⟩
 by_cases h0:W.heap.size=0
 ·omega
 ·have:=hblock (W.heap.size-1) (by omega)
  rw [show W.heap[W.heap.size-1]? = some (W.heap[W.heap.size-1]'(by omega)) by simp] at this
  have:=(Array.getElem?_eq_some_iff.1 this).1
  omega
/-! ### the row's end -/
section
variable {H:Type} {enc:TypeId×Value→H} {P:Program}
theorem stays_all(hl:laidOutB P=true){W W':World}(hb:Below W.heap.size W W'){sp:Nat→Bool}: ∀ {ts:List TypeId} {vs:List Value} {ds:List (DataW H)} {ps:List MemPlace},(∀t∈ts,P.readableRec t=true∧t<P.types.size)→
  DataW.TrodAll enc P W 0 (fun _=>true) true ts vs ds ps→(∀x∈ps,x.block<W.heap.size)→(∀x∈ps,sp x.block=true)→DataW.TrodAll enc P W' 0 sp true ts vs ds ps
 | [],[],[],_,_,h,_,_=>h
 | t :: ts,v :: vs,d :: ds,ps,hr,⟨p,q,h1,h2,e⟩,hlt,hs=>by
  subst e
  refine⟨p,q,WideElems.Trod_stays hl (hr t (List.mem_cons_self ..)).1 (hr t (List.mem_cons_self ..)).2 h1 (fun x hx=>hb.same (hlt x (List.mem_append_left _ hx))) (fun x hx=>hs x (List.mem_append_left _ hx)), ?_,rfl⟩
  exact stays_all hl hb (fun t ht=>hr t (List.mem_cons_of_mem _ ht)) h2 (fun x hx=>hlt x (List.mem_append_right _ hx)) (fun x hx=>hs x (List.mem_append_right _ hx))
 | [],_ :: _,_,_,_,h,_,_=>h.elim
 | [],[],_ :: _,_,_,h,_,_=>h.elim
 | _ :: _,[],_,_,_,h,_,_=>h.elim
 | _ :: _,_ :: _,[],_,_,h,_,_=>h.elim
theorem stays_list(hl:laidOutB P=true){W W':World}(hb:Below W.heap.size W W'){sp:Nat→Bool}{ts:List TypeId}{vs:List Value}{ds:List (DataW H)}{ps:List MemPlace}(hr:ts.all (fun t=>P.readableRec t&&Nat.blt t P.types.size)=true)
  (h:DataW.TrodAll enc P W 0 (fun _=>true) true ts vs ds ps) (hlt:∀x∈ps,x.block<W.heap.size) (hs:∀x∈ps,sp x.block=true):DataW.TrodAll enc P W' 0 sp true ts vs ds ps:=by
 refine stays_all hl hb (fun t ht => ?_) h hlt hs
 have:=List.all_eq_true.1 hr t ht
 simp only [Bool.and_eq_true,Nat.blt_eq] at this
 exact this
theorem dens_pin{e:Ent}{foot:Ft}(h:∀g,e.den g→∀p∈foot,p∈g): ∀g,dens [e] g→∀p∈foot,p∈g:=by
 rintro g ⟨f1,f2,rfl,h1,h2⟩ p hp
 exact List.mem_append_left _ (h f1 h1 p hp)
theorem dens_sing{e:Ent}{foot:Ft}(h:e.den foot): dens [e] foot:=⟨foot,[],by simp,h,rfl⟩
theorem fits_nil{w:World}: Fits [] w:=⟨by simp,by simp⟩
theorem law_post{f:Func}{s:ChangeSpec}{apart fresh handsOn again:Bool}{W W':World}{args:Array Value}{v:Value}{ds gs:List (DataW H)}{before:List MemPlace}
  (hW:DataW.Whole enc P f.params.toList s.vars apart W args.toList ds gs before)
  (hres:∀(b:Nat) (sp:Nat→Bool) (hd:Bool),DataW.TrodAll enc P W' b sp hd f.resultTypes.toList (v.resultList f.resultTypes.size) (s.fn H (ds++gs)).results [])
  (hargs:∀sp:Nat→Bool,(∀p∈before,sp p.block=true)→DataW.TrodAll enc P W' 0 sp true f.params.toList args.toList (s.fn H (ds++gs)).args before)
  (hvars:∀sp:Nat→Bool,DataW.TrodVars enc P W' sp s.vars (s.fn H (ds++gs)).vars []) (hb:Below W.heap.size W W')
  (hok:∀(j:Nat) (t:TypeId) (r:Value),f.resultTypes[j]? = some t→(v.resultList f.resultTypes.size)[j]? = some r→Value.okWide P W' .any 0 t r) :
  s.post enc P f apart fresh handsOn again W args v W':=by
 have hlt:∀p∈before,p.block<W.heap.size:=fun p hp=>hW.lt p hp
 have hold:∀p∈before,(fun b=>decide (b<W.heap.size)) p.block=true:=fun p hp=>by simpa using hlt p hp
 refine⟨ds,gs,before,[],before,[],hW,hres _ _ _,hargs _ hold,hvars _,World.keptBut_mono (fun p hp=>⟨hp,.inr (.inl hp)⟩) (hb.frame (·∈before)),fun _ => ?_⟩
 obtain⟨_,_,_,_,_,hz,hn⟩:=hW
 refine⟨hok,_,_,([]++before)++[],⟨[]++before,[],trodAll_append (hargs _ (fun _ _=>rfl)) (hres _ _ _),hvars _,rfl, ?_, ?_⟩, ?_⟩
 ·intro b off hp
  have hin:MemPlace.cell b off∈before:=by simpa using hp
  rw [hb.frozen (hlt _ hin)]
  exact hz b off hin
 ·intro ha
  have:=hn ha
  simpa using this
 ·intro p hp _
  simpa using hp
end
end Go.Sx

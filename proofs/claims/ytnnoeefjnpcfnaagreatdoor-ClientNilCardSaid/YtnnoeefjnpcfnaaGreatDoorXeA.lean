/- A second executor, which finds entries by tags and enters callees, and its soundness: no program in sight, part 1 of those on which ClientNil rests. -/
import Derived.Test.YtnnoeefjnpcfnaaGreatDoorSxB
import Derived.Stop.Asserts

set_option linter.unusedVariables false
set_option linter.unusedSimpArgs false
/- A second executor: ghost tags tell it which entry an address lies in; callees are entered; what is owed comes as nodes. -/
namespace Go.Sx
/-! ### tags: what is known of a value's form. They prove nothing: they only choose. -/
inductive Tg
 | n
 | c
 | i (k:Nat)
 | q (k:Nat) (neg:Bool)
 | e (k j off:Nat)
 | l (ts:List Tg)
def Tg.at: Tg→Nat→Tg
 | .l ts,x=>ts.getD x .n
 | .c,_=>.c
 | _,_=>.n
def Tg.isC: Tg→Bool
 | .c=>true
 | _=>false
/-- is the value's head known? -/
def Tg.hd: Tg→Bool
 | .n=>false
 | .q _ _=>false
 | _=>true
def Tg.cut(g:Tg)(off n:Nat): Tg:=match g with
 | .l ts=>.l ((ts.drop off).take n)
 | .c=>.c
 | _=>.n
abbrev TT:= List (Nat×Tg)
def TT.get: TT→Nat→Tg
 | [],_=>.n
 | (k,g) :: r,t=>bif Nat.beq k t then g else TT.get r t
def TT.of(tt:TT): Operand→Tg
 | .tmp t=>tt.get t
 | .global g=>.i (1000000+g)
 | _=>.c
/-- of each entry a number, and its cells' tags; the next number -/
structure Gh where
 es:List (Nat×List Tg)
 nx:Nat
def posE: List (Nat×List Tg)→Nat→Nat
 | [],_=>0
 | (i,_) :: r,k=>bif Nat.beq i k then 0 else Nat.succ (posE r k)
def Gh.pos(G:Gh)(k:Nat): Nat:=posE G.es k
def Gh.cells(G:Gh)(k:Nat): List Tg:=match G.es[G.pos k]? with
 | some x=>x.2
 | none=>[]
def spliceT(cs:List Tg)(off:Nat)(vs:List Tg): List Tg:=cs.take off++vs++cs.drop (off+vs.length)
def Gh.store(G:Gh)(k off:Nat)(vs:List Tg): Gh:=⟨G.es.set (G.pos k) (k,spliceT (G.cells k) off vs),G.nx⟩
def Gh.add(G:Gh)(cs:List Tg): Gh:=⟨G.es++[(G.nx,cs)],Nat.succ G.nx⟩
def Gh.drop(G:Gh)(idx:List Nat): Gh:=⟨((List.range G.es.length).filter (fun i => !idx.contains i)).filterMap (G.es[·]?),G.nx⟩
/-- the cells' tags of a value of so many cells -/
def Tg.cells(g:Tg)(agg:Bool)(n:Nat): List Tg:=match agg with
 | false=>[g]
 | true=>(List.range n).map g.at
def offOf: Value→Nat
 | .pointer (some a)=>a.off
 | _=>0
/-! ### where fields lie -/
def fieldT(P:Program)(t:TypeId)(f:Nat): Option (Nat×TypeId):=
 match P.underlying t with
 | some (.struct fs)=>(fs[f]?).map fun x=>(x.offset,x.type)
 | _=>none
def elemA(P:Program)(t:TypeId): Option TypeId:=
 match P.underlying t with
 | some (.array _ e)=>some e
 | some (.slice e)=>some e
 | some (.pointer p)=>match P.underlying p with
  | some (.array _ e)=>some e
  | _=>none
 | _=>none
def szT(P:Program)(t:TypeId): Nat:=(sizeT P t).getD 1
def agT(P:Program)(t:TypeId): Bool:=(aggT P t).getD false
def litN: Value→Nat
 | .int _ (.ofNat n)=>n
 | _=>0
def layT(P:Program)(t:TypeId)(tt:TT): List (Nat×Operand)→List Tg→List Tg
 | [],z=>z
 | (i,x) :: r,z=>match P.underlying t with
  | some (.struct fs)=>match fs[i]? with
   | some fd=>layT P t tt r (spliceT z fd.offset ((tt.of x).cells (agT P fd.type) (szT P fd.type)))
   | none=>z
  | some (.array _ e)=>layT P t tt r (spliceT z (i*szT P e) ((tt.of x).cells (agT P e) (szT P e)))
  | some (.slice e)=>layT P t tt r (spliceT z (i*szT P e) ((tt.of x).cells (agT P e) (szT P e)))
  | _=>z
def isPts(L:List Ent)(i:Nat): Bool:=match L[i]? with
 | some (.pts ..)=>true
 | _=>false
/-- the tag of what an operation yields -/
def resT(P:Program)(tm:TM)(tt:TT)(L:List Ent)(G:Gh)(o:Op): Tg:=
 match o with
 | .move x=>tt.of x
 | .assign x=>tt.of x
 | .nilCheck x=>tt.of x
 | .pick c a b=>match tt.of c with
  | .c=>match tm.eval c with
   | .bool true=>tt.of a
   | _=>tt.of b
  | _=>.n
 | .alloc _=>.i G.nx
 | .box _ _=>.i G.nx
 | .build t ps=>.l (layT P t tt ps.toList (List.replicate (szT P t) .c))
 | .buildSlice _ _ _=>.i G.nx
 | .makeMap _ _=>.i G.nx
 | .load t a=>match tt.of a with
  | .i k=>let cs:=G.cells k; let off:=offOf (tm.eval a)
   bif agT P t then .l ((cs.drop off).take (szT P t)) else cs.getD off .n
  | _=>.n
 | .fieldAddr t x f=>match tt.of x with
  | .e k j off=>match fieldT P t f with
   | some (fo,_)=>.e k j (Nat.succ (off+fo))
   | none=>.n
  | g=>g
 | .field t x f=>match fieldT P t f with
  | some (fo,ft)=>bif agT P ft then(tt.of x).cut fo (szT P ft) else(tt.of x).at fo
  | none=>.n
 | .index t x ix=>match elemA P t with
  | some e=>bif agT P e then(tt.of x).cut (litN (tm.eval ix)*szT P e) (szT P e) else(tt.of x).at (litN (tm.eval ix)*szT P e)
  | none=>.n
 | .indexAddr t x ix=>match tt.of x with
  | .i k=>match P.underlying t with
   | some (.slice e)=>bif isPts L (G.pos k) then .i k else match tm.eval ix with
    | .int _ i=>.e k i.toNat 0
    | _=>.n
   | _=>.i k
  | _=>.n
 | .makeInterface _ x=>.l [tt.of x]
 | .makeFunc _ a b=>.l [.l (a.toList.map tt.of),.l (b.toList.map tt.of)]
 | .extract x i=>(tt.of x).at i
 | .typeAssert x _ _ ok=>bif ok then .l [(tt.of x).at 0,.c] else(tt.of x).at 0
 | .binOp op _ x y _=>match op with
  | .eql=>bif ((tt.of x).hd&&(tt.of y).hd) then .c else .n
  | .neq=>bif ((tt.of x).hd&&(tt.of y).hd) then .c else .n
  | _=>bif ((tt.of x).isC&&(tt.of y).isC) then .c else .n
 | .unOp op _ x=>match tt.of x with
  | .c=>.c
  | .q k b=>match op with
   | .not=>.q k (!b)
   | _=>.n
  | _=>.n
 | .convert _ _ x=>match tt.of x with
  | .c=>.c
  | _=>.n
 | .slice _ x _ _ _=>tt.of x
 | .call c=>match c.callee with
  | .builtin _=>bif c.args.toList.all fun x=>(tt.of x).isC then .c else .n
  | _=>.n
 | _=>.n
/-- the ghost state behind an operation -/
def ghT(P:Program)(tm:TM)(tt:TT)(G:Gh)(o:Op): Gh:=
 match o with
 | .alloc t=>G.add (List.replicate (szT P t) .c)
 | .box t x=>G.add ((tt.of x).cells (agT P t) (szT P t))
 | .buildSlice t n ps=>match elemA P t with
  | some e=>G.add (layT P t tt ps.toList (List.replicate (n*szT P e) .c))
  | none=>G
 | .makeMap _ _=>G.add []
 | .store t a x=>match tt.of a with
  | .i k=>G.store k (offOf (tm.eval a)) ((tt.of x).cells (agT P t) (szT P t))
  | _=>G
 | _=>G
/-! ### what an operation comes to -/
inductive SO2 (α : Type):Type 1
 | ok (v : α) (L:List Ent)
 | new (k:Nat→SO2 α)
 | eqn {β : Type} (x y : β) (o:SO2 α)
 | obl (p:Prop) (o:SO2 α)
 | ex {β : Type} (k : β→SO2 α)
 | bad
def SO2.sat{α : Type}(Φ : α→List Ent→Prop): SO2 α→Prop
 | .ok v L => Φ v L
 | .new k => ∀b,(k b).sat Φ
 | .eqn x y o=>x=y∧o.sat Φ
 | .obl p o=>p∧o.sat Φ
 | .ex k => ∃x,(k x).sat Φ
 | .bad=>False
def SOut.so2{α : Type}: SOut α→SO2 α
 | .ok v L=>.ok v L
 | .new k=>.new fun b=>(k b).so2
 | .newV _=>.bad
 | .obl p o=>.obl p o.so2
 | .ex k=>.ex fun x=>(k x).so2
 | .bad=>.bad
theorem SOut.so2_sat{α : Type}{Φ : α→List Ent→Prop}: ∀ {o:SOut α},o.so2.sat Φ→o.sat Φ
 | .ok _ _,h=>h
 | .new k,h=>fun b=>SOut.so2_sat (h b)
 | .newV _,h=>h.elim
 | .obl _ o,h=>⟨h.1,SOut.so2_sat h.2⟩
 | .ex k,h=>let ⟨x,hx⟩:=h; ⟨x,SOut.so2_sat hx⟩
 | .bad,h=>h.elim
def ldE2(P:Program)(t:TypeId)(av:Value)(L:List Ent)(i:Nat): SO2 Next:=
 match L[i]?,av,aggT P t,sizeT P t with
 | some (.pts b cs _),.pointer (some ⟨b',off,none⟩),some ag,some n=>
  bif Nat.ble (off+n) cs.length&&(ag||Nat.beq n 1) then .eqn b' b (.ok (.value (valOf ag ((cs.drop off).take n))) L) else .bad
 | _,_,_,_=>.bad
def ldJ2(P:Program)(t:TypeId)(av:Value)(L:List Ent)(i j:Nat): SO2 Next:=
 match L[i]?,aggT P t,sizeT P t with
 | some (.sl a _ enc d sz xs _),some ag,some n=>
   bif Nat.beq n sz&&(ag||Nat.beq n 1) then .eqn av (slAt a j sz) (.obl (j<xs.length) (.ok (.value (valOf ag (enc (xs.getD j d)))) L)) else .bad
 | some (.rd a _ enc d sz xs _ _),some ag,some n=>
   bif Nat.beq n sz&&(ag||Nat.beq n 1) then .eqn av (slAt a j sz) (.obl (j<xs.length) (.ok (.value (valOf ag (enc (xs.getD j d)))) L)) else .bad
 | _,_,_=>.bad
def stE2(P:Program)(t:TypeId)(av v:Value)(L:List Ent)(i:Nat): SO2 Next:=
 match L[i]?,av,sizeT P t with
 | some (.pts b cs ty),.pointer (some ⟨b',off,none⟩),some n=>
  bif Nat.ble (off+n) cs.length&&Nat.beq v.cells.toList.length n&&v.cells.toList.all (·.oneCell') then .eqn b' b (.ok .skip (L.set i (.pts b (splice cs off v.cells.toList) ty))) else .bad
 | _,_,_=>.bad
def stJ2(P:Program)(t:TypeId)(av v:Value)(L:List Ent)(i j:Nat): SO2 Next:=
 match L[i]?,sizeT P t with
 | some (.sl (α := α) a c enc d sz xs ty),some n=>
   bif Nat.beq n sz&&v.cells.toList.all (·.oneCell') then
    .eqn av (slAt a j sz) (.obl (j<xs.length) (.ex fun x : α => .eqn v.cells.toList (enc x) (.ok .skip (L.set i (.sl a c enc d sz (xs.set j x) ty))))) else .bad
 | _,_=>.bad
def ixS2(P:Program)(t:TypeId)(xv iv:Value)(L:List Ent)(i:Nat): SO2 Next:=
 match xv,iv,(elemT P t).bind (sizeT P),L[i]? with
 | .slice a' n _,.int _ ix,some sz',some (.sl a _ _ _ sz xs _)=>
   bif Nat.beq sz sz' then .eqn a' a (.obl (n≤xs.length∧0≤ix∧ix<(n:Int)) (.ok (.value (slAt a ix.toNat sz)) L)) else .bad
 | .slice a' n _,.int _ ix,some sz',some (.rd a _ _ _ sz xs _ _)=>
   bif Nat.beq sz sz' then .eqn a' a (.obl (n≤xs.length∧0≤ix∧ix<(n:Int)) (.ok (.value (slAt a ix.toNat sz)) L)) else .bad
 | _,_,_,_=>.bad
inductive H2
 | v (h:Hn)
 | ld (i:Nat)
 | lj (i j:Nat)
 | st (i:Nat)
 | sj (i j:Nat)
 | ix (i:Nat)
 | no
def opS2(P:Program)(o:Oper)(h:H2)(tm:TM)(L:List Ent): SO2 Next:=
 match h,o.op with
 | .ld i,.load t a=>ldE2 P t (tm.eval a) L i
 | .lj i j,.load t a=>ldJ2 P t (tm.eval a) L i j
 | .st i,.store t a x=>stE2 P t (tm.eval a) (tm.eval x) L i
 | .sj i j,.store t a x=>stJ2 P t (tm.eval a) (tm.eval x) L i j
 | .ix i,.indexAddr t x ix=>ixS2 P t (tm.eval x) (tm.eval ix) L i
 | .v h,_=>(opS P o h tm L).so2
 | _,_=>.bad
theorem so2_bif{α : Type}{b:Bool}{o:SO2 α}{Φ : α→List Ent→Prop}(h:(bif b then o else .bad).sat Φ): b=true∧o.sat Φ := by
 cases b with
 | true=>exact⟨rfl,h⟩
 | false=>exact h.elim
theorem opS2_sat{P:Program}{o:Oper}{h:H2}{tm:TM}{L:List Ent}{Φ : Next→List Ent→Prop}(hs:(opS2 P o h tm L).sat Φ): ∃h1,(opS P o h1 tm L).sat Φ := by
 unfold opS2 at hs
 split at hs
 ·rename_i i t a hop
  refine⟨.e i, ?_⟩
  unfold opS
  simp only [hop,SOut.sat_bind]
  unfold ldE2 at hs
  unfold ldE
  split at hs
  ·rename_i h1 h2 h3 h4
   simp only [h1,h2,h3,h4]
   obtain⟨hc,hs⟩:=so2_bif hs
   simp only [hc,cond_true]
   exact hs
  ·exact hs.elim
 ·rename_i i j t a hop
  refine⟨.j i j, ?_⟩
  unfold opS
  simp only [hop,SOut.sat_bind]
  unfold ldJ2 at hs
  unfold ldJ
  split at hs
  ·rename_i h1 h2 h3
   simp only [h1,h2,h3]
   obtain⟨hc,hs⟩:=so2_bif hs
   simp only [hc,cond_true]; exact hs
  ·rename_i h1 h2 h3
   simp only [h1,h2,h3]
   obtain⟨hc,hs⟩:=so2_bif hs
   simp only [hc,cond_true]; exact hs
  ·exact hs.elim
 ·rename_i i t a x hop
  refine⟨.e i, ?_⟩
  unfold opS
  simp only [hop,SOut.sat_bind]
  unfold stE2 at hs
  unfold stE
  split at hs
  ·rename_i h1 h2 h3
   simp only [h1,h2,h3]
   obtain⟨hc,hs⟩:=so2_bif hs
   simp only [hc,cond_true]; exact hs
  ·exact hs.elim
 ·rename_i i j t a x hop
  refine⟨.j i j, ?_⟩
  unfold opS
  simp only [hop,SOut.sat_bind]
  unfold stJ2 at hs
  unfold stJ
  split at hs
  ·rename_i h1 h2
   simp only [h1,h2]
   obtain⟨hc,hs⟩:=so2_bif hs
   simp only [hc,cond_true]; exact hs
  ·exact hs.elim
 ·rename_i i t x ix hop
  refine⟨.s i, ?_⟩
  unfold opS
  simp only [hop]
  unfold ixS2 at hs
  split at hs
  ·rename_i h1 h2 h3 h4
   simp only [h1,h2,h3,h4]
   obtain⟨hc,he,⟨hn,hi⟩,hs⟩:=so2_bif hs
   simp only [hc,cond_true]
   exact⟨⟨he,hn⟩,hi,hs⟩
  ·rename_i h1 h2 h3 h4
   simp only [h1,h2,h3,h4]
   obtain⟨hc,he,⟨hn,hi⟩,hs⟩:=so2_bif hs
   simp only [hc,cond_true]
   exact⟨⟨he,hn⟩,hi,hs⟩
  ·exact hs.elim
 ·exact⟨_,SOut.so2_sat hs⟩
 ·exact hs.elim
end Go.Sx
/- A region may read a temporary that it makes anew later: what is read is what was there. -/
set_option linter.unusedSimpArgs false
namespace Go.Sx
section
variable {P:Program} {Q:Exit→Act→World→Prop}
theorem upon_step{o o':Oper}(hd:o'.dst=o.dst){a:Act}{K K':Act→World→Prop}(h:∀ds v w,K' (({a with defers:=ds}:Act).put o.dst v) w→K (({a with defers:=ds}:Act).put o.dst v) w){r:Result Next}(hu:o'.upon P a K' Q r): o.upon P a K Q r:=by
 have h0:∀v w,K' (a.put o.dst v) w→K (a.put o.dst v) w:=fun v w=>h a.defers v w
 cases r with
 | ok n w'=>
  cases n <;> simp only [Oper.upon,hd] at hu ⊢ <;>
   first
    | exact hu
    | exact h _ _ _ hu
    | exact h0 _ _ hu
    | exact Calls.mono hu (fun e w'' he=>by cases e <;> first | exact h0 _ _ he | exact he)
    | exact Rows.mono hu (fun _ _ he=>h0 _ _ he)
 | halt x w'=>cases x <;> simp only [Oper.upon] at hu ⊢ <;> exact hu
/-- the operations, but for moves of what was there -/
structure SubOps (ops ops':Array Oper) (Sub:Nat→Nat→Value→Prop):Prop where
 size:ops'.size=ops.size
 op:∀(i:Nat) (o:Oper),ops[i]? = some o→∃o':Oper,ops'[i]? = some o' ∧o'.dst=o.dst∧o'.after=o.after∧o'.guard=o.guard∧(o'=o∨∃t v,Sub i t v∧o.op = .move (.tmp t)∧o'.op = .move (.const v))
 dep:∀(i t:Nat) (v:Value),Sub i t v→∀(j:Nat) (o:Oper),ops[j]? = some o→o.dst=some t→i∈depsOf o
theorem SubOps.none{ops ops':Array Oper}{Sub:Nat→Nat→Value→Prop}(h:SubOps ops ops' Sub){i:Nat}(hi:ops[i]? = none): ops'[i]? = none:=by
 rw [Array.getElem?_eq_none_iff] at hi ⊢
 rw [h.size]; exact hi
theorem SubOps.ready{ops ops':Array Oper}{Sub:Nat→Nat→Value→Prop}(h:SubOps ops ops' Sub)(l:Array Bool): Region.ready .any ops' l=Region.ready .any ops l:=by
 unfold Region.ready
 rw [h.size]
 apply List.filter_congr
 intro i hi
 have hlt:i<ops.size:=by simpa using hi
 obtain⟨o',h1,_,h3,_⟩:=h.op i ops[i] (by simp [hlt])
 rw [h1]
 simp [hlt,h3]
theorem SubOps.yields{ops ops':Array Oper}{Sub:Nat→Nat→Value→Prop}(h:SubOps ops ops' Sub)(tm:Array Value): yielded ops' tm=yielded ops tm:=by
 funext j
 unfold yielded
 cases hj:ops[j]? with
 | none=>rw [h.none hj]
 | some o=>
  obtain⟨o',h1,h2,_⟩:=h.op j o hj
  rw [h1]
  simp [h2]
theorem wpAny_sub{ops ops':Array Oper}{Sub:Nat→Nat→Value→Prop}(hS:SubOps ops ops' Sub): ∀(fuel:Nat) (l:Array Bool) (a:Act) (w:World),
  (∀i t v,Sub i t v→l.getD i true=false→a.tmps[t]? = some v)→wpAny P .any ops' Q fuel l a w→wpAny P .any ops Q fuel l a w:=by
 intro fuel
 induction fuel with
 | zero=>intro l a w _ h; simp only [wpAny,hS.ready] at h ⊢; exact h
 | succ fuel ih=>
  intro l a w hinv h
  simp only [wpAny,hS.ready] at h ⊢
  refine⟨h.1,fun i hi => ?_⟩
  have h2:=h.2 i hi
  obtain⟨hlt,hno,o,ho,hdeps⟩:=mem_ready.1 hi
  obtain⟨o',ho',hd,hafter,hg,hsub⟩:=hS.op i o ho
  have hK:∀ds v w,wpAny P .any ops' Q fuel (l.setIfInBounds i true) (({a with defers:=ds}:Act).put o.dst v) w→wpAny P .any ops Q fuel (l.setIfInBounds i true) (({a with defers:=ds}:Act).put o.dst v) w:=by
   intro ds v w' hw
   refine ih _ _ _ ?_ hw
   intro i' t v' hs hl
   have hne:i'≠i:=by
    rintro rfl
    by_cases hb:i'<l.size
    ·simp [Array.getD,hb] at hl
    ·simp [Array.getD,hb] at hl
   have hl':l.getD i' true=false:=by
    simp only [Array.getD_eq_getD_getElem?,Array.getElem?_setIfInBounds_ne (Ne.symm hne)] at hl ⊢
    exact hl
   have hold:=hinv i' t v' hs hl'
   have hdt:o.dst≠some t:=by
    intro he
    have:=hdeps i' (hS.dep i' t v' hs i o ho he)
    have e:l.getD i' false=l.getD i' true∨l.getD i' false=false:=by
     by_cases hb:i'<l.size
     ·left; simp [Array.getD,hb]
     ·right; simp [Array.getD,hb]
    rcases e with e | e
    ·rw [e,hl'] at this; cases this
    ·rw [e] at this; cases this
   unfold Act.put
   cases hdd:o.dst with
   | none=>exact hold
   | some d=>
    have:d≠t:=fun e=>hdt (by rw [hdd,e])
    simp only
    rw [Array.getElem?_setIfInBounds_ne this]
    exact hold
  have hex:execOp a.eval o'=execOp a.eval o:=by
   rcases hsub with rfl | ⟨t,v,hs,e1,e2⟩
   ·rfl
   ·have:=hinv i t v hs hno
    simp only [execOp,e1,e2]
    simp [Act.eval,Array.getD_eq_getD_getElem?,this]
  unfold wpOp at h2 ⊢
  rw [ho'] at h2
  rw [ho]
  have hwant:Region.wanted o' (yielded ops' a.tmps)=Region.wanted o (yielded ops a.tmps):=by
   rw [hS.yields]
   unfold Region.wanted
   rw [hg]
  simp only [hwant] at h2
  simp only
  split
  ·rename_i hw
   simp only [hw,if_true] at h2
   rcases h2 with h2 | h2
   ·left
    unfold Oper.wp at h2 ⊢
    rw [hex] at h2
    exact upon_step hd hK h2
   ·right
    refine⟨?_,h2.2⟩
    have:=h2.1
    unfold Oper.asks at this ⊢
    rw [hex] at this
    exact this
  ·rename_i hw
   simp only [hw] at h2
   rw [hd] at h2
   exact hK a.defers undef w h2
theorem go_lzS{fn:Func}{body:Code}{nt:Nat}{F:Fr}{R:Ending→World→Prop}{p:List Nat}{id:Nat}{ops ops':Array Oper}{ks:List Kont}{tm tm':TM}{L:List Ent}{Sub:Nat→Nat→Value→Prop}(hmix:P.follows .mixedOrders=true)(hl:look body p = .region id ops true)
  (hS:SubOps ops ops' Sub) (hold:∀i t v,Sub i t v→tm.get t=some v) (hw:∀t v,tm'.get t=some v→tm.get t=some v) (h:Lz P fn body nt F R ops' ks (Array.replicate ops'.size false) [] tm' L):Go P fn body nt F R (.c p :: ks) tm L:=by
 intro a w ht hi
 simp only [KQ,hl]
 refine wp_region_any hmix ?_
 refine wpAny_sub hS _ _ _ _ (fun i t v hs _=>ht.get t v (hold i t v hs)) ?_
 have ht':=ht.weak hw
 rw [←hS.size]
 refine h _ a _ _ (by simp only [countNo]; exact Nat.le_trans List.countP_le_length (by simp)) ⟨by simp,by simp, ?_, ?_, ?_,ht'.size,ht'.defers,fun t v hv _=>ht'.get t v hv⟩ hi.drew
 ·intro i hi; rw [replicate_no] at hi; cases hi
 ·intro i _ hi; rw [replicate_no] at hi; cases hi
 ·intro i _ _ hi; rw [replicate_no] at hi; cases hi
end
/-- does an operation read what was there ahead of the region, though it is made anew behind it? -/
def usesOld(ops:Array Oper)(i t:Nat): Bool:=
 (ops.toList.any fun o=>match o.dst with
  | some d=>Nat.beq d t
  | none=>false)&&ops.toList.all fun o=>match o.dst with
  | some d => !(Nat.beq d t)||hasNat (depsOf o) i
  | none=>true
def subOne(tm:TM)(ops:Array Oper)(i:Nat)(o:Oper): Oper:=match o.op with
 | .move (.tmp t)=>bif usesOld ops i t then match tm.get t with
  | some v => {o with op:=.move (.const v)}
  | none=>o
  else o
 | _=>o
def subFrom(tm:TM)(ops:Array Oper): Nat→List Oper→List Oper
 | _,[]=>[]
 | i,o :: r=>subOne tm ops i o :: subFrom tm ops (Nat.succ i) r
def subOps(tm:TM)(ops:Array Oper): Array Oper:=(subFrom tm ops 0 ops.toList).toArray
def needsOld(ops:Array Oper): Nat→List Oper→Bool
 | _,[]=>false
 | i,o :: r=>(match o.op with
  | .move (.tmp t)=>usesOld ops i t
  | _=>false)||needsOld ops (Nat.succ i) r
theorem subFrom_get(tm:TM)(ops:Array Oper): ∀(l:List Oper) (i j:Nat),(subFrom tm ops i l)[j]? = (l[j]?).map (subOne tm ops (i+j))
 | [],_,_=>rfl
 | o :: r,i,0=>rfl
 | o :: r,i,j+1=>by
  show(subFrom tm ops (Nat.succ i) r)[j]? = (r[j]?).map (subOne tm ops (i+(j+1)))
  rw [subFrom_get tm ops r (Nat.succ i) j,show Nat.succ i+j=i+(j+1) from by omega]
theorem subFrom_len(tm:TM)(ops:Array Oper): ∀(l:List Oper) (i:Nat),(subFrom tm ops i l).length=l.length
 | [],_=>rfl
 | o :: r,i=>by
  show(subFrom tm ops (Nat.succ i) r).length+1=r.length+1
  rw [subFrom_len tm ops r]
theorem subOps_ok(tm:TM)(ops:Array Oper): SubOps ops (subOps tm ops) fun i t v=>tm.get t=some v∧usesOld ops i t=true where
 size:=by
  show(subFrom tm ops 0 ops.toList).toArray.size=ops.size
  rw [List.size_toArray,subFrom_len]
  rfl
 op i o ho:=by
  have hl:ops.toList[i]? = some o:=by rw [Array.getElem?_toList]; exact ho
  refine⟨subOne tm ops i o, ?_, ?_⟩
  ·show(subFrom tm ops 0 ops.toList).toArray[i]? = _
   rw [List.getElem?_toArray,subFrom_get,hl,Nat.zero_add]
   rfl
  ·unfold subOne
   split
   ·rename_i t hop
    cases hu:usesOld ops i t with
    | false=>exact⟨rfl,rfl,rfl,.inl rfl⟩
    | true=>
     simp only [cond_true]
     cases hv:tm.get t with
     | none=>exact⟨rfl,rfl,rfl,.inl rfl⟩
     | some v=>exact⟨rfl,rfl,rfl,.inr ⟨t,v,⟨hv,hu⟩,hop,rfl⟩⟩
   ·exact⟨rfl,rfl,rfl,.inl rfl⟩
 dep i t v hs j o ho hd:=by
  have h:=hs.2
  unfold usesOld at h
  rw [Bool.and_eq_true] at h
  have h2:=List.all_eq_true.1 h.2 o (by
   obtain⟨hlt,hget⟩:=Array.getElem?_eq_some_iff.1 ho
   rw [←hget]
   exact Array.getElem_mem_toList hlt)
  rw [hd] at h2
  simp only [Nat.beq_refl,Bool.not_true,Bool.false_or] at h2
  exact hasNat_mem h2
end Go.Sx
/- The second executor: what it comes to, and the executor itself. -/
namespace Go.Sx
inductive Out2:Type 1
 | bad
 | ret (v:Value) (g:Tg) (L:List Ent) (G:Gh)
 | stop (ks:List Kont) (tm:TM) (tt:TT) (L:List Ent) (G:Gh)
 | br (b:Bool) (t f:Out2)
 | and (a b:Out2)
 | eqn {β : Type} (x y : β) (o:Out2)
 | obl (p:Prop) (o:Out2)
 | new (k:Nat→Out2)
 | ex {β : Type} (k : β→Out2)
 | call (f:FuncId) (args:List Value) (gs:List Tg) (L:List Ent) (G:Gh) (k:Value→Tg→List Ent→Gh→Out2)
 | op (o:Oper) (tm:TM) (tt:TT) (L:List Ent) (G:Gh) (k:Value→Tg→List Ent→Gh→Out2)
/-- a call, from such a memory on -/
def CallsL(P:Program)(F:Fr)(f:FuncId)(args:List Value)(L:List Ent)(Φ : Value→List Ent→Prop): Prop:=
 ∀w,In L F w→Calls P f args.toArray w fun e w' => ∃v L',e = .returned v∧Φ v L'∧In L' F w'
section
variable (P:Program) (F:Fr) (Ψ : Value→List Ent→Prop) (S:List Kont→TM→List Ent→Prop)
def Out2.ok: Out2→Prop
 | .bad=>False
 | .ret v _ L _ => Ψ v L
 | .stop ks tm _ L _=>S ks tm L
 | .br b t f=>(b=true→t.ok)∧(b=false→f.ok)
 | .and a b=>a.ok∧b.ok
 | .eqn x y o=>x=y∧o.ok
 | .obl p o=>p∧o.ok
 | .new k => ∀b,(k b).ok
 | .ex k => ∃x,(k x).ok
 | .call f args _ L _ k=>Enters P f∧∃ Φ,CallsL P F f args L Φ∧∀v L',Φ v L'→∃g G',(k v g L' G').ok
 | .op o tm _ L _ k => ∃ Φ,Runs P F o (execOp tm.eval o) L Φ∧∀v L',Φ v L'→∃g G',(k v g L' G').ok
end
def SO2.out{α : Type}(f : α→List Ent→Out2): SO2 α→Out2
 | .ok v L=>f v L
 | .new k=>.new fun b=>(k b).out f
 | .eqn x y o=>.eqn x y (o.out f)
 | .obl p o=>.obl p (o.out f)
 | .ex k=>.ex fun x=>(k x).out f
 | .bad=>.bad
theorem SO2.out_ok{α : Type}{P:Program}{F:Fr}{Ψ : Value→List Ent→Prop}{S:List Kont→TM→List Ent→Prop}(f : α→List Ent→Out2):
  ∀(o:SO2 α),(o.out f).ok P F Ψ S=o.sat fun v L=>(f v L).ok P F Ψ S
 | .ok _ _=>rfl
 | .new k=>by simp only [SO2.out,Out2.ok,SO2.sat]; exact forall_congr fun b=>SO2.out_ok f (k b)
 | .eqn _ _ o=>by simp only [SO2.out,Out2.ok,SO2.sat,SO2.out_ok f o]
 | .obl p o=>by simp only [SO2.out,Out2.ok,SO2.sat,SO2.out_ok f o]
 | .ex k=>by simp only [SO2.out,Out2.ok,SO2.sat]; exact congrArg Exists (funext fun x=>SO2.out_ok f (k x))
 | .bad=>rfl
/-! ### whom an operation calls -/
/-- a computation that looks at the program's tables alone -/
def sevP{α : Type}(P:Program): Sem α→Option α
 | .pure a=>some a
 | .program k=>sevP P (k P)
 | .mark _ k=>sevP P k
 | _=>none
theorem sevP_run{α : Type}{P:Program}: ∀ {s:Sem α} {a : α},sevP P s=some a→∀w,s.run P w = .ok a w
 | .pure a,b,h,w=>by simp only [sevP,Option.some.injEq] at h; subst h; rfl
 | .program k,b,h,w=>sevP_run (s:=k P) h w
 | .mark _ k,b,h,w=>sevP_run (s:=k) h w
 | .new ..,_,h,_=>by cases h
 | .load ..,_,h,_=>by cases h
 | .store ..,_,h,_=>by cases h
 | .shape ..,_,h,_=>by cases h
 | .freeze ..,_,h,_=>by cases h
 | .frozen ..,_,h,_=>by cases h
 | .getObj ..,_,h,_=>by cases h
 | .setObj ..,_,h,_=>by cases h
 | .choose ..,_,h,_=>by cases h
 | .sys ..,_,h,_=>by cases h
 | .halt ..,_,h,_=>by cases h
def Tg.list: Tg→List Tg
 | .l ts=>ts
 | _=>[]
/-- the tags of so many values -/
def tagsN(g:Tg)(n:Nat): List Tg:=(List.range n).map g.at
def callee2(P:Program)(tm:TM)(tt:TT)(o:Oper): Option (FuncId×List Value×List Tg):=
 match o.op with
 | .call c=>match c.callee with
  | .value x=>match tm.eval x with
   | .func (.func f) a b=>some (f,a.toList++c.args.toList.map tm.eval++b.toList,tagsN ((tt.of x).at 0) a.toList.length++c.args.toList.map tt.of++tagsN ((tt.of x).at 1) b.toList.length)
   | _=>none
  | .invoke x name=>match tm.eval x with
   | .iface t v=>match sevP P (method (P.types.size+Made.depth) t v name) with
    | some (f,rv)=>some (f,rv :: c.args.toList.map tm.eval,(tt.of x).at 0 :: c.args.toList.map tt.of)
    | none=>none
   | _=>none
  | _=>none
 | _=>none
/-- is it an operation that the executor leaves to a law? -/
def lawful(P:Program)(tm:TM)(tt:TT)(o:Op): Bool:=
 match o with
 | .lookup .. => true
 | .mapUpdate .. => true
 | .insert .. => true
 | .makeSlice .. => true
 | .indexAddr t x _=>match elemT P t with
  | none=>false
  | some _=>match tt.of x with
   | .i _=>false
   | .c=>false
   | _=>true
 | .slice _ x _ _ _=>match tt.of x with
  | .c=>false
  | _=>match tm.eval x with
   | .slice .. => true
   | _=>false
 | .binOp .eql t x y _=>agT P t && !((tt.of x).isC&&(tt.of y).isC)
 | .binOp .neq t x y _=>agT P t && !((tt.of x).isC&&(tt.of y).isC)
 | .load _ a=>match tt.of a with
  | .i _=>false
  | .e _ _ 0=>false
  | _=>true
 | .store _ a _=>match tt.of a with
  | .i _=>false
  | .e _ _ 0=>false
  | _=>true
 | .range .. => true
 | .next .. => true
 | .typeAssert x _ T true=>(match tm.eval x with | .iface .. => true | _=>false)&&(match P.underlying T with | some (.interface _)=>true | _=>false)
 | .call c=>match c.callee with
  | .builtin .append=>true
  | .builtin .copy=>true
  | .builtin .delete=>true
  | .builtin .clear=>true
  | .builtin .len=>match c.args.toList with
   | [x]=>match tm.eval x with
    | .map _=>true
    | _=>false
   | _=>false
  | .builtin _=>false
  | _=>true
 | _=>false
structure Cx where
 inl:List FuncId
 ext:List (FuncId×Nat)
 flips:List (Nat×Nat×Nat)
 unroll:List FuncId
def hasFlip: List (Nat×Nat×Nat)→Nat→Nat→Nat→Bool
 | [],_,_,_=>false
 | (a,b,c) :: r,x,y,z=>(Nat.beq a x&&Nat.beq b y&&Nat.beq c z)||hasFlip r x y z
def k64: Option IntKind→Bool
 | some .i64=>true
 | _=>false
/-- how the operation is to be done -/
def hint2(P:Program)(flip:Bool)(tm:TM)(tt:TT)(L:List Ent)(G:Gh)(o:Op): H2:=
 match o with
 | .load _ a=>match tt.of a with
  | .i k=>.ld (G.pos k)
  | .e k j _=>.lj (G.pos k) j
  | _=>.no
 | .store _ a _=>match tt.of a with
  | .i k=>.st (G.pos k)
  | .e k j _=>.sj (G.pos k) j
  | _=>.no
 | .indexAddr t x ix=>match elemT P t with
  | none=>.v .w
  | some _=>match tt.of x with
   | .i k=>bif isPts L (G.pos k) then(match tt.of ix with
    | .c=>.v .w
    | _=>.v .x) else .ix (G.pos k)
   | _=>.no
 | .binOp op t x y _=>bif (tt.of x).isC&&(tt.of y).isC then .v .w else match op with
  | .add=>bif k64 (intT P t) == !flip then .v .n else .v .w
  | .sub=>bif k64 (intT P t) == !flip then .v .n else .v .w
  | .mul=>bif k64 (intT P t) == !flip then .v .n else .v .w
  | .quo=>.v .n
  | .rem=>.v .n
  | .shl=>.v .n
  | .shr=>.v .n
  | _=>.v .w
 | .convert _ d x=>bif (tt.of x).isC then .v .w else match intT P d with
  | some .i64=>bif flip then .v .w else .v .n
  | some _=>bif flip then .v .n else .v .w
  | none=>.v .w
 | _=>.v .w
/-- functions without a body: 0 reads a number, 1 adds to one -/
def extK: List (FuncId×Nat)→FuncId→Option Nat
 | [],_=>none
 | (f,k) :: r,x=>bif Nat.beq f x then some k else extK r x
def ExtOk(P:Program)(f:FuncId)(k:Nat): Prop := ∃fn,P.funcs[f]? = some fn∧(fn.name == "runtime.NumGoroutine")=false∧fn.body.isNone=true∧Extern.findNext fn=none∧
 ((k=0∧Extern.find fn=some (Extern.Atomic.loadT (.int .i64)))∨(k=1∧Extern.find fn=some (Extern.Atomic.update (Op.intArith .add) .i64 true)))
def XOk(P:Program)(X:Cx): Prop:=(∀f,hasNat X.inl f=true→Enters P f)∧∀f k,extK X.ext f=some k→ExtOk P f k
def extX(k:Nat)(args:List Value)(gs:List Tg)(L:List Ent)(G:Gh)(c:Value→Tg→List Ent→Gh→Out2): Out2:=
 match gs with
 | .i e :: _=>match args,L[G.pos e]? with
  | [.pointer (some ⟨b',off,none⟩)],some (.pts b cs _)=>match k,cs[off]? with
   | 0,some (.int .i64 x)=>.eqn b' b (c (.int .i64 x) ((G.cells e).getD off .n) L G)
   | _,_=>.bad
  | [.pointer (some ⟨b',off,none⟩),.int .i64 y],some (.pts b cs t)=>match k,cs[off]? with
   | 1,some (.int .i64 x)=>.eqn b' b (.obl (InK .i64 (x+y)) (c (.int .i64 (x+y)) .n (L.set (G.pos e) (.pts b (cs.set off (.int .i64 (x+y))) t)) (G.store e off [.n])))
   | _,_=>.bad
  | _,_=>.bad
 | _=>.bad
/-- one operation that is wanted: what is entered, what is left to a contract or to a law, and what is done -/
def doX(P:Program)(X:Cx)(E:FuncId→List Value→List Tg→List Ent→Gh→(Value→Tg→List Ent→Gh→Out2)→Out2)(fid rid at_:Nat)(o:Oper)(tm:TM)(tt:TT)(L:List Ent)(G:Gh)
  (c:Value→Tg→List Ent→Gh→Out2):Out2:=
 match callee2 P tm tt o with
 | some (f,args,gs)=>bif hasNat X.inl f then E f args gs L G c else match extK X.ext f with
  | some k=>extX k args gs L G c
  | none=>.call f args gs L G c
 | none=>bif lawful P tm tt o.op then .op o tm tt L G c else
  (opS2 P o (hint2 P (hasFlip X.flips fid rid at_) tm tt L G o.op) tm L).out fun nx L'=>match nx with
   | .value v=>c v (resT P tm tt L G o.op) L' (ghT P tm tt G o.op)
   | .skip=>c undef .n L' (ghT P tm tt G o.op)
   | _=>.bad
/-- a value whose tag tells nothing gets one of its own -/
def freshT(g:Tg)(G:Gh): Tg×Gh:=match g with
 | .n=>(.q G.nx false,⟨G.es,Nat.succ G.nx⟩)
 | g=>(g,G)
def putG(d:Option Nat)(g:Tg)(tt:TT): TT:=match d with
 | none=>tt
 | some d=>(d,g) :: tt
def putX(o:Oper)(v:Value)(g:Tg)(tm:TM)(tt:TT)(G:Gh)(k:TM→TT→Gh→Out2): Out2:=
 match freshT g G with
 | (g,G)=>k (putT o.dst v tm) (putG o.dst g tt) G
def Tg.isQ: Tg→Bool
 | .n=>true
 | .q _ _=>true
 | _=>false
/-! ### truths that are open -/
def sameQ(tt:TT)(k:Nat): TT→List (Nat×Bool)
 | []=>[]
 | (t,.q j neg) :: r=>bif Nat.beq j k then match tt.get t with
   | .q j' neg'=>bif Nat.beq j' k&&(neg'==neg) && !((sameQ tt k r).any fun x=>Nat.beq x.1 t) then(t,neg) :: sameQ tt k r else sameQ tt k r
   | _=>sameQ tt k r
  else sameQ tt k r
 | _ :: r=>sameQ tt k r
def xorB: Bool→Bool→Bool
 | true,b => !b
 | false,b=>b
def relB(neg neg' b:Bool): Bool:=bif neg'==neg then b else !b
def eqsX(tm:TM)(neg b:Bool)(o:Out2): List (Nat×Bool)→Out2
 | []=>o
 | (t,neg') :: r=>match tm.get t with
  | some (.bool b')=>.eqn b' (relB neg neg' b) (eqsX tm neg b o r)
  | _=>.bad
def setX(neg v:Bool)(tm:TM): List (Nat×Bool)→TM
 | []=>tm
 | (t,neg') :: r=>(t,.bool (relB neg neg' v)) :: setX neg v tm r
def setG(tt:TT): List (Nat×Bool)→TT
 | []=>tt
 | (t,_) :: r=>(t,.c) :: setG tt r
/-- the ways part by a temporary's truth -/
def splitX(tm:TM)(tt:TT)(t:Nat)(A:TM→TT→Out2): Out2:=
 match tt.get t,tm.get t with
 | .q k neg,some (.bool b)=>
  let ts:=(sameQ tt k tt).filter fun x => !neg||x.2
  eqsX tm neg b (.br b (A (setX neg true tm ts) (setG tt ts)) (A (setX neg false tm ts) (setG tt ts))) ts
 | .n,some (.bool b)=>.br b (A ((t,.bool true) :: tm) ((t,.c) :: tt)) (A ((t,.bool false) :: tm) ((t,.c) :: tt))
 | _,_=>.bad
/-- known, or the ways part -/
def openB(tm:TM)(tt:TT)(t:Nat): Bool:=bif (tt.get t).isQ then match tm.get t with
  | some (.bool _)=>true
  | _=>false
 else false
/-! ### results -/
def resS2(P:Program)(tm:TM)(tt:TT)(G:Gh)(L:List Ent): List ResultVar→SO2 (List Value)
 | []=>.ok [] L
 | .tmp t :: rs=>match tm.get t with
  | some v=>resK v (resS2 P tm tt G L rs)
  | none=>.bad
 | .cell a t :: rs=>match tm.get a,tt.get a with
  | some av,.i k=>match ldE2 P t av L (G.pos k) with
   | .eqn x y (.ok (.value v) _)=>.eqn x y (resK v (resS2 P tm tt G L rs))
   | _=>.bad
  | _,_=>.bad
where
 resK (v:Value):SO2 (List Value)→SO2 (List Value)
  | .ok vs L=>.ok (v :: vs) L
  | .eqn x y o=>.eqn x y (resK v o)
  | _=>.bad
def resG(P:Program)(tm:TM)(tt:TT)(L:List Ent)(G:Gh): List ResultVar→List Tg
 | []=>[]
 | .tmp t :: rs=>tt.get t :: resG P tm tt L G rs
 | .cell a t :: rs=>resT P tm tt L G (.load t (.tmp a)) :: resG P tm tt L G rs
def tupG: List Tg→Tg
 | [g]=>g
 | gs=>.l gs
/-! ### regions whose order is drawn -/
/-- does an operation look alone? -/
def quietOp(P:Program)(tm:TM)(tt:TT)(o:Op): Bool:=
 match o with
 | .alloc .. => false
 | .box .. => false
 | .buildSlice .. => false
 | .makeMap .. => false
 | .store .. => false
 | .call c=>match c.callee with
  | .builtin _ => !lawful P tm tt o
  | _=>false
 | .select .. => false
 | .panic .. => false
 | .defer .. => false
 | .go .. => false
 | .send .. => false
 | .recv .. => false
 | .ready .. => false
 | .waits .. => false
 | o => !lawful P tm tt o
/-- such an operation's value: it leaves all as it is -/
def quietS: SO2 Next→SO2 Value
 | .ok (.value v) L=>.ok v L
 | .eqn x y o=>.eqn x y (quietS o)
 | .obl p o=>.obl p (quietS o)
 | _=>.bad
/-- is it one of those that may stay? -/
def readS: H2→Bool
 | .ld _=>true
 | .lj _ _=>true
 | .ix _=>true
 | .v .w=>true
 | .v .n=>true
 | .v .x=>true
 | _=>false
/-- is it a truth by which others are wanted, or picked? -/
def steers(ops:Array Oper)(d:Option Nat): Bool:=match d with
 | none=>false
 | some t=>ops.toList.any fun o=>(match guardTmp ops o with
  | some g=>Nat.beq g t
  | none=>false)||match o.op with
   | .pick (.tmp g) _ _=>Nat.beq g t
   | _=>false
/-- the ways part by an open truth -/
def splitL(ops:Array Oper)(d:Option Nat)(v:Value)(g:Tg)(k:Value→Tg→Out2): Out2:=
 bif g.isQ then match v with
  | .bool b=>bif steers ops d then .br b (k (.bool true) .c) (k (.bool false) .c) else k (.bool b) g
  | v=>k v g
 else k v g
/-- a cut of a row that is there: what has to agree, what is owed, the value -/
def cutQ(P:Program)(T:TM)(tt:TT)(L:List Ent)(G:Gh)(o:Oper): Option ((Option Addr×Nat×Nat×Nat)×(Option Addr×Nat×Nat×Nat)×Prop×Value):=
 match o.op with
 | .slice _ x _ _ _=>match tt.of x with
  | .i k=>match cutO P T o,L[G.pos k]? with
   | some (.slice a' n c',none,some (.int _ h),sz'),some (.sl a c _ _ sz xs _)=>some ((a',n,c',sz'),(a,xs.length,c,sz),(0≤h∧h≤(xs.length:Int)),.slice a h.toNat c)
   | some (.slice a' n c',some (.int _ h),none,sz'),some (.sl a c _ _ sz xs _)=>some ((a',n,c',sz'),(a,xs.length,c,sz),(0≤h∧h≤(xs.length:Int)),.slice (cutA a c h.toNat sz) (xs.drop h.toNat).length (c-h.toNat))
   | _,_=>none
  | _=>none
 | _=>none
def cutK(P:Program)(T:TM)(tt:TT)(L:List Ent)(G:Gh)(o:Oper): Option ((Option Addr×Nat×Nat×Nat)×(Option Addr×Nat×Nat×Nat)×Prop×Value):=
 bif o.op.operands.all T.knows then cutQ P T tt L G o else none
/-- what is looked at at a node, in the order of the text: those of V anew, and all that may come -/
def lookX(P:Program)(X:Cx)(fid rid nt:Nat)(ops:Array Oper)(l:Array Bool)(V:List Nat)(L:List Ent)(G:Gh): Nat→List Oper→TM→TT→List Nat→(TM→TT→List Nat→Out2)→Out2
 | _,[],T,tt,KA,k=>k T tt KA
 | i,o :: r,T,tt,KA,k=>
  let old:=hasNat V i
  bif old||(!l.getD i false&&(depsOf o).all (fun j=>l.getD j false||hasNat KA j)) then
   bif dstOk nt o.dst && !isSelect o.op&&waits ops o&&fresh T o.dst then
    match guardOf ops o T with
    | some false=>lookX P X fid rid nt ops l V L G (Nat.succ i) r (putT o.dst undef T) (putG o.dst .c tt) (bif old then KA else i :: KA) k
    | some true=>match cutK P T tt L G o with
     | some (x,y,p,v)=>.eqn x y (.obl p (lookX P X fid rid nt ops l V L G (Nat.succ i) r (putT o.dst v T) (putG o.dst (resT P T tt L G o.op) tt) (bif old then KA else i :: KA) k))
     | none=>bif quietOp P T tt o.op&&o.op.operands.all T.knows then
      let h:=hint2 P (hasFlip X.flips fid rid i) T tt L G o.op
      bif readS h then
       (quietS (opS2 P o h T L)).out fun v _=>splitL ops o.dst v (resT P T tt L G o.op) fun v g=>lookX P X fid rid nt ops l V L G (Nat.succ i) r (putT o.dst v T) (putG o.dst g tt) (bif old then KA else i :: KA) k
      else .bad
     else bif old then .bad else lookX P X fid rid nt ops l V L G (Nat.succ i) r T tt KA k
    | none=>bif old then .bad else lookX P X fid rid nt ops l V L G (Nat.succ i) r T tt KA k
   else .bad
  else lookX P X fid rid nt ops l V L G (Nat.succ i) r T tt KA k
/-- one after the other, all of these -/
def zall: List Nat→(Nat→Out2)→Out2
 | [],_=>.bad
 | [i],f=>f i
 | i :: is,f=>.and (f i) (zall is f)
/-- a region whose order is drawn: what looks alone comes when it may; the others, one by one -/
def zrun(P:Program)(X:Cx)(E:FuncId→List Value→List Tg→List Ent→Gh→(Value→Tg→List Ent→Gh→Out2)→Out2)(fid rid nt:Nat)(ops:Array Oper)(kend:TM→TT→List Ent→Gh→Out2):
  Nat→Array Bool→List Nat→TM→TT→List Ent→Gh→Out2
 | 0,_,_,_,_,_,_=>.bad
 | n+1,l,V,T,tt,L,G=>
  bif acyclic ops&&Nat.beq l.size ops.size&&V.all (fun i=>Nat.blt i ops.size) then
   lookX P X fid rid nt ops l V L G 0 ops.toList (without T (dstsOf ops V)) tt [] fun T1 tt1 KA=>
    .eqn (T1.restrict (dstsOf ops V)) (T.restrict (dstsOf ops V)) (
     bif (List.range ops.size).all (fun i=>(markAll l KA).getD i false) then kend T1 tt1 L G else
      zall (readyV ops (markAll l KA)) fun i=>match opLz ops nt T1 i with
       | some o=>doX P X E fid rid i o T1 tt1 L G fun v g L' G'=>putX o v g T1 tt1 G' fun T2 tt2 G2=>zrun P X E fid rid nt ops kend n ((markAll l KA).setIfInBounds i true) (sureV ops (V++KA) i) T2 tt2 L' G2
       | none=>.bad)
  else .bad
structure Fr2 where
 top:Bool
 f:FuncId
 body:Code
 nt:Nat
 rs:List ResultVar
def argTT: Nat→List Tg→TT
 | _,[]=>[]
 | k,g :: gs=>(k,g) :: argTT (k+1) gs
/-- an operation that waits for an open truth -/
def waitsFor(ops:Array Oper)(o:Oper)(tm:TM)(tt:TT): Option Nat:=
 match guardTmp ops o with
 | some t=>bif openB tm tt t then some t else pk
 | none=>pk
where
 pk:=match o.op with
  | .pick (.tmp t) _ _=>bif openB tm tt t&&(match guardOf ops o tm with | some true=>true | _=>false) then some t else none
  | _=>none
def exec2(P:Program)(X:Cx): Nat→Fr2→List Kont→TM→TT→List Ent→Gh→(Value→Tg→List Ent→Gh→Out2)→Out2
 | 0,_,_,_,_,_,_,_=>.bad
 | n+1,fr,ks,tm,tt,L,G,K=>
  match ks with
  | []=>(resS2 P tm tt G L fr.rs).out fun vs L=>K (tupV vs) (tupG (resG P tm tt L G fr.rs)) L G
  | .b _ :: ks'=>exec2 P X n fr ks' tm tt L G K
  | .j _ :: _=>bif fr.top then .stop ks tm tt L G else .bad
  | .r p :: ks'=>exec2 P X n fr (.c (0 :: p) :: .r p :: ks') tm tt L G K
  | .c p :: ks'=>
   match look fr.body p with
   | .skip=>exec2 P X n fr ks' tm tt L G K
   | .label _=>exec2 P X n fr ks' tm tt L G K
   | .seq _ _=>exec2 P X n fr (.c (0 :: p) :: .c (1 :: p) :: ks') tm tt L G K
   | .block id _=>exec2 P X n fr (.c (0 :: p) :: .b id :: ks') tm tt L G K
   | .scope _=>exec2 P X n fr (.c (0 :: p) :: ks') tm tt L G K
   | .region _ _ false=>exec2 P X n fr (.o p 0 :: ks') tm tt L G K
   | .region id ops true=>bif needsOld ops 0 ops.toList then zrun P X (fun f args gs L G c=>match P.funcs[f]? with
     | some fn=>match fn.body with
      | some body=>exec2 P X n ⟨false,f,body,args.length+(fn.ntmps-args.length),fn.results.toList⟩ [.c []] (argTM 0 args) (argTT 0 gs) L G c
      | none=>.bad
     | none=>.bad) fr.f id fr.nt (subOps tm ops) (fun T tt L G=>exec2 P X n fr ks' T tt L G K) (Nat.succ (subOps tm ops).size) (Array.replicate (subOps tm ops).size false) [] (without tm (dstsOf (subOps tm ops) (List.range (subOps tm ops).size))) tt L G
    else zrun P X (fun f args gs L G c=>match P.funcs[f]? with
     | some fn=>match fn.body with
      | some body=>exec2 P X n ⟨false,f,body,args.length+(fn.ntmps-args.length),fn.results.toList⟩ [.c []] (argTM 0 args) (argTT 0 gs) L G c
      | none=>.bad
     | none=>.bad) fr.f id fr.nt ops (fun T tt L G=>exec2 P X n fr ks' T tt L G K) (Nat.succ ops.size) (Array.replicate ops.size false) [] (without tm (dstsOf ops (List.range ops.size))) tt L G
   | .ret=>(resS2 P tm tt G L fr.rs).out fun vs L=>K (tupV vs) (tupG (resG P tm tt L G fr.rs)) L G
   | .exit id=>match toBlock id ks' with
    | some k=>exec2 P X n fr k tm tt L G K
    | none=>.bad
   | .cond x _ _=>match x with
    | .tmp t=>bif openB tm tt t then splitX tm tt t fun tm tt=>exec2 P X n fr ks tm tt L G K else
     match tm.get t with
     | some (.bool true)=>exec2 P X n fr (.c (0 :: p) :: ks') tm tt L G K
     | some (.bool false)=>exec2 P X n fr (.c (1 :: p) :: ks') tm tt L G K
     | _=>.bad
    | _=>.bad
   | .loop _=>bif fr.top && !hasNat X.unroll fr.f then .stop ks tm tt L G else exec2 P X n fr (.c (0 :: p) :: .r p :: ks') tm tt L G K
   | _=>.bad
  | .o p k :: ks'=>
   match look fr.body p with
   | .region id ops _=>
    match ops.toList[k]? with
    | none=>exec2 P X n fr ks' tm tt L G K
    | some o=>
     match waitsFor ops o tm tt with
     | some t=>splitX tm tt t fun tm tt=>exec2 P X n fr ks tm tt L G K
     | none=>
      bif dstOk fr.nt o.dst && !isSelect o.op then
       match guardOf ops o tm with
       | none=>.bad
       | some false=>exec2 P X n fr (.o p (k+1) :: ks') (putT o.dst undef tm) (putG o.dst .c tt) L G K
       | some true=>bif o.op.operands.all tm.knows then
         doX P X (fun f args gs L G c=>match P.funcs[f]? with
          | some fn=>match fn.body with
           | some body=>exec2 P X n ⟨false,f,body,args.length+(fn.ntmps-args.length),fn.results.toList⟩ [.c []] (argTM 0 args) (argTT 0 gs) L G c
           | none=>.bad
          | none=>.bad) fr.f id k o tm tt L G fun v g L' G'=>putX o v g tm tt G' fun tm tt G=>exec2 P X n fr (.o p (k+1) :: ks') tm tt L' G K
        else .bad
      else .bad
   | _=>.bad
end Go.Sx
/- The second executor is sound. -/
set_option linter.unusedSimpArgs false
namespace Go.Sx
section
variable {P:Program} {F:Fr} {Ψ : Value→List Ent→Prop} {S:List Kont→TM→List Ent→Prop}
/-! ### truths that are open -/
theorem eqsX_ok{tm:TM}{neg b:Bool}{o:Out2}: ∀(ts:List (Nat×Bool)),(eqsX tm neg b o ts).ok P F Ψ S→o.ok P F Ψ S∧∀x∈ts,tm.get x.1=some (.bool (relB neg x.2 b))
 | [],h=>⟨h,by simp⟩
 | (t,neg') :: r,h=>by
  simp only [eqsX] at h
  split at h
  ·rename_i b' hb
   obtain⟨rfl,h⟩:=h
   obtain⟨h1,h2⟩:=eqsX_ok r h
   refine⟨h1, ?_⟩
   intro x hx
   rcases List.mem_cons.1 hx with rfl | hx
   ·exact hb
   ·exact h2 x hx
  ·exact h.elim
theorem setX_get{tm:TM}{neg v:Bool}: ∀(ts:List (Nat×Bool)),(∀x∈ts,tm.get x.1=some (.bool (relB neg x.2 v)))→∀t u,(setX neg v tm ts).get t=some u→tm.get t=some u
 | [],_,_,_,h=>h
 | (t',neg') :: r,hall,t,u,h=>by
  simp only [setX,TM.get_cons] at h
  split at h
  ·rename_i he
   subst he
   simp only [Option.some.injEq] at h
   subst h
   exact hall _ (List.mem_cons_self ..)
  ·exact setX_get r (fun x hx=>hall x (List.mem_cons_of_mem _ hx)) t u h
theorem splitX_ok{tm:TM}{tt:TT}{t:Nat}{A:TM→TT→Out2}(h:(splitX tm tt t A).ok P F Ψ S): ∃tm' tt',(A tm' tt').ok P F Ψ S∧∀t v,tm'.get t=some v→tm.get t=some v:=by
 unfold splitX at h
 split at h
 ·rename_i k neg b _ _
  obtain⟨⟨h1,h2⟩,h3⟩:=eqsX_ok _ h
  cases b with
  | true=>exact⟨_,_,h1 rfl,setX_get _ h3⟩
  | false=>exact⟨_,_,h2 rfl,setX_get _ h3⟩
 ·rename_i b _ hb
  obtain⟨h1,h2⟩:=h
  have key:∀c:Bool,b=c→∀t' v,TM.get ((t,Value.bool c) :: tm) t'=some v→tm.get t'=some v:=by
   intro c hc t' v hv
   subst hc
   rw [TM.get_cons] at hv
   split at hv
   ·rename_i he
    subst he
    rw [hb]; exact hv
   ·exact hv
  cases b with
  | true=>exact⟨_,_,h1 rfl,key true rfl⟩
  | false=>exact⟨_,_,h2 rfl,key false rfl⟩
 ·exact h.elim
/-! ### results -/
theorem resK_sat{v:Value}{Φ : List Value→List Ent→Prop}: ∀(o:SO2 (List Value)),(resS2.resK v o).sat Φ→o.sat (fun vs L => Φ (v :: vs) L)
 | .ok vs L,h=>h
 | .eqn x y o,h=>⟨h.1,resK_sat o h.2⟩
 | .new _,h=>h.elim
 | .obl _ _,h=>h.elim
 | .ex _,h=>h.elim
 | .bad,h=>h.elim
theorem ldE2_shape{P:Program}{t:TypeId}{av:Value}{L:List Ent}{i:Nat}{β : Type}{x y : β}{v:Value}{L':List Ent}(h:ldE2 P t av L i = .eqn x y (.ok (.value v) L'))(hxy:x=y): (ldE P t av L i).sat (fun u L1=>u=v∧L1=L):=by
 unfold ldE2 at h
 unfold ldE
 split at h
 ·rename_i b cs ty b' off ag n h1 h2 h3
  simp only [h1,h2,h3]
  cases hc:(Nat.ble (off+n) cs.length&&(ag||Nat.beq n 1)) with
  | false=>rw [hc] at h; cases h
  | true=>
   rw [hc] at h
   simp only [cond_true] at h ⊢
   cases h
   exact⟨hxy,rfl,rfl⟩
 ·cases h
theorem resS2_sat{tm:TM}{tt:TT}{G:Gh}{L:List Ent}: ∀(rs:List ResultVar) {Φ : List Value→List Ent→Prop},(resS2 P tm tt G L rs).sat Φ→∃H,(resS P tm L rs H).sat Φ
 | [],Φ,h=>⟨[],h⟩
 | .tmp t :: rs,Φ,h=>by
  simp only [resS2] at h
  split at h
  ·rename_i v hv
   obtain⟨H,hH⟩:=resS2_sat rs (resK_sat _ h)
   refine⟨H, ?_⟩
   simp only [resS,hv,SOut.sat_bind]
   exact hH
  ·exact h.elim
 | .cell a t :: rs,Φ,h=>by
  simp only [resS2] at h
  split at h
  ·rename_i av k ha hk
   split at h
   ·rename_i β x y v L' he
    obtain⟨hxy,h⟩:=h
    obtain⟨H,hH⟩:=resS2_sat rs (resK_sat _ h)
    have hl:=ldE2_shape he hxy
    refine⟨.e (G.pos k) :: H, ?_⟩
    simp only [resS,ha,SOut.sat_bind]
    have key:∀(o:SOut Value),o.sat (fun u L1=>u=v∧L1=L)→o.sat (fun v' L1=>SOut.sat (fun v_1 L=>SOut.sat Φ (SOut.ok (v' :: v_1) L)) (resS P tm L rs H)):=by
     intro o
     induction o with
     | ok u L1=>rintro⟨rfl,rfl⟩; exact hH
     | new k ih=>exact fun h b=>ih b (h b)
     | newV k ih=>exact fun h a c=>ih a c (h a c)
     | obl p o ih=>exact fun h=>⟨h.1,ih h.2⟩
     | ex k ih=>exact fun⟨x,hx⟩=>⟨x,ih x hx⟩
     | bad=>exact fun h=>h
    exact key _ hl
   ·exact h.elim
  ·exact h.elim
/-! ### one operation -/
theorem SO2.sat_mono{α : Type}{Φ Φ' : α→List Ent→Prop}(hm:∀v L,Φ v L→Φ' v L): ∀(o:SO2 α),o.sat Φ→o.sat Φ'
 | .ok v L,h=>hm v L h
 | .new k,h=>fun b=>SO2.sat_mono hm (k b) (h b)
 | .eqn _ _ o,h=>⟨h.1,SO2.sat_mono hm o h.2⟩
 | .obl _ o,h=>⟨h.1,SO2.sat_mono hm o h.2⟩
 | .ex k,h=>let ⟨x,hx⟩:=h; ⟨x,SO2.sat_mono hm (k x) hx⟩
 | .bad,h=>h
theorem Runs.mono{o:Oper}{s:Sem Next}{L:List Ent}{Φ Φ':Value→List Ent→Prop}(h:Runs P F o s L Φ)(hm:∀v L,Φ v L→Φ' v L): Runs P F o s L Φ':=
 fun a w K Q hin hk=>h a w K Q hin fun v L' w' hΦ hi=>hk v L' w' (hm v L' hΦ) hi
theorem callee2_run{o:Oper}{tm:TM}{tt:TT}{f:FuncId}{args:List Value}{gs:List Tg}(hc:callee2 P tm tt o=some (f,args,gs))(w:World): (execOp tm.eval o).run P w=(callFunc f args.toArray).run P w:=by
 unfold callee2 at hc
 split at hc
 ·rename_i c hop
  split at hc
  ·rename_i x hx
   split at hc
   ·rename_i f' first captured hv
    simp only [Option.some.injEq,Prod.mk.injEq] at hc
    obtain⟨rfl,rfl,_⟩:=hc
    have e:(first++c.args.map tm.eval)++captured=(first.toList++c.args.toList.map tm.eval++captured.toList).toArray:=by
     apply Array.ext'
     simp
    rw [←e]
    simp only [execOp,hop,resolve,hx,hv,Deferred.ofValue,Sem.run_bind,Sem.run_pure,Result.andThen_ok,invoke]
   ·cases hc
  ·rename_i x nm hx
   split at hc
   ·rename_i t v hv
    split at hc
    ·rename_i f' rv hm
     simp only [Option.some.injEq,Prod.mk.injEq] at hc
     obtain⟨rfl,rfl,_⟩:=hc
     have h0:(#[Value.iface t v]++c.args.map tm.eval)[0]? = some (Value.iface t v):=by rw [Array.getElem?_append_left (by simp)]; rfl
     have e : #[rv]++(#[Value.iface t v]++c.args.map tm.eval).extract 1 (#[Value.iface t v]++c.args.map tm.eval).size=(rv :: c.args.toList.map tm.eval).toArray:=by
      apply Array.ext'
      simp [List.take_of_length_le]
     rw [←e]
     simp only [execOp,hop,resolve,hx,hv,Sem.run_bind,Sem.run_pure,Result.andThen_ok,invoke,h0,callMethod,run_program]
     rw [sevP_run hm w]
     simp only [Result.andThen_ok]
    ·cases hc
   ·cases hc
  ·cases hc
 ·cases hc
theorem runs_call2{o:Oper}{tm:TM}{tt:TT}{f:FuncId}{args:List Value}{gs:List Tg}{L:List Ent}{Φ : Value→List Ent→Prop}(hen:Enters P f)(hc:callee2 P tm tt o=some (f,args,gs))(h:CallsL P F f args L Φ):
  Runs P F o (execOp tm.eval o) L Φ := by
 intro a w K Q hin hk
 rw [callee2_run hc w,hen _ w]
 refine(h w hin).mono ?_
 rintro e w' ⟨v,L',rfl,hΦ,hi⟩
 exact hk v L' w' hΦ hi
theorem runs_ext2{o:Oper}{tm:TM}{tt:TT}{f:FuncId}{args:List Value}{gs:List Tg}{L:List Ent}{Φ : Value→List Ent→Prop}(hc:callee2 P tm tt o=some (f,args,gs))
  (hx:∀w,In L F w→∃v L' w',(callFunc f args.toArray).run P w = .ok (.value v) w'∧In L' F w'∧Φ v L'):Runs P F o (execOp tm.eval o) L Φ := by
 intro a w K Q hin hk
 obtain⟨v,L' ,w',h1,h2,h3⟩:=hx w hin
 rw [callee2_run hc w,h1]
 exact hk v L' w' h3 h2
theorem extX_sound{f:FuncId}{k:Nat}{args:List Value}{gs:List Tg}{L:List Ent}{G:Gh}{c:Value→Tg→List Ent→Gh→Out2}(hX:ExtOk P f k)(h:(extX k args gs L G c).ok P F Ψ S):
  ∀w,In L F w→∃v L' w',(callFunc f args.toArray).run P w = .ok (.value v) w'∧In L' F w'∧∃g G',(c v g L' G').ok P F Ψ S:=by
 obtain⟨fn,hf,hn,hb,hx,he⟩:=hX
 unfold extX at h
 split at h
 ·split at h
  ·rename_i hL
   split at h
   ·rename_i hc
    obtain⟨rfl,h⟩:=h
    rcases he with ⟨_,he⟩ | ⟨h0,_⟩
    ·intro w hin
     obtain⟨v,L' ,w',h1,h2,rfl,rfl⟩:=ext_load hf hn hb hx .i64 he hL hc w hin
     exact⟨_,_,w',h1,h2,_,_,h⟩
    ·cases h0
   ·exact h.elim
  ·rename_i hL
   split at h
   ·rename_i hc
    obtain⟨rfl,hin',h⟩:=h
    rcases he with ⟨h0,_⟩ | ⟨_,he⟩
    ·cases h0
    ·intro w hin
     obtain⟨v,L' ,w',h1,h2,rfl,rfl⟩:=ext_add hf hn hb hx .i64 he hL hc hin' w hin
     exact⟨_,_,w',h1,h2,_,_,h⟩
   ·exact h.elim
  ·exact h.elim
 ·exact h.elim
/-- callees that are entered -/
def Ent2(P:Program)(F:Fr)(Ψ : Value→List Ent→Prop)(S:List Kont→TM→List Ent→Prop)(E:FuncId→List Value→List Tg→List Ent→Gh→(Value→Tg→List Ent→Gh→Out2)→Out2): Prop:=
 ∀f args gs L G c,(E f args gs L G c).ok P F Ψ S→CallsL P F f args L (fun v L' => ∃g G',(c v g L' G').ok P F Ψ S)
theorem doX_sound{X:Cx}{E:FuncId→List Value→List Tg→List Ent→Gh→(Value→Tg→List Ent→Gh→Out2)→Out2}{fid rid k:Nat}{o:Oper}{tm:TM}{tt:TT}{L:List Ent}{G:Gh}{c:Value→Tg→List Ent→Gh→Out2}
  (hX:XOk P X) (hE:Ent2 P F Ψ S E) (h:(doX P X E fid rid k o tm tt L G c).ok P F Ψ S):Runs P F o (execOp tm.eval o) L (fun v L' => ∃g G',(c v g L' G').ok P F Ψ S):=by
 unfold doX at h
 split at h
 ·rename_i f args gs hc
  cases hb:hasNat X.inl f with
  | true=>rw [hb] at h; exact runs_call2 (hX.1 f hb) hc (hE _ _ _ _ _ _ h)
  | false=>
   rw [hb] at h
   simp only [cond_false] at h
   split at h
   ·rename_i k hk
    exact runs_ext2 hc (extX_sound (hX.2 f k hk) h)
   ·obtain⟨hen,Φ,h1,h2⟩:=h
    exact(runs_call2 hen hc h1).mono h2
 ·cases hl:lawful P tm tt o.op with
  | true=>
   rw [hl] at h
   obtain⟨Φ,h1,h2⟩:=h
   exact h1.mono h2
  | false=>
   rw [hl] at h
   simp only [cond_false,SO2.out_ok] at h
   obtain⟨h1,hs⟩:=opS2_sat (Φ := NxV fun v L' => ∃g G',(c v g L' G').ok P F Ψ S) (SO2.sat_mono (fun nx L' h=>by
    cases nx with
    | value v=>exact⟨_,_,h⟩
    | skip=>exact⟨_,_,h⟩
    | _=>exact h.elim) _ h)
   exact runs_opS hs
theorem putX_ok{o:Oper}{v:Value}{g:Tg}{tm:TM}{tt:TT}{G:Gh}{k:TM→TT→Gh→Out2}(h:(putX o v g tm tt G k).ok P F Ψ S): ∃tt' G',(k (putT o.dst v tm) tt' G').ok P F Ψ S:=⟨_,_,h⟩
/-! ### what looks alone -/
def SO2.keep(L:List Ent): SO2 Next→Prop
 | .ok _ L'=>L'=L
 | .eqn _ _ o=>o.keep L
 | .obl _ o=>o.keep L
 | _=>True
theorem quiet_val{L:List Ent}{Φ : Value→List Ent→Prop}: ∀(o:SO2 Next),o.keep L→(quietS o).sat Φ→∃v,Φ v L∧o.sat (fun nx L'=>nx = .value v∧L'=L)
 | .ok nx L',hk,h=>by
  cases nx with
  | value v=>
   have:L'=L:=hk
   subst this
   exact⟨v,h,rfl,rfl⟩
  | _=>exact h.elim
 | .eqn _ _ o,hk,h=>let ⟨v,h1,h2⟩:=quiet_val o hk h.2; ⟨v,h1,h.1,h2⟩
 | .obl _ o,hk,h=>let ⟨v,h1,h2⟩:=quiet_val o hk h.2; ⟨v,h1,h.1,h2⟩
 | .new _,_,h=>h.elim
 | .ex _,_,h=>h.elim
 | .bad,_,h=>h.elim
theorem keep_bif{L:List Ent}{b:Bool}{o:SO2 Next}(h:o.keep L): (bif b then o else .bad:SO2 Next).keep L:=by cases b <;> first | exact h | trivial
theorem sev_keep{P:Program}{L:List Ent}: ∀(s:Sem Next),(sev P L s).so2.keep L
 | .pure a=>rfl
 | .program k=>sev_keep (k P)
 | .mark _ k=>sev_keep k
 | .new .. => trivial
 | .load .. => trivial
 | .store .. => trivial
 | .shape .. => trivial
 | .freeze .. => trivial
 | .frozen .. => trivial
 | .getObj .. => trivial
 | .setObj .. => trivial
 | .choose .. => trivial
 | .sys .. => trivial
 | .halt .. => trivial
theorem readS_keep{o:Oper}{h:H2}{tm:TM}{L:List Ent}(hr:readS h=true): (opS2 P o h tm L).keep L:=by
 cases h with
 | ld i=>
  unfold opS2
  split <;> first | trivial | (rename_i he; cases he; done) | skip
  rename_i he _
  cases he
  unfold ldE2; split
  ·exact keep_bif rfl
  ·trivial
 | lj i j=>
  unfold opS2
  split <;> first | trivial | (rename_i he; cases he; done) | skip
  rename_i he _
  cases he
  unfold ldJ2; split
  ·exact keep_bif rfl
  ·exact keep_bif rfl
  ·trivial
 | ix i=>
  unfold opS2
  split <;> first | trivial | (rename_i he; cases he; done) | skip
  rename_i he _
  cases he
  unfold ixS2; split
  ·exact keep_bif rfl
  ·exact keep_bif rfl
  ·trivial
 | v hh=>
  have e:opS2 P o (.v hh) tm L=(opS P o hh tm L).so2:=by unfold opS2; rfl
  rw [e]
  cases hh with
  | w=>
   unfold opS
   split <;> first | (rename_i he; cases he; done) | exact sev_keep _ | trivial
  | n=>
   unfold opS
   split <;> first | (rename_i he; cases he; done) | trivial | (split <;> first | trivial | (split <;> first | trivial | rfl) | rfl)
  | x=>
   unfold opS
   split <;> first | (rename_i he; cases he; done) | trivial | (split <;> first | trivial | rfl)
  | _=>cases hr
 | _=>cases hr
end
end Go.Sx
/- The second executor is sound: regions whose order is drawn, and the whole. -/
set_option linter.unusedSimpArgs false
namespace Go.Sx
section
variable {P:Program} {F:Fr} {Ψ : Value→List Ent→Prop} {S:List Kont→TM→List Ent→Prop}
theorem quietS_run{o:Oper}{h:H2}{T:TM}{L:List Ent}{Φ : Value→List Ent→Prop}(hr:readS h=true)(hs:(quietS (opS2 P o h T L)).sat Φ):
  ∃v,Φ v L∧Runs P F o (execOp T.eval o) L (fun u L'=>u=v∧L'=L):=by
 obtain⟨v,h1,h2⟩:=quiet_val _ (readS_keep hr) hs
 refine⟨v,h1, ?_⟩
 obtain⟨h3,h4⟩:=opS2_sat (Φ := NxV fun u L'=>u=v∧L'=L) (SO2.sat_mono (fun nx L' h=>by obtain⟨rfl,rfl⟩:=h; exact⟨rfl,rfl⟩) _ h2)
 exact runs_opS h4
theorem splitL_ok{ops:Array Oper}{d:Option Nat}{v:Value}{g:Tg}{k:Value→Tg→Out2}(h:(splitL ops d v g k).ok P F Ψ S): ∃g',(k v g').ok P F Ψ S:=by
 unfold splitL at h
 cases hg:g.isQ with
 | false=>rw [hg] at h; exact⟨_,h⟩
 | true=>
  rw [hg] at h
  simp only [cond_true] at h
  split at h
  ·rename_i b
   cases hs:steers ops d with
   | false=>rw [hs] at h; exact⟨_,h⟩
   | true=>
    rw [hs] at h
    simp only [cond_true] at h
    cases b with
    | true=>exact⟨_,h.1 rfl⟩
    | false=>exact⟨_,h.2 rfl⟩
  ·exact⟨_,h⟩
theorem cutQ_run{T:TM}{tt:TT}{L:List Ent}{G:Gh}{o:Oper}{x y:Option Addr×Nat×Nat×Nat}{p:Prop}{v:Value}(h:cutK P T tt L G o=some (x,y,p,v))(hxy:x=y)(hp:p):
  o.op.operands.all T.knows=true∧Runs P F o (execOp T.eval o) L (fun u L'=>u=v∧L'=L):=by
 unfold cutK at h
 cases hk:o.op.operands.all T.knows with
 | false=>rw [hk] at h; cases h
 | true=>
  rw [hk] at h
  refine⟨rfl, ?_⟩
  simp only [cond_true] at h
  unfold cutQ at h
  split at h
  ·split at h
   ·split at h
    ·rename_i hc hL
     simp only [Option.some.injEq,Prod.mk.injEq] at h
     obtain⟨rfl,rfl,rfl,rfl⟩:=h
     simp only [Prod.mk.injEq] at hxy
     obtain⟨rfl,rfl,rfl,rfl⟩:=hxy
     exact R_cutH _ hL _ _ hp o hc
    ·rename_i hc hL
     simp only [Option.some.injEq,Prod.mk.injEq] at h
     obtain⟨rfl,rfl,rfl,rfl⟩:=h
     simp only [Prod.mk.injEq] at hxy
     obtain⟨rfl,rfl,rfl,rfl⟩:=hxy
     exact R_cutV _ hL _ _ hp o hc
    ·cases h
   ·cases h
  ·cases h
def LkS(P:Program)(F:Fr)(Ψ : Value→List Ent→Prop)(S:List Kont→TM→List Ent→Prop)(nt:Nat)(ops:Array Oper)(l:Array Bool)(V:List Nat)(L:List Ent)(k:TM→TT→List Nat→Out2)(i:Nat)(T:TM)(KA:List Nat): Prop:=
  ∃T1 tt1 KA1,(k T1 tt1 KA1).ok P F Ψ S∧(∀t v,T.get t=some v→T1.get t=some v)∧
   (∀t,(∀j o,(hasNat V j=true∨j∈KA1)→ops[j]? = some o→o.dst≠some t)→T1.get t=T.get t)∧
   (∀j,i≤j→j<ops.size→hasNat V j=true→∃o T0,Evid P F ops nt L T1 j o T0)∧
   (∀j∈KA1,j∈KA∨(j<ops.size∧l.getD j false=false∧∃o T0,Evid P F ops nt L T1 j o T0))∧(∀j∈KA,j∈KA1)
theorem lookX_spec{X:Cx}{fid rid nt:Nat}{ops:Array Oper}{l:Array Bool}{V:List Nat}{L:List Ent}{G:Gh}{k:TM→TT→List Nat→Out2}: ∀(r:List Oper) (i:Nat) (T:TM) (tt:TT) (KA:List Nat),ops.toList.drop i=r→
  (lookX P X fid rid nt ops l V L G i r T tt KA k).ok P F Ψ S→
  LkS P F Ψ S nt ops l V L k i T KA
 | [],i,T,tt,KA,hd,h=>by
  refine⟨T,tt,KA,h,fun _ _ h=>h,fun _ _=>rfl, ?_,fun j hj=>.inl hj,fun _ h=>h⟩
  intro j hij hlt
  have:(ops.toList.drop i).length=ops.size-i:=by simp
  rw [hd] at this
  simp at this
  omega
 | o :: r,i,T,tt,KA,hd,h=>by
  have hilt:i<ops.size:=by
   have:(ops.toList.drop i).length=ops.size-i:=by simp
   rw [hd] at this
   simp at this
   omega
  have hio:ops[i]? = some o:=by
   have h1:(ops.toList.drop i)[0]? = some o:=by rw [hd]; rfl
   rw [List.getElem?_drop] at h1
   simpa using h1
  have hd':ops.toList.drop (Nat.succ i)=r:=by
   have:ops.toList.drop (i+1)=(ops.toList.drop i).drop 1:=by rw [List.drop_drop]
   show ops.toList.drop (i+1)=r
   rw [this,hd]; rfl
  have skip:hasNat V i=false→(lookX P X fid rid nt ops l V L G (Nat.succ i) r T tt KA k).ok P F Ψ S→LkS P F Ψ S nt ops l V L k i T KA:=fun hV h=>by
   obtain⟨T1,tt1,KA1,h1,h2,h3,h4,h5,h6⟩:=lookX_spec r (Nat.succ i) T tt KA hd' h
   refine⟨T1,tt1,KA1,h1,h2,h3, ?_,h5,h6⟩
   intro j hij hlt hVj
   rcases Nat.eq_or_lt_of_le hij with rfl | hlt'
   ·rw [hV] at hVj; cases hVj
   ·exact h4 j hlt' hlt hVj
  have take:dstOk nt o.dst=true→isSelect o.op=false→waits ops o=true→fresh T o.dst=true→∀(v:Value) (tt':TT),
    (hasNat V i=true∨l.getD i false=false)→
    (lookX P X fid rid nt ops l V L G (Nat.succ i) r (putT o.dst v T) tt' (bif hasNat V i then KA else i :: KA) k).ok P F Ψ S→
    (∀T1:TM,(∀d,o.dst=some d→T1.get d=some v)→(∀t v,T.get t=some v→T1.get t=some v)→∃o T0,Evid P F ops nt L T1 i o T0)→
    LkS P F Ψ S nt ops l V L k i T KA:=by
   intro hc1 hc2 hc3 hc4 v tt' hown h hev
   obtain⟨T1,tt1,KA1,h1,h2,h3,h4,h5,h6⟩:=lookX_spec r (Nat.succ i) (putT o.dst v T) tt' _ hd' h
   have hm:∀t u,T.get t=some u→T1.get t=some u:=fun t u hu=>h2 t u (putT_mono hc4 hu)
   have hE:=hev T1 (fun d hd=>h2 d v (by rw [putT_get,if_pos hd])) hm
   have hiKA:hasNat V i=true∨i∈KA1:=by
    cases hV:hasNat V i with
    | true=>exact .inl rfl
    | false=>rw [hV] at h6; exact .inr (h6 i (List.mem_cons_self ..))
   refine⟨T1,tt1,KA1,h1,hm, ?_, ?_, ?_, ?_⟩
   ·intro t ht
    rw [h3 t ht,putT_get,if_neg (ht i o hiKA hio)]
   ·intro j hij hlt hVj
    rcases Nat.eq_or_lt_of_le hij with rfl | hlt'
    ·exact hE
    ·exact h4 j hlt' hlt hVj
   ·intro j hj
    rcases h5 j hj with hj | hj
    ·cases hV:hasNat V i with
     | true=>rw [hV] at hj; exact .inl hj
     | false=>
      rw [hV] at hj
      rcases List.mem_cons.1 hj with rfl | hj
      ·refine .inr ⟨hilt, ?_,hE⟩
       rcases hown with h | h
       ·rw [hV] at h; cases h
       ·exact h
      ·exact .inl hj
    ·exact .inr hj
   ·intro j hj
    refine h6 j ?_
    cases hV:hasNat V i with
    | true=>exact hj
    | false=>exact List.mem_cons_of_mem _ hj
  unfold lookX at h
  simp only at h
  cases hdo:(hasNat V i||(!l.getD i false&&(depsOf o).all (fun j=>l.getD j false||hasNat KA j))) with
  | false=>
   rw [hdo] at h
   simp only [Bool.or_eq_false_iff] at hdo
   exact skip hdo.1 h
  | true=>
   rw [hdo] at h
   have hown:hasNat V i=true∨l.getD i false=false:=by
    simp only [Bool.or_eq_true,Bool.and_eq_true,Bool.not_eq_true'] at hdo
    rcases hdo with h | h
    ·exact .inl h
    ·exact .inr h.1
   simp only [cond_true] at h
   cases hc:(dstOk nt o.dst && !isSelect o.op&&waits ops o&&fresh T o.dst) with
   | false=>rw [hc] at h; exact h.elim
   | true=>
    rw [hc] at h
    simp only [cond_true] at h
    simp only [Bool.and_eq_true,Bool.not_eq_true'] at hc
    obtain⟨⟨⟨hc1,hc2⟩,hc3⟩,hc4⟩:=hc
    split at h
    ·rename_i hg
     exact take hc1 hc2 hc3 hc4 undef _ hown h fun T1 hd hm=>⟨o,T,hio,hc1,hc2,hc3,hm,.inl ⟨hg,hd⟩⟩
    ·rename_i hg
     split at h
     ·rename_i x y p v hcq
      obtain⟨hxy,hp,h⟩:=h
      obtain⟨hkn,hrun⟩:=cutQ_run (F:=F) hcq hxy hp
      exact take hc1 hc2 hc3 hc4 v _ hown h fun T1 hd hm=>⟨o,T,hio,hc1,hc2,hc3,hm,.inr ⟨hg,hkn,v,hd,hrun⟩⟩
     cases hq:(quietOp P T tt o.op&&o.op.operands.all T.knows) with
     | false=>
      rw [hq] at h
      cases hV:hasNat V i with
      | true=>rw [hV] at h; exact h.elim
      | false=>rw [hV] at h; exact skip hV h
     | true=>
      rw [hq] at h
      simp only [cond_true] at h
      simp only [Bool.and_eq_true] at hq
      cases hr:readS (hint2 P (hasFlip X.flips fid rid i) T tt L G o.op) with
      | false=>rw [hr] at h; exact h.elim
      | true=>
       rw [hr] at h
       simp only [cond_true,SO2.out_ok] at h
       obtain⟨v,h1,h2⟩:=quietS_run (F:=F) hr h
       obtain⟨g',h1⟩:=splitL_ok h1
       exact take hc1 hc2 hc3 hc4 v _ hown h1 fun T1 hd hm=>⟨o,T,hio,hc1,hc2,hc3,hm,.inr ⟨hg,hq.2,v,hd,h2⟩⟩
    ·cases hV:hasNat V i with
     | true=>rw [hV] at h; exact h.elim
     | false=>rw [hV] at h; exact skip hV h
theorem mem_hasNat: ∀ {l:List Nat} {t:Nat},t∈l→hasNat l t=true
 | x :: l,t,h=>by
  simp only [hasNat,Bool.or_eq_true,Nat.beq_eq]
  rcases List.mem_cons.1 h with rfl | h
  ·exact .inl rfl
  ·exact .inr (mem_hasNat h)
theorem zall_ok{f:Nat→Out2}: ∀(is:List Nat),(zall is f).ok P F Ψ S→is≠[]∧∀i∈is,(f i).ok P F Ψ S
 | [],h=>h.elim
 | [i],h=>⟨by simp,fun j hj=>by rw [List.mem_singleton.1 hj]; exact h⟩
 | i :: j :: is,h=>by
  obtain⟨h1,h2⟩:=h
  have h3:=(zall_ok (j :: is) h2).2
  refine⟨by simp,fun k hk => ?_⟩
  rcases List.mem_cons.1 hk with rfl | hk
  ·exact h1
  ·exact h3 k hk
theorem zrun_sound{fn:Func}{body:Code}{R:Ending→World→Prop}{X:Cx}{E:FuncId→List Value→List Tg→List Ent→Gh→(Value→Tg→List Ent→Gh→Out2)→Out2}{fid rid nt:Nat}{ops:Array Oper}{ks:List Kont}{kend:TM→TT→List Ent→Gh→Out2}
  (hX:XOk P X) (hE:Ent2 P F Ψ S E) (hend:∀T tt L G,(kend T tt L G).ok P F Ψ S→Go P fn body nt F R ks T L) :
  ∀(n:Nat) (l:Array Bool) (V:List Nat) (T:TM) (tt:TT) (L:List Ent) (G:Gh),(zrun P X E fid rid nt ops kend n l V T tt L G).ok P F Ψ S→Lz P fn body nt F R ops ks l V T L:=by
 intro n
 induction n with
 | zero=>intro l V T tt L G h; exact h.elim
 | succ n ih=>
  intro l V T tt L G h
  unfold zrun at h
  cases hc:(acyclic ops&&Nat.beq l.size ops.size&&V.all (fun i=>Nat.blt i ops.size)) with
  | false=>rw [hc] at h; exact h.elim
  | true=>
   rw [hc] at h
   simp only [cond_true] at h
   simp only [Bool.and_eq_true,Nat.beq_eq,List.all_eq_true,Nat.blt_eq] at hc
   obtain⟨⟨hac,hls⟩,hVlt⟩:=hc
   obtain⟨T1,tt1,KA,⟨hold,h⟩,h2,h3,h4,h5,_⟩:=lookX_spec _ 0 _ _ _ (by simp) h
   have h5':∀j∈KA,j<ops.size∧l.getD j false=false∧∃o T0,Evid P F ops nt L T1 j o T0:=fun j hj=>by
    rcases h5 j hj with h | h
    ·cases h
    ·exact h
   have hsz:(markAll l KA).size=ops.size:=by rw [markAll_size]; exact hls
   have hEv:∀i∈V++KA,∃o T0,Evid P F ops nt L T1 i o T0:=by
    intro i hi
    rcases List.mem_append.1 hi with hi | hi
    ·exact h4 i (Nat.zero_le _) (hVlt i hi) (mem_hasNat hi)
    ·exact(h5' i hi).2.2
   have hLr:∀lr a,Lr ops nt l V T lr a→Lr ops nt (markAll l KA) (V++KA) T1 lr a:=by
    intro lr a hl
    refine⟨hl.size,by rw [markAll_size]; exact hl.lsize,fun i hi=>markAll_mono _ _ _ (hl.sub i hi), ?_,hl.closed,hl.tls.1,hl.tls.2.1, ?_⟩
    ·intro i hlt hi hno
     rcases markAll_get _ _ _ hi with hi | hi
     ·exact List.mem_append_right _ hi
     ·exact List.mem_append_left _ (hl.late i hlt hi hno)
    ·intro t v hv hlisted
     by_cases hex:∃i o,(hasNat V i=true∨i∈KA)∧ops[i]? = some o∧o.dst=some t
     ·obtain⟨i,o,hm,ho,hd⟩:=hex
      have hli:=hlisted i o ho hd
      rcases hm with hv' | ha
      ·have hmem:t∈dstsOf ops V:=by
        simp only [dstsOf,List.mem_filterMap]
        exact⟨i,hasNat_mem hv',by rw [ho]; exact hd⟩
       exact hl.tls.2.2 t v (restrict_get_of hold.symm hmem hv) hlisted
      ·have:=(h5' i ha).2.1
       have hx:=hl.sub i hli
       rw [this] at hx; cases hx
     ·have hn:T1.get t=(without T (dstsOf ops V)).get t:=h3 t fun i o hm ho hd=>hex ⟨i,o,hm,ho,hd⟩
      rw [hn] at hv
      exact hl.tls.2.2 t v (without_get hv).1 hlisted
   intro lr a w fuel hf hl hi
   refine lz_aux (T:=T1) hac hsz hEv ?_ ?_ lr a w fuel hf (hLr lr a hl) hi
   ·intro hall
    have:(List.range ops.size).all (fun i=>(markAll l KA).getD i false)=true:=by
     simp only [List.all_eq_true,List.mem_range]
     exact hall
    rw [this] at h
    exact hend _ _ _ _ h
   ·intro i hlt hno hd
    have hnall:(List.range ops.size).all (fun i=>(markAll l KA).getD i false)=false:=by
     cases hx:(List.range ops.size).all (fun i=>(markAll l KA).getD i false) with
     | false=>rfl
     | true=>
      simp only [List.all_eq_true,List.mem_range] at hx
      rw [hx i hlt] at hno; cases hno
    rw [hnall] at h
    simp only [cond_false] at h
    have hir:i∈readyV ops (markAll l KA):=by
     simp only [readyV,List.mem_filter,List.mem_range]
     refine⟨hlt, ?_⟩
     have ho:ops[i]? = some ops[i]:=by simp [hlt]
     rw [ho]
     simp only [Bool.and_eq_true,Bool.not_eq_true',List.all_eq_true]
     exact⟨hno,hd _ ho⟩
    have hz:=(zall_ok _ h).2 i hir
    split at hz
    ·rename_i o ho
     refine lz_run ho (doX_sound hX hE hz) ?_
     rintro v L' ⟨g,G',hk⟩
     obtain⟨tt' ,G'',hk⟩:=putX_ok hk
     exact ih _ _ _ _ _ _ hk
    ·exact hz.elim
end
end Go.Sx
/- The second executor is sound: the whole. -/
set_option linter.unusedSimpArgs false
namespace Go.Sx
section
variable {P:Program} {F:Fr} {Ψ : Value→List Ent→Prop} {S:List Kont→TM→List Ent→Prop}
theorem calls_of_go{fn:Func}{body:Code}{f:FuncId}{args:List Value}{L:List Ent}{R:Ending→World→Prop}(hf:P.funcs[f]? = some fn)(hb:fn.body=some body)
  (hg:Go P fn body (args.length+(fn.ntmps-args.length)) F R [.c []] (argTM 0 args) L):∀w,In L F w→Calls P f args.toArray w R:=by
 intro w hi
 refine calls_of_wp hf hb ?_
 have hg:=hg {tmps:=args.toArray++Array.replicate (fn.ntmps-args.toArray.size) undef,defers:=[]} w ?_ hi
 ·simp only [KQ,look] at hg
  refine wp_mono hg ?_
  intro e a w hq
  exact hq
 ·refine⟨by simp, ?_,rfl⟩
  intro t v hv
  obtain⟨_,h2⟩:=argTM_get _ _ _ _ hv
  simp only [Nat.sub_zero] at h2
  have hlt:=(List.getElem?_eq_some_iff.1 h2).1
  rw [Array.getElem?_append_left (by simpa using hlt)]
  simpa using h2
/-- what a frame's end is to come to -/
def RK(P:Program)(F:Fr)(Ψ : Value→List Ent→Prop)(S:List Kont→TM→List Ent→Prop)(K:Value→Tg→List Ent→Gh→Out2)(e:Ending)(w':World): Prop:=
 ∃v g L' G',e = .returned v∧(K v g L' G').ok P F Ψ S∧In L' F w'
structure FrOk (P:Program) (fr:Fr2) (fn:Func):Prop where
 hf:P.funcs[fr.f]? = some fn
 hb:fn.body=some fr.body
 hr:fn.results=fr.rs.toArray
theorem res2_run{fn:Func}{nt:Nat}{R:Ending→World→Prop}{tm:TM}{tt:TT}{a:Act}{w:World}{rs:List ResultVar}{L:List Ent}{G:Gh}{c:Value→List Ent→Out2}(hrs:fn.results=rs.toArray)(ht:TRep nt tm a)(hi:In L F w)
  (h:((resS2 P tm tt G L rs).out fun vs L=>c (tupV vs) L).ok P F Ψ S) (hR:∀v L',(c v L').ok P F Ψ S→In L' F w→R (.returned v) w):a.defers=[]∧∃v,(results fn a.tmps).run P w = .ok v w∧R (.returned v) w:=by
 rw [SO2.out_ok] at h
 obtain⟨H,h⟩:=resS2_sat rs h
 obtain⟨f,hf1,hf2,hres⟩:∃f:ResultVar→Sem Value,(∀t,f (.tmp t)=pure (a.tmps.getD t undef))∧(∀c t,f (.cell c t)=(do loadVar t (←asAddr (a.tmps.getD c undef))))∧
   results fn a.tmps=(do let vs ←fn.results.mapM f; pure (if h:vs.size=1 then vs[0] else .tuple vs)):=⟨_,fun _=>rfl,fun _ _=>rfl,rfl⟩
 obtain⟨vs,h1,h3⟩:=resS_sound f hf1 hf2 rs H ht hi h
 refine⟨ht.defers,tupV vs, ?_,hR _ _ h3 hi⟩
 rw [hres,hrs,List.mapM_toArray]
 rw [map_eq_pure_bind]
 simp only [Sem.run_bind,h1,Result.andThen_ok,Sem.run_pure]
 congr 1
 match vs with
 | []=>rfl
 | [v]=>rfl
 | v :: u :: vs=>simp [tupV]
theorem exec2_sound{X:Cx}(hX:XOk P X)(hmix:P.follows .mixedOrders=true): ∀(n:Nat) (fr:Fr2) (fn:Func) (ks:List Kont) (tm:TM) (tt:TT) (L:List Ent) (G:Gh) (K:Value→Tg→List Ent→Gh→Out2),
  FrOk P fr fn→(fr.top=true→∀ks tm L,S ks tm L→Go P fn fr.body fr.nt F (RK P F Ψ S K) ks tm L)→(exec2 P X n fr ks tm tt L G K).ok P F Ψ S→Go P fn fr.body fr.nt F (RK P F Ψ S K) ks tm L:=by
 intro n
 induction n with
 | zero=>intro fr fn ks tm tt L G K _ _ h; exact h.elim
 | succ n ih=>
  intro fr fn ks tm tt L G K hfr hS h
  have hE:Ent2 P F Ψ S (fun f args gs L G c=>match P.funcs[f]? with
     | some fn=>match fn.body with
      | some body=>exec2 P X n ⟨false,f,body,args.length+(fn.ntmps-args.length),fn.results.toList⟩ [.c []] (argTM 0 args) (argTT 0 gs) L G c
      | none=>.bad
     | none=>.bad):=by
   intro f args gs L G c h
   simp only at h
   split at h
   ·rename_i fn' hf
    split at h
    ·rename_i body hb
     have hg:=ih ⟨false,f,body,args.length+(fn'.ntmps-args.length),fn'.results.toList⟩ fn' _ _ _ _ _ _ ⟨hf,hb,by simp⟩ (fun h=>by cases h) h
     intro w hi
     refine(calls_of_go hf hb hg w hi).mono ?_
     rintro e w' ⟨v,g,L' ,G',rfl,h1,h2⟩
     exact⟨v,L',rfl,⟨g,G',h1⟩,h2⟩
    ·exact h.elim
   ·exact h.elim
  have weak:∀ {ks':List Kont} {tm':TM} {tt':TT},(∀t v,tm'.get t=some v→tm.get t=some v)→(exec2 P X n fr ks' tm' tt' L G K).ok P F Ψ S→Go P fn fr.body fr.nt F (RK P F Ψ S K) ks' tm L:=
   fun hw h a w ht hi=>ih fr fn _ _ _ _ _ _ hfr hS h a w (ht.weak hw) hi
  have res:∀ {a:Act} {w:World},TRep fr.nt tm a→In L F w→((resS2 P tm tt G L fr.rs).out fun vs L=>K (tupV vs) (tupG (resG P tm tt L G fr.rs)) L G).ok P F Ψ S→bodyPost P fn (RK P F Ψ S K) .ret a w:=fun ht hi h=>
   res2_run (c:=fun v L=>K v (tupG (resG P tm tt L G fr.rs)) L G) hfr.hr ht hi h fun v L' h1 h2=>⟨v,_,L',_,rfl,h1,h2⟩
  unfold exec2 at h
  cases ks with
  | nil=>exact fun a w ht hi=>res ht hi h
  | cons kt ks'=>
   cases kt with
   | b id=>exact fun a w ht hi=>ih fr fn ks' _ _ _ _ _ hfr hS h a w ht hi
   | j J=>
    simp only at h
    cases ht:fr.top with
    | true=>rw [ht] at h; exact hS ht _ _ _ h
    | false=>rw [ht] at h; exact h.elim
   | r p=>
    intro a w ht hi
    refine in_once ?_
    have:=ih fr fn (.c (0 :: p) :: .r p :: ks') _ _ _ _ _ hfr hS h a w ht hi
    simp only [KQ] at this
    refine wp_mono this ?_
    intro e a w hq; cases e <;> exact hq
   | c p=>
    simp only at h
    split at h
    ·rename_i hl
     intro a w ht hi
     simp only [KQ]; rw [hl]; exact wp_skip (ih fr fn ks' _ _ _ _ _ hfr hS h a w ht hi)
    ·rename_i hl
     intro a w ht hi
     simp only [KQ]; rw [hl]; exact wp_label (ih fr fn ks' _ _ _ _ _ hfr hS h a w ht hi)
    ·rename_i x y hl
     intro a w ht hi
     simp only [KQ]; rw [hl]
     refine wp_seq ?_
     have:=ih fr fn (.c (0 :: p) :: .c (1 :: p) :: ks') _ _ _ _ _ hfr hS h a w ht hi
     simp only [KQ,look,hl,child] at this
     refine wp_mono this ?_
     intro e a w hq
     cases e <;> first | exact hq | (simp only [KQ,look,hl,child] at hq; exact hq)
    ·rename_i id c hl
     intro a w ht hi
     simp only [KQ]; rw [hl]
     refine wp_block ?_
     have:=ih fr fn (.c (0 :: p) :: .b id :: ks') _ _ _ _ _ hfr hS h a w ht hi
     simp only [KQ,look,hl,child] at this
     refine wp_mono this ?_
     intro e a w hq; cases e <;> exact hq
    ·rename_i c hl
     intro a w ht hi
     simp only [KQ]; rw [hl]
     refine wp_scope_straight ?_
     rw [KQ_noGoto]
     have:=ih fr fn (.c (0 :: p) :: ks') _ _ _ _ _ hfr hS h a w ht hi
     simp only [KQ,look,hl,child] at this
     exact this
    ·rename_i id ops hl
     intro a w ht hi
     simp only [KQ]; rw [hl]
     refine wp_region_list ?_
     have:=ih fr fn (.o p 0 :: ks') _ _ _ _ _ hfr hS h a w ht hi
     simp only [KQ,hl,List.drop_zero] at this
     exact this
    ·rename_i id ops hl
     cases hn:needsOld ops 0 ops.toList with
     | true=>
      rw [hn] at h
      simp only [cond_true] at h
      have hz:=zrun_sound (fn:=fn) (body:=fr.body) (R:=RK P F Ψ S K) (ks:=ks') hX hE (fun T tt L G h=>ih fr fn ks' _ _ _ _ _ hfr hS h) _ _ _ _ _ _ _ h
      exact go_lzS hmix hl (subOps_ok tm ops) (fun i t v hs=>hs.1) (fun t v hv=>(without_get hv).1) hz
     | false=>
      rw [hn] at h
      simp only [cond_false] at h
      have hz:=zrun_sound (fn:=fn) (body:=fr.body) (R:=RK P F Ψ S K) (ks:=ks') hX hE (fun T tt L G h=>ih fr fn ks' _ _ _ _ _ hfr hS h) _ _ _ _ _ _ _ h
      have hr:regOps fr.body p=ops:=by unfold regOps; rw [hl]
      have hg:=go_lz (fn:=fn) (R:=RK P F Ψ S K) (F:=F) (body:=fr.body) (p:=p) hmix (by rw [hl]) (by rw [hr]; exact hz)
      exact fun a w ht hi=>hg a w (ht.weak fun t v hv=>(without_get hv).1) hi
    ·rename_i hl
     intro a w ht hi
     simp only [KQ]; rw [hl]; exact wp_ret (KQ_ret ks' a w (res ht hi h))
    ·rename_i id hl
     intro a w ht hi
     simp only [KQ]; rw [hl]
     split at h
     ·rename_i k hk; exact wp_exit (KQ_toBlock ks' k a w hk (ih fr fn k _ _ _ _ _ hfr hS h a w ht hi))
     ·exact h.elim
    ·rename_i x c1 c2 hl
     split at h
     ·rename_i t
      cases hb:openB tm tt t with
      | true=>
       rw [hb] at h
       simp only [cond_true] at h
       obtain⟨tm',tt',h1,h2⟩:=splitX_ok h
       exact weak h2 h1
      | false=>
       rw [hb] at h
       simp only [cond_false] at h
       intro a w ht hi
       simp only [KQ]; rw [hl]
       split at h
       ·rename_i hv
        have hg:=ht.get _ _ hv
        refine wp_cond_true (by simp [Act.eval,hg]) ?_
        have:=ih fr fn (.c (0 :: p) :: ks') _ _ _ _ _ hfr hS h a w ht hi
        simp only [KQ,look,hl,child] at this
        exact this
       ·rename_i hv
        have hg:=ht.get _ _ hv
        refine wp_cond_false (by simp [Act.eval,hg]) ?_
        have:=ih fr fn (.c (1 :: p) :: ks') _ _ _ _ _ hfr hS h a w ht hi
        simp only [KQ,look,hl,child] at this
        exact this
       ·exact h.elim
     ·exact h.elim
    ·rename_i c hl
     cases hc:(fr.top && !hasNat X.unroll fr.f) with
     | true=>
      rw [hc] at h
      simp only [Bool.and_eq_true] at hc
      exact hS hc.1 _ _ _ h
     | false=>
      rw [hc] at h
      simp only [cond_false] at h
      intro a w ht hi
      simp only [KQ]; rw [hl]
      refine loop_once ?_
      have:=ih fr fn (.c (0 :: p) :: .r p :: ks') _ _ _ _ _ hfr hS h a w ht hi
      simp only [KQ,look,hl,child] at this
      refine wp_mono this ?_
      intro e a w hq
      cases e <;> first | exact hq | (simp only [KQ,look,hl,child] at hq; exact hq)
    ·exact h.elim
   | o p k=>
    simp only at h
    split at h
    ·rename_i id ops dr hl
     split at h
     ·rename_i hk
      intro a w ht hi
      simp only [KQ]; rw [hl]
      have hdrop:ops.toList.drop k=[]:=by
       rw [List.drop_eq_nil_iff]; exact List.getElem?_eq_none_iff.1 hk
      simp only
      rw [hdrop]
      exact wpList_nil (ih fr fn ks' _ _ _ _ _ hfr hS h a w ht hi)
     ·rename_i o hk
      split at h
      ·obtain⟨tm',tt',h1,h2⟩:=splitX_ok h
       exact weak h2 h1
      ·cases hc:(dstOk fr.nt o.dst && !isSelect o.op) with
       | false=>rw [hc] at h; exact h.elim
       | true=>
        rw [hc] at h
        simp only [cond_true] at h
        have hc0:=hc
        simp only [Bool.and_eq_true,Bool.not_eq_true'] at hc
        split at h
        ·exact h.elim
        ·rename_i hg
         intro a w ht hi
         have hdrop:ops.toList.drop k=o :: ops.toList.drop (k+1):=by
          obtain⟨hlt,hget⟩:=List.getElem?_eq_some_iff.1 hk
          rw [List.drop_eq_getElem_cons hlt,hget]
         simp only [KQ]; rw [hl]
         simp only
         rw [hdrop]
         refine wpList_skip (guardOf_wanted ht hg) ?_
         have:=ih fr fn (.o p (k+1) :: ks') _ _ _ _ _ hfr hS h _ w (putT_rep ht hc.1 undef) hi
         simpa only [KQ,hl] using this
        ·rename_i hg
         cases hkn:o.op.operands.all tm.knows with
         | false=>rw [hkn] at h; exact h.elim
         | true=>
          rw [hkn] at h
          simp only [cond_true] at h
          have ho:opAt fr.body fr.nt p k tm=some o:=by
           unfold opAt
           rw [hl]
           simp only [hk,hg]
           simp only [hc.1,hc.2,hkn,Bool.not_false,Bool.and_self,cond_true]
          refine go_run ho (doX_sound hX hE h) ?_
          rintro v L' ⟨g,G',hk'⟩
          obtain⟨tt' ,G'',hk'⟩:=putX_ok hk'
          exact ih fr fn _ _ _ _ _ _ hfr hS hk'
    ·exact h.elim
end
end Go.Sx
/- Contracts as data, and the lemmas by which a walk goes on, node by node. -/
set_option linter.unusedSimpArgs false
namespace Go.Sx
/-! ### nodes -/
noncomputable def Out2.hd(o:Out2): Out2 := @Out2.rec (fun _=>Out2) .bad (fun v g L G=>.ret v g L G) (fun ks tm tt L G=>.stop ks tm tt L G) (fun b t f _ _=>.br b t f) (fun a b _ _=>.and a b) (fun _ _ _ ih=>ih) (fun p o _=>.obl p o) (fun k _=>.new k) (fun k _=>.ex k)
 (fun f args gs L G k _=>.call f args gs L G k) (fun o tm tt L G k _=>.op o tm tt L G k) o
noncomputable def Out2.esT(o:Out2): Type := @Out2.rec (fun _=>Type) Unit (fun _ _ _ _=>Unit) (fun _ _ _ _ _=>Unit) (fun _ _ _ _ _=>Unit) (fun _ _ _ _=>Unit) (fun {β} _ _ _ ih => β×ih) (fun _ _ _=>Unit) (fun _ _=>Unit) (fun _ _=>Unit) (fun _ _ _ _ _ _ _=>Unit) (fun _ _ _ _ _ _ _=>Unit) o
noncomputable def Out2.el(o:Out2): o.esT := @Out2.rec Out2.esT () (fun _ _ _ _=>()) (fun _ _ _ _ _=>()) (fun _ _ _ _ _=>()) (fun _ _ _ _=>()) (fun x _ _ ih=>(x,ih)) (fun _ _ _=>()) (fun _ _=>()) (fun _ _=>()) (fun _ _ _ _ _ _ _=>()) (fun _ _ _ _ _ _ _=>()) o
noncomputable def Out2.er(o:Out2): o.esT := @Out2.rec Out2.esT () (fun _ _ _ _=>()) (fun _ _ _ _ _=>()) (fun _ _ _ _ _=>()) (fun _ _ _ _=>()) (fun _ y _ ih=>(y,ih)) (fun _ _ _=>()) (fun _ _=>()) (fun _ _=>()) (fun _ _ _ _ _ _ _=>()) (fun _ _ _ _ _ _ _=>()) o
def Out2.nx: Out2→Out2
 | .obl _ o=>o
 | _=>.bad
def Out2.nn: Out2→Nat→Out2
 | .new k,b=>k b
 | _,_=>.bad
def Out2.bt: Out2→Out2
 | .br _ t _=>t
 | .and a _=>a
 | _=>.bad
def Out2.bf: Out2→Out2
 | .br _ _ f=>f
 | .and _ b=>b
 | _=>.bad
def Out2.sk: Out2→List Kont
 | .stop ks _ _ _ _=>ks
 | _=>[]
def Out2.st: Out2→TM
 | .stop _ tm _ _ _=>tm
 | .op _ tm _ _ _ _=>tm
 | _=>[]
def Out2.sg: Out2→TT
 | .stop _ _ tt _ _=>tt
 | .op _ _ tt _ _ _=>tt
 | _=>[]
def Out2.sL: Out2→List Ent
 | .stop _ _ _ L _=>L
 | .ret _ _ L _=>L
 | .call _ _ _ L _ _=>L
 | .op _ _ _ L _ _=>L
 | _=>[]
def Out2.sG: Out2→Gh
 | .stop _ _ _ _ G=>G
 | .ret _ _ _ G=>G
 | .call _ _ _ _ G _=>G
 | .op _ _ _ _ G _=>G
 | _=>⟨[],0⟩
def Out2.rv: Out2→Value
 | .ret v _ _ _=>v
 | _=>undef
def Out2.rg: Out2→Tg
 | .ret _ g _ _=>g
 | _=>.n
def Out2.ca: Out2→List Value
 | .call _ a _ _ _ _=>a
 | _=>[]
def Out2.cg: Out2→List Tg
 | .call _ _ g _ _ _=>g
 | _=>[]
def Out2.k: Out2→Value→Tg→List Ent→Gh→Out2
 | .call _ _ _ _ _ k=>k
 | .op _ _ _ _ _ k=>k
 | _=>fun _ _ _ _=>.bad
def Out2.oo: Out2→Oper
 | .op o _ _ _ _ _=>o
 | _=>default
def Out2.tag: Out2→Nat
 | .bad=>0
 | .ret .. => 1
 | .stop .. => 2
 | .br .. => 3
 | .and .. => 4
 | .eqn .. => 5
 | .obl .. => 6
 | .new .. => 7
 | .ex .. => 8
 | .call .. => 9
 | .op .. => 10
def Out2.pp: Out2→Prop
 | .obl p _=>p
 | _=>True
def Out2.bb: Out2→Bool
 | .br b _ _=>b
 | _=>true
def Out2.cf: Out2→FuncId
 | .call f _ _ _ _ _=>f
 | _=>0
theorem Out2.of1(o:Out2)(h:o.tag=1): o = .ret o.rv o.rg o.sL o.sG:=by cases o <;> first | rfl | (exact absurd h (by simp [Out2.tag]))
theorem Out2.of2(o:Out2)(h:o.tag=2): o = .stop o.sk o.st o.sg o.sL o.sG:=by cases o <;> first | rfl | (exact absurd h (by simp [Out2.tag]))
theorem Out2.of3(o:Out2)(h:o.tag=3): o = .br o.bb o.bt o.bf:=by cases o <;> first | rfl | (exact absurd h (by simp [Out2.tag]))
theorem Out2.of4(o:Out2)(h:o.tag=4): o = .and o.bt o.bf:=by cases o <;> first | rfl | (exact absurd h (by simp [Out2.tag]))
theorem Out2.of6(o:Out2)(h:o.tag=6): o = .obl o.pp o.nx:=by cases o <;> first | rfl | (exact absurd h (by simp [Out2.tag]))
theorem Out2.of7(o:Out2)(h:o.tag=7): o = .new o.nn:=by cases o <;> first | rfl | (exact absurd h (by simp [Out2.tag]))
theorem Out2.of9(o:Out2)(h:o.tag=9): o = .call o.cf o.ca o.cg o.sL o.sG o.k:=by cases o <;> first | rfl | (exact absurd h (by simp [Out2.tag]))
theorem Out2.of10(o:Out2)(h:o.tag=10): o = .op o.oo o.st o.sg o.sL o.sG o.k:=by cases o <;> first | rfl | (exact absurd h (by simp [Out2.tag]))
section
variable {P:Program} {F:Fr} {Ψ : Value→List Ent→Prop} {S:List Kont→TM→List Ent→Prop} {o:Out2}
structure OK2 (P:Program) (F:Fr) (Ψ : Value→List Ent→Prop) (S:List Kont→TM→List Ent→Prop) (o:Out2):Prop where
 h:o.ok P F Ψ S
theorem hd_ok: ∀(o:Out2),o.el=o.er→o.hd.ok P F Ψ S→o.ok P F Ψ S
 | .eqn x y o,he,h=>by
  have h2:(x,o.el)=(y,o.er):=he
  simp only [Prod.mk.injEq] at h2
  exact⟨h2.1,hd_ok o h2.2 h⟩
 | .bad,_,h=>h
 | .ret ..,_,h=>h
 | .stop ..,_,h=>h
 | .br ..,_,h=>h
 | .and ..,_,h=>h
 | .obl ..,_,h=>h
 | .new ..,_,h=>h
 | .ex ..,_,h=>h
 | .call ..,_,h=>h
 | .op ..,_,h=>h
theorem xO(p:Prop)(hp:p)(hk:OK2 P F Ψ S o.hd.nx)(h:(o.hd.tag,o.hd.pp)=(6,p):=by kernel_rfl)(he:o.el=o.er:=by kernel_rfl): OK2 P F Ψ S o:=
 ⟨hd_ok o he (by
  simp only [Prod.mk.injEq] at h
  obtain⟨h1,rfl⟩:=h
  rw [Out2.of6 _ h1]; exact⟨hp,hk.h⟩)⟩
theorem xN(hk:∀b,OK2 P F Ψ S (o.hd.nn b))(h:o.hd.tag=7:=by kernel_rfl)(he:o.el=o.er:=by kernel_rfl): OK2 P F Ψ S o:=
 ⟨hd_ok o he (by rw [Out2.of7 _ h]; exact fun b=>(hk b).h)⟩
theorem xB(b:Bool)(ht:b=true→OK2 P F Ψ S o.hd.bt)(hf:b=false→OK2 P F Ψ S o.hd.bf)(h:(o.hd.tag,o.hd.bb)=(3,b):=by kernel_rfl)(he:o.el=o.er:=by kernel_rfl): OK2 P F Ψ S o:=
 ⟨hd_ok o he (by
  simp only [Prod.mk.injEq] at h
  obtain⟨h1,rfl⟩:=h
  rw [Out2.of3 _ h1]; exact⟨fun x=>(ht x).h,fun x=>(hf x).h⟩)⟩
theorem xT(b:Bool)(hb:b=true)(ht:OK2 P F Ψ S o.hd.bt)(h:(o.hd.tag,o.hd.bb)=(3,b):=by kernel_rfl)(he:o.el=o.er:=by kernel_rfl): OK2 P F Ψ S o:=
 xB b (fun _=>ht) (fun hx=>absurd (hb.symm.trans hx) (by decide)) h he
theorem xF(b:Bool)(hb:b=false)(ht:OK2 P F Ψ S o.hd.bf)(h:(o.hd.tag,o.hd.bb)=(3,b):=by kernel_rfl)(he:o.el=o.er:=by kernel_rfl): OK2 P F Ψ S o:=
 xB b (fun hx=>absurd (hb.symm.trans hx) (by decide)) (fun _=>ht) h he
theorem xA(ha:OK2 P F Ψ S o.hd.bt)(hb:OK2 P F Ψ S o.hd.bf)(h:o.hd.tag=4:=by kernel_rfl)(he:o.el=o.er:=by kernel_rfl): OK2 P F Ψ S o:=
 ⟨hd_ok o he (by rw [Out2.of4 _ h]; exact⟨ha.h,hb.h⟩)⟩
theorem xS(hk:S o.hd.sk o.hd.st o.hd.sL)(h:o.hd.tag=2:=by kernel_rfl)(he:o.el=o.er:=by kernel_rfl): OK2 P F Ψ S o:=
 ⟨hd_ok o he (by rw [Out2.of2 _ h]; exact hk)⟩
theorem xL(hk : Ψ o.hd.rv o.hd.sL)(h:o.hd.tag=1:=by kernel_rfl)(he:o.el=o.er:=by kernel_rfl): OK2 P F Ψ S o:=
 ⟨hd_ok o he (by rw [Out2.of1 _ h]; exact hk)⟩
end
/-! ### contracts as data -/
structure Rf where
 b:Nat
 a:Option Addr
 c:Nat
def rf0(_:Nat): Rf:=⟨0,none,0⟩
inductive SV
 | i (k:IntKind) (e:Int)
 | l (k:IntKind) (e:Int)
 | bo (x:Bool)
 | yes
 | no
 | p (r off:Nat)
 | np
 | s (r len:Nat)
 | ns
 | ip (t:TypeId) (r:Nat)
 | ii (t:TypeId) (k:IntKind) (e:Int)
 | ni
 | fn (f:FuncId) (a b:List Nat)
 | nf
 | m (r:Nat)
 | nm
 | o (v:Value)
 | mb (r b:Nat)
 | pb (r b off:Nat)
 | sp (r n c:Nat)
 | pe (r j sz:Nat)
def SV.v(g:Nat→Rf): SV→Value
 | .i k e=>.int k e
 | .l k e=>.int k e
 | .bo x=>.bool x
 | .yes=>.bool true
 | .no=>.bool false
 | .p r off=>.pointer (some ⟨(g r).b,off,none⟩)
 | .np=>.pointer none
 | .s r n=>.slice (g r).a n (g r).c
 | .ns=>.slice none 0 0
 | .ip t r=>.iface t (.pointer (some ⟨(g r).b,0,none⟩))
 | .ii t k e=>.iface t (.int k e)
 | .ni=>.nilIface
 | .fn f a b=>.func (.func f) (a.map fun r=>.pointer (some ⟨(g r).b,0,none⟩)).toArray (b.map fun r=>.pointer (some ⟨(g r).b,0,none⟩)).toArray
 | .nf=>.nilFunc
 | .m r=>.map (some (g r).b)
 | .nm=>.map none
 | .o v=>v
 | .mb _ b=>.map (some b)
 | .pb _ b off=>.pointer (some ⟨b,off,none⟩)
 | .sp r n c=>.slice (some ⟨(g r).b,0,none⟩) n c
 | .pe r j sz=>slAt (g r).a j sz
def SV.g(ρ : Nat→Nat): SV→Tg
 | .i _ _=>.n
 | .bo _=>.n
 | .p r _=>.i (ρ r)
 | .s r _=>.i (ρ r)
 | .ip _ r=>.l [.i (ρ r)]
 | .ii _ _ _=>.l [.c]
 | .fn _ a b=>.l [.l (a.map fun r=>.i (ρ r)),.l (b.map fun r=>.i (ρ r))]
 | .m r=>.i (ρ r)
 | .o _=>.n
 | .mb r _=>.i (ρ r)
 | .pb r _ _=>.i (ρ r)
 | .sp r _ _=>.i (ρ r)
 | .pe r j _=>.e (ρ r) j 0
 | _=>.c
inductive SA
 | s (x:SV)
 | g (l:List SV)
def SA.v(g:Nat→Rf): SA→Value
 | .s x=>x.v g
 | .g l=>.agg (l.map (SV.v g)).toArray
def SA.t(ρ : Nat→Nat): SA→Tg
 | .s x=>x.g ρ
 | .g l=>.l (l.map (SV.g ρ))
def retV(g:Nat→Rf)(l:List SA): Value:=tupV (l.map (SA.v g))
def retT(ρ : Nat→Nat)(l:List SA): Tg:=tupG (l.map (SA.t ρ))
inductive SE:Type 1
 | pts (r:Nat) (cs:List SV) (t:TypeId)
 | sl {α : Type} (r:Nat) (enc : α→List Value) (d : α) (sz:Nat) (xs:List α) (t:TypeId)
 | rd {α : Type} (r:Nat) (enc : α→List Value) (d : α) (sz:Nat) (xs:List α) (t:TypeId) (z:Rest)
 | raw (r:Nat) (o:Obj)
 | rs (r:Nat) (R:(Nat→Rf)→Res)
def SE.e(g:Nat→Rf): SE→Ent
 | .pts r cs t=>.pts (g r).b (cs.map (SV.v g)) t
 | .sl r enc d sz xs t=>.sl (g r).a (g r).c enc d sz xs t
 | .rd r enc d sz xs t z=>.rd (g r).a (g r).c enc d sz xs t z
 | .raw r o=>.raw (g r).b o
 | .rs r R=>.res (R g)
def SE.gh(ρ : Nat→Nat): SE→Nat×List Tg
 | .pts r cs _=>(ρ r,cs.map (SV.g ρ))
 | .sl r .. => (ρ r,[])
 | .rd r .. => (ρ r,[])
 | .raw r _=>(ρ r,[])
 | .rs r _=>(ρ r,[])
def SE.ref: SE→Nat
 | .pts r .. => r
 | .sl r .. => r
 | .rd r .. => r
 | .raw r _=>r
 | .rs r _=>r
def SE.cs: SE→List SV
 | .pts _ cs _=>cs
 | _=>[]
/-! matching: which entry a reference is -/
abbrev Rho:= List (Nat×Nat)
def Rho.get: Rho→Nat→Nat
 | [],_=>999999999
 | (r,k) :: ρ,x=>bif Nat.beq r x then k else Rho.get ρ x
def Rho.has: Rho→Nat→Bool
 | [],_=>false
 | (r,_) :: ρ,x=>Nat.beq r x||Rho.has ρ x
def Rho.put(ρ : Rho)(r:Nat)(g:Tg): Rho:=bif ρ.has r then ρ else match g with
 | .i k=>(r,k) :: ρ
 | _ => ρ
def putAll(ρ : Rho): List Nat→Nat→Tg→Rho
 | [],_,_ => ρ
 | r :: rs,i,g=>putAll (ρ.put r (g.at i)) rs (Nat.succ i) g
def matchV(ρ : Rho)(x:SV)(g:Tg): Rho:=
 match x with
 | .p r _ => ρ.put r g
 | .s r _ => ρ.put r g
 | .m r => ρ.put r g
 | .mb r _ => ρ.put r g
 | .pb r _ _ => ρ.put r g
 | .sp r _ _ => ρ.put r g
 | .ip _ r => ρ.put r (g.at 0)
 | .fn _ a b=>putAll (putAll ρ a 0 (g.at 0)) b 0 (g.at 1)
 | _ => ρ
def matchL(ρ : Rho): List SV→List Tg→Rho
 | x :: xs,g :: gs=>matchL (matchV ρ x g) xs gs
 | _,_ => ρ
def matchA(ρ : Rho)(x:SA)(g:Tg): Rho:=match x with
 | .s x=>matchV ρ x g
 | .g l=>matchL ρ l ((List.range l.length).map g.at)
def matchAs(ρ : Rho): List SA→List Tg→Rho
 | x :: xs,g :: gs=>matchAs (matchA ρ x g) xs gs
 | _,_ => ρ
def matchE(ρ : Rho)(G:Gh): List SE→Rho
 | [] => ρ
 | e :: es=>matchE (matchL ρ e.cs (G.cells (ρ.get e.ref))) G es
def refE: Option Ent→Rf
 | some (.pts b _ _)=>⟨b,none,0⟩
 | some (.sl a c _ _ _ _ _)=>⟨0,a,c⟩
 | some (.rd a c _ _ _ _ _ _)=>⟨0,a,c⟩
 | some (.raw b _)=>⟨b,none,0⟩
 | _=>⟨0,none,0⟩
end Go.Sx
/- Contracts as data: how they are shown, and how they are used. -/
set_option linter.unusedSimpArgs false
namespace Go.Sx
def mixR(n:Nat)(g ν : Nat→Rf)(r:Nat): Rf:=bif Nat.blt r n then g r else ν r
/-- a contract as data: arguments, entries ahead, how many references these have; what may be told of a thing, and for each what is told, and what is owned behind -/
structure Sp (ι : Type) where
 args:List SA
 pre:List SE
 n:Nat
 fact : ι→Prop
 ret : ι→List SA
 post : ι→List SE
def Sp.Q{ι : Type}(s:Sp ι)(g:Nat→Rf)(v:Value)(L:List Ent): Prop := ∃x ν,s.fact x∧v=retV (mixR s.n g ν) (s.ret x)∧L=(s.post x).map (SE.e (mixR s.n g ν))
def Ct(P:Program)(f:FuncId){ι : Type}(s:Sp ι): Prop := ∀g,Ctr P f (s.args.map (SA.v g)).toArray (s.pre.map (SE.e g)) (s.Q g)
/-- some of what is owned is enough -/
def Some_(Ψ : Value→List Ent→Prop)(v:Value)(L:List Ent): Prop := ∃L2,View L L2∧Ψ v L2
theorem view_idx{L:List Ent}(idx:List Nat)(hi:places L.length idx=true): View L (pick L idx):=fun _ _ h=>h.pick idx hi
section
variable {P:Program} {F:Fr} {Ψ : Value→List Ent→Prop}
/-- where a walk may stop -/
def St(P:Program)(fn:Func)(body:Code)(nt:Nat)(F:Fr)(Ψ : Value→List Ent→Prop)(ks:List Kont)(tm:TM)(L:List Ent): Prop:=Go P fn body nt F (RetR F Ψ) ks tm L
theorem RK_ret{S:List Kont→TM→List Ent→Prop}: RK P F Ψ S .ret=RetR F Ψ := by
 funext e w
 exact propext ⟨fun⟨v,g,L,G,h1,h2,h3⟩=>⟨v,L,h1,h2,h3⟩,fun⟨v,L,h1,h2,h3⟩=>⟨v,.n,L,⟨[],0⟩,h1,h2,h3⟩⟩
def Inl(P:Program)(X:Cx): Prop:=XOk P X∧P.follows .mixedOrders=true
theorem xG{fn:Func}{body:Code}{nt:Nat}{ks:List Kont}{tm:TM}{L:List Ent}{f:FuncId}{X:Cx}(hX:Inl P X)(tt:TT)(G:Gh)(hf:P.funcs[f]? = some fn)
  (h:OK2 P F Ψ (St P fn body nt F Ψ) (exec2 P X 4000 ⟨true,f,body,nt,fn.results.toList⟩ ks tm tt L G .ret)) (hb:fn.body=some body:=by kernel_rfl):Go P fn body nt F (RetR F Ψ) ks tm L:=by
 have:=exec2_sound (P:=P) (F:=F) (Ψ := Ψ) (S:=St P fn body nt F Ψ) hX.1 hX.2 4000 ⟨true,f,body,nt,fn.results.toList⟩ fn ks tm tt L G .ret ⟨hf,hb,by simp⟩ (by
  intro _ ks tm L h
  rw [RK_ret]
  exact h) h.h
 rw [RK_ret] at this
 exact this
theorem retr_some{e:Ending}{w:World}(h:RetR F (Some_ Ψ) e w): RetR F Ψ e w:=by
 obtain⟨v,L,rfl,⟨L2,hv,hΨ⟩,hin⟩:=h
 exact⟨v,_,rfl,hΨ,hv F w hin⟩
def AllE(P:Program): List FuncId→Prop
 | []=>True
 | f :: fs=>Enters P f∧AllE P fs
theorem allE{fs:List FuncId}(h:AllE P fs): ∀f,hasNat fs f=true→Enters P f:=by
 induction fs with
 | nil=>intro f hf; cases hf
 | cons x fs ih=>
  intro f hf
  simp only [hasNat,Bool.or_eq_true,Nat.beq_eq] at hf
  rcases hf with rfl | hf
  ·exact h.1
  ·exact ih h.2 f hf
def AllX(P:Program): List (FuncId×Nat)→Prop
 | []=>True
 | (f,k) :: fs=>ExtOk P f k∧AllX P fs
theorem allX{fs:List (FuncId×Nat)}(h:AllX P fs): ∀f k,extK fs f=some k→ExtOk P f k:=by
 induction fs with
 | nil=>intro f k hf; cases hf
 | cons x fs ih=>
  obtain⟨y,j⟩:=x
  intro f k hf
  simp only [extK] at hf
  cases hb:Nat.beq y f with
  | true=>
   rw [hb] at hf
   rw [Nat.beq_eq] at hb
   simp only [cond_true,Option.some.injEq] at hf
   subst hb; subst hf
   exact h.1
  | false=>rw [hb] at hf; exact ih h.2 f k hf
theorem inl_ok{X:Cx}(h1:AllE P X.inl)(h2:AllX P X.ext)(h3:P.follows .mixedOrders=true:=by kernel_rfl): Inl P X:=⟨⟨allE h1,allX h2⟩,h3⟩
theorem ext0{f:FuncId}{fn:Func}(hf:P.funcs[f]? = some fn)(he:Extern.find fn=some (Extern.Atomic.loadT (.int .i64)):=by kernel_rfl)(hn:(fn.name == "runtime.NumGoroutine")=false:=by kernel_rfl) (hb:fn.body.isNone=true:=by kernel_rfl) (hx:Extern.findNext fn=none:=by kernel_rfl):ExtOk P f 0:=⟨fn,hf,hn,hb,hx,.inl ⟨rfl,he⟩⟩
theorem ext1{f:FuncId}{fn:Func}(hf:P.funcs[f]? = some fn)(he:Extern.find fn=some (Extern.Atomic.update (Op.intArith .add) .i64 true):=by kernel_rfl)(hn:(fn.name == "runtime.NumGoroutine")=false:=by kernel_rfl) (hb:fn.body.isNone=true:=by kernel_rfl) (hx:Extern.findNext fn=none:=by kernel_rfl):ExtOk P f 1:=⟨fn,hf,hn,hb,hx,.inr ⟨rfl,he⟩⟩
/-- a contract, by a walk -/
theorem cX{ι : Type}{s:Sp ι}{fn:Func}{f:FuncId}{X:Cx}(nt:Nat)(hX:Inl P X)(hf:P.funcs[f]? = some fn)
  (h:∀g F,OK2 P F (Some_ (s.Q g)) (St P fn (fn.body.getD .skip) nt F (Some_ (s.Q g)))
   (exec2 P X 4000 ⟨true,f,fn.body.getD .skip,nt,fn.results.toList⟩ [.c []] (argTM 0 (s.args.map (SA.v g))) (argTT 0 (s.args.map (SA.t id))) (s.pre.map (SE.e g)) ⟨s.pre.map (SE.gh id),s.n⟩ .ret))
  (hb:fn.body=some (fn.body.getD .skip):=by kernel_rfl) (hnt:s.args.length+(fn.ntmps-s.args.length)=nt:=by kernel_rfl):Ct P f s:=by
 intro g F w hi
 have hg:=xG hX _ _ hf (h g F) hb
 have hnt':(s.args.map (SA.v g)).length+(fn.ntmps-(s.args.map (SA.v g)).length)=nt:=by simpa using hnt
 subst hnt'
 exact(calls_of_go hf hb hg w hi).mono fun e w' h=>retr_some h
/-! the end -/
def idR(n:Nat): Rho:=(List.range n).map fun r=>(r,r)
def retGs(g:Tg): List SA→List Tg
 | [_]=>[g]
 | l=>(List.range l.length).map g.at
def leafR(n:Nat)(ret:List SA)(post:List SE)(o:Out2): Rho:=matchE (matchAs (idR n) ret (retGs o.rg ret)) o.sG post
def leafN(ρ : Rho)(o:Out2)(r:Nat): Rf:=refE (o.sL[o.sG.pos (ρ.get r)]?)
def leafI(ρ : Rho)(post:List SE)(o:Out2): List Nat:=post.map fun e=>o.sG.pos (ρ.get e.ref)
theorem xR{ι : Type}{s:Sp ι}{g:Nat→Rf}{S:List Kont→TM→List Ent→Prop}{o:Out2}(x : ι)(hx:s.fact x)
  (h:(o.hd.tag,o.hd.rv,pick o.hd.sL (leafI (leafR s.n (s.ret x) (s.post x) o.hd) (s.post x) o.hd),places o.hd.sL.length (leafI (leafR s.n (s.ret x) (s.post x) o.hd) (s.post x) o.hd)) =
   (1,retV (mixR s.n g (leafN (leafR s.n (s.ret x) (s.post x) o.hd) o.hd)) (s.ret x),(s.post x).map (SE.e (mixR s.n g (leafN (leafR s.n (s.ret x) (s.post x) o.hd) o.hd))),true):=by kernel_rfl)
  (he:o.el=o.er:=by kernel_rfl):OK2 P F (Some_ (s.Q g)) S o:=by
 simp only [Prod.mk.injEq] at h
 refine⟨hd_ok o he ?_⟩
 rw [Out2.of1 _ h.1,h.2.1]
 exact⟨_,view_idx _ h.2.2.2,x,_,hx,rfl,h.2.2.1⟩
/-! a call -/
def callR(args:List SA)(pre:List SE)(o:Out2): Rho:=matchE (matchAs [] args o.cg) o.sG pre
def callN(ρ : Rho)(o:Out2)(r:Nat): Rf:=refE (o.sL[o.sG.pos (ρ.get r)]?)
def callI(ρ : Rho)(pre:List SE)(o:Out2): List Nat:=pre.map fun e=>o.sG.pos (ρ.get e.ref)
def newId(n:Nat)(ρ : Rho)(G:Gh)(r:Nat): Nat:=bif Nat.blt r n then ρ.get r else G.nx+(r-n)
def callG(n:Nat)(ρ : Rho)(o:Out2)(idx:List Nat)(post:List SE): Gh:=⟨(o.sG.drop idx).es++post.map (SE.gh (newId n ρ o.sG)),o.sG.nx+40⟩
theorem callsL_ct{ι : Type}{s:Sp ι}{f:FuncId}{args:List Value}{L:List Ent}(g:Nat→Rf)(idx:List Nat)(hS:Ct P f s)(ha:args=s.args.map (SA.v g))(hp:pick L idx=s.pre.map (SE.e g))(hi:places L.length idx=true):
  CallsL P F f args L (fun v L' => ∃post,s.Q g v post∧L'=dropAt L idx++post):=by
 intro w hin
 obtain⟨F',h1,h2⟩:=hin.take idx hi
 rw [hp] at h1
 subst ha
 refine(hS g F' w h1).mono ?_
 rintro e w' ⟨v,post,rfl,hΨ,hw⟩
 exact⟨v,_,rfl,⟨post,hΨ,rfl⟩,h2 post w' hw⟩
theorem xC{ι : Type}{s:Sp ι}{f:FuncId}{S:List Kont→TM→List Ent→Prop}{o:Out2}(hen:Enters P f)(hS:Ct P f s)
  (hk:∀x ν,s.fact x→OK2 P F Ψ S (o.hd.k (retV (mixR s.n (callN (callR s.args s.pre o.hd) o.hd) ν) (s.ret x)) (retT (newId s.n (callR s.args s.pre o.hd) o.hd.sG) (s.ret x))
   (dropAt o.hd.sL (callI (callR s.args s.pre o.hd) s.pre o.hd)++(s.post x).map (SE.e (mixR s.n (callN (callR s.args s.pre o.hd) o.hd) ν)))
   (callG s.n (callR s.args s.pre o.hd) o.hd (callI (callR s.args s.pre o.hd) s.pre o.hd) (s.post x))))
  (h:(o.hd.tag,o.hd.cf,o.hd.ca,pick o.hd.sL (callI (callR s.args s.pre o.hd) s.pre o.hd),places o.hd.sL.length (callI (callR s.args s.pre o.hd) s.pre o.hd)) =
   (9,f,s.args.map (SA.v (callN (callR s.args s.pre o.hd) o.hd)),s.pre.map (SE.e (callN (callR s.args s.pre o.hd) o.hd)),true):=by kernel_rfl)
  (he:o.el=o.er:=by kernel_rfl):OK2 P F Ψ S o:=by
 simp only [Prod.mk.injEq] at h
 refine⟨hd_ok o he ?_⟩
 rw [Out2.of9 _ h.1,h.2.1,h.2.2.1]
 refine⟨hen,_,callsL_ct _ _ hS rfl h.2.2.2.1 h.2.2.2.2, ?_⟩
 rintro v L' ⟨post,⟨x,ν,hx,rfl,rfl⟩,rfl⟩
 exact⟨_,_,(hk x ν hx).h⟩
end
end Go.Sx
/- Operations by laws: nodes of the second executor. -/
set_option linter.unusedSimpArgs false
namespace Go.Sx
def Out2.xT: Out2→Type
 | .ex (β := β) _ => β
 | _=>Unit
def Out2.xk: (o:Out2)→o.xT→Out2
 | .ex k,x=>k x
 | .bad,_=>.bad
 | .ret ..,_=>.bad
 | .stop ..,_=>.bad
 | .br ..,_=>.bad
 | .and ..,_=>.bad
 | .eqn ..,_=>.bad
 | .obl ..,_=>.bad
 | .new ..,_=>.bad
 | .call ..,_=>.bad
 | .op ..,_=>.bad
section
variable {P:Program} {F:Fr} {Ψ : Value→List Ent→Prop} {S:List Kont→TM→List Ent→Prop} {o:Out2}
theorem xP{α : Type}{Φ : Value→List Ent→Prop}(A:Oper→α)(a0 : α)(hR:∀o',A o'=a0→Runs P F o' (execOp o.hd.st.eval o') o.hd.sL Φ)
  (hk:∀v L',Φ v L'→∃g G',OK2 P F Ψ S (o.hd.k v g L' G'))
  (h:(o.hd.tag,A o.hd.oo)=(10,a0):=by kernel_rfl) (he:o.el=o.er:=by kernel_rfl):OK2 P F Ψ S o:=by
 simp only [Prod.mk.injEq] at h
 refine⟨hd_ok o he ?_⟩
 rw [Out2.of10 _ h.1]
 refine⟨_,hR _ h.2, ?_⟩
 intro v L' hΦ
 obtain⟨g,G',hk⟩:=hk v L' hΦ
 exact⟨g,G',hk.h⟩
/-- a view of the entries, ahead of a walk -/
theorem xV{L L':List Ent}{P:Program}{fn:Func}{body:Code}{nt:Nat}{R:Ending→World→Prop}{ks:List Kont}{tm:TM}(hv:View L L')(h:Go P fn body nt F R ks tm L'): Go P fn body nt F R ks tm L:=go_view hv h
/-- a thing is named -/
theorem xE{β : Type}(x : β)(hk:∀e : β = o.hd.xT,OK2 P F Ψ S (o.hd.xk (cast e x)))(h:o.hd = .ex o.hd.xk:=by kernel_rfl)(hT : β = o.hd.xT:=by kernel_rfl)(he:o.el=o.er:=by kernel_rfl): OK2 P F Ψ S o:=
 ⟨hd_ok o he (by rw [h]; exact⟨_,(hk hT).h⟩)⟩
end
end Go.Sx
/- Maps by rows of keys and values, whatever their keys are. -/
set_option linter.unusedSimpArgs false
namespace Go.Sx
section
variable {κ β : Type} [DecidableEq κ]
def kget(l:List (κ×β))(k : κ): Option β := (l.find? (fun x=>x.1==k)).map (·.2)
def kset(l:List (κ×β))(k : κ)(v : β): List (κ×β):=match l.findIdx? (fun x=>x.1==k) with
 | some j=>l.set j (k,v)
 | none=>l++[(k,v)]
def kdel(l:List (κ×β))(k : κ): List (κ×β):=match l.findIdx? (fun x=>x.1==k) with
 | some j=>l.eraseIdx j
 | none=>l
end
def entK{κ β : Type}(ek : κ→Value)(ev : β→Value)(x : κ×β×Nat): MapEntry:={key:=ek x.1,val:=ev x.2.1,born:=x.2.2}
/-- entries are born one after the other, and each key stands once -/
def StampK{κ β : Type}(l':List (κ×β×Nat))(clock:Nat): Prop:=(∀x∈l',x.2.2<clock)∧(l'.map (·.2.2)).Nodup∧(l'.map (·.1)).Nodup
theorem StampK.nil{κ β : Type}(clock:Nat): StampK ([]:List (κ×β×Nat)) clock:=⟨by simp,by simp,by simp⟩
theorem StampK.push{κ β : Type}{l':List (κ×β×Nat)}{clock:Nat}(h:StampK l' clock){k : κ}{x : β}(hk:∀y∈l',y.1≠k): StampK (l'++[(k,x,clock)]) (clock+1):=by
 obtain⟨h1,h2,h3⟩:=h
 refine⟨?_, ?_, ?_⟩
 ·intro y hy
  rcases List.mem_append.1 hy with hy | hy
  ·exact Nat.lt_succ_of_lt (h1 y hy)
  ·rw [List.mem_singleton.1 hy]; exact Nat.lt_succ_self _
 ·rw [List.map_append,List.nodup_append]
  refine⟨h2,by simp, ?_⟩
  intro a ha b hb
  obtain⟨y,hy,rfl⟩:=List.mem_map.1 ha
  simp at hb
  subst hb
  exact Nat.ne_of_lt (h1 y hy)
 ·rw [List.map_append,List.nodup_append]
  refine⟨h3,by simp, ?_⟩
  intro a ha b hb
  obtain⟨y,hy,rfl⟩:=List.mem_map.1 ha
  simp at hb
  subst hb
  exact hk y hy
theorem StampK.set{κ β : Type}{l':List (κ×β×Nat)}{clock:Nat}(h:StampK l' clock){k : κ}{x : β}{j:Nat}(hj:j<l'.length)(hk:l'[j].1=k): StampK (l'.set j (k,x,l'[j].2.2)) clock:=by
 obtain⟨h1,h2,h3⟩:=h
 have e1:(l'.set j (k,x,l'[j].2.2)).map (·.2.2)=l'.map (·.2.2):=by
  apply List.ext_getElem?
  intro n
  rw [List.getElem?_map,List.getElem?_map,List.getElem?_set]
  by_cases hn:j=n
  ·subst hn; simp [hj]
  ·simp [hn]
 have e2:(l'.set j (k,x,l'[j].2.2)).map (·.1)=l'.map (·.1):=by
  apply List.ext_getElem?
  intro n
  rw [List.getElem?_map,List.getElem?_map,List.getElem?_set]
  by_cases hn:j=n
  ·subst hn; simp [hj,hk]
  ·simp [hn]
 refine⟨?_,by rw [e1]; exact h2,by rw [e2]; exact h3⟩
 intro y hy
 have:y.2.2∈l'.map (·.2.2):=by rw [←e1]; exact List.mem_map.2 ⟨y,hy,rfl⟩
 obtain⟨z,hz,e⟩:=List.mem_map.1 this
 rw [←e]
 exact h1 z hz
theorem StampK.erase{κ β : Type}{l':List (κ×β×Nat)}{clock:Nat}(h:StampK l' clock)(j:Nat): StampK (l'.eraseIdx j) clock:=by
 obtain⟨h1,h2,h3⟩:=h
 have hs:(l'.eraseIdx j).Sublist l':=List.eraseIdx_sublist l' j
 exact⟨fun x hx=>h1 x (hs.subset hx),(hs.map _).nodup h2,(hs.map _).nodup h3⟩
/-- a map, by its row of keys and values -/
def KMap{κ β : Type}(r:Nat)(ek : κ→Value)(ev : β→Value)(l:List (κ×β)): Res:=fun f=>
 ∃(l':List (κ×β×Nat)) (clock:Nat),l'.map (fun x=>(x.1,x.2.1))=l∧f=[(r,.map (l'.map (entK ek ev)).toArray clock)]∧StampK l' clock
/-- how keys are told apart -/
structure KeyOk (P:Program) (kt:TypeId) {κ : Type} [DecidableEq κ] (ek : κ→Value):Prop where
 chk:∀b k w,(Instr.checkKey b 10000 kt (ek k)).run P w = .ok () w
 find:∀ {β : Type} (ev : β→Value) (l:List (κ×β×Nat)) (k : κ) (w:World),(Instr.findKey kt (ek k) (l.map (entK ek ev))).run P w = .ok ((l.findIdx? (fun x=>x.1==k)).bind fun j=>(l[j]?).map fun x=>(j,ev x.2.1)) w
 stay:∀k w,(Instr.keyThatStays (ek k) (ek k)).run P w = .ok (ek k) w
theorem keyOk_int{P:Program}{kt:TypeId}{kk:IntKind}(h:P.underlying kt=some (.int kk)): KeyOk P kt (fun k:Int=>.int kk k) where
 chk b k w:=checkKey_int h b k w
 find {β} ev l k w:=by
  have e:l.map (entK (fun k:Int=>.int kk k) ev)=l.map (entM kk ev):=rfl
  rw [e]
  simp only [Instr.findKey,Sem.run_bind,run_underlying h,Result.andThen_ok,findNow_int]
  simp
 stay k w:=by simp [Instr.keyThatStays,Instr.sameBits]
theorem run_findAsking{P:Program}{kt:TypeId}{κ β : Type}[DecidableEq κ]{ek : κ→Value}(heq:∀k k' w,(Op.equal kt (ek k) (ek k')).run P w = .ok (decide (k=k')) w)(ev : β→Value)(k : κ)(w:World):
  ∀(l:List (κ×β×Nat)) (i:Nat),(Instr.findAsking kt (ek k) (l.map (entK ek ev)) i).run P w = .ok ((l.findIdx? (fun x=>x.1==k)).bind fun j=>(l[j]?).map fun x=>(i+j,ev x.2.1)) w
 | [],i=>by simp [Instr.findAsking]
 | x :: l,i=>by
  simp only [List.map_cons,Instr.findAsking,Sem.run_bind,entK,heq,Result.andThen_ok]
  by_cases h:k=x.1
  ·have h2:(x.1==k)=true:=by simp [h]
   simp [h,List.findIdx?_cons]
  ·have h2:(x.1==k)=false:=by simpa using fun e=>h e.symm
   have ih:=run_findAsking heq ev k w l (i+1)
   simp only [h,decide_false,Bool.false_eq_true,if_false,List.findIdx?_cons,h2]
   rw [ih]
   cases hf:l.findIdx? (fun x=>x.1==k) with
   | none=>simp
   | some j=>
    simp only [Option.map_some,Option.bind_some,List.getElem?_cons_succ]
    rw [show i+1+j=i+(j+1) from by omega]
theorem structEq_run{P:Program}{t:TypeId}{x y:Value}{bs:List Bool}(h:structEq P t x y=some bs)(w:World): (Op.equal t x y).run P w = .ok (bs.all id) w:=by
 unfold structEq at h
 split at h
 ·rename_i fs xs ys hu
  cases hc:(P.stoodInHeld t||P.eqGuardType P.depth t) with
  | true=>rw [hc] at h; simp at h
  | false=>
   rw [hc] at h
   simp only [cond_false] at h
   simp only [Bool.or_eq_false_iff] at hc
   have hfs:P.fieldsOf t=fs:=by simp [Program.fieldsOf,hu]
   unfold Op.equal Op.maxDepth
   rw [run_equalIn_struct w 9999 t xs ys (by rw [hfs]; exact hu) hc.1,hfs,run_fieldsEq 9998 fs.toList h]
 ·simp at h
theorem findNow_none{κ β : Type}{fs:Array Field}{ek : κ→Value}{ev : β→Value}{k : κ}{x : κ×β×Nat}{l:List (κ×β×Nat)}{i:Nat}: Instr.findNow (.struct fs) (ek k) (entK ek ev x :: l.map (entK ek ev)) i=none:=by
 simp [Instr.findNow,Instr.sameNow]
/-- keys of two numbers -/
def ekP(k:Int×Int): Value:=.agg #[.int .i64 k.1,.int .i64 k.2]
def key2(P:Program)(kt:TypeId): Bool:=match P.underlying kt with
 | some (.struct ⟨[f,g]⟩)=>(f.offset==0)&&(g.offset==1)&&(f.name != "_")&&(g.name != "_")&&(match P.underlying f.type,P.underlying g.type with
  | some (.int .i64),some (.int .i64)=>true
  | _,_=>false) && !(P.stoodInHeld kt||P.eqGuardType P.depth kt)
 | _=>false
theorem keyOk_two{P:Program}{kt:TypeId}(h:key2 P kt=true): KeyOk P kt ekP:=by
 unfold key2 at h
 split at h
 ·rename_i f g hu
  simp only [Bool.and_eq_true,beq_iff_eq,bne_iff_ne,ne_eq,Bool.not_eq_true'] at h
  obtain⟨⟨⟨⟨⟨hf,hg⟩,hfn⟩,hgn⟩,hi⟩,hs⟩:=h
  have hif:P.underlying f.type=some (.int .i64)∧P.underlying g.type=some (.int .i64):=by
   split at hi
   ·rename_i h1 h2; exact⟨h1,h2⟩
   ·cases hi
  have heq:∀(k k':Int×Int) w,(Op.equal kt (ekP k) (ekP k')).run P w = .ok (decide (k=k')) w:=by
   intro k k' w
   have hse:structEq P kt (ekP k) (ekP k')=some [k.1==k'.1,k.2==k'.2]:=by
    have hfe:fieldsEq P #[.int .i64 k.1,.int .i64 k.2] #[.int .i64 k'.1,.int .i64 k'.2] [f,g]=some [k.1==k'.1,k.2==k'.2]:=by
     have a1:(f.name == "_")=false:=by simpa using hfn
     have a2:(g.name == "_")=false:=by simpa using hgn
     simp [fieldsEq,fieldEq,a1,a2,hif.1,hif.2,hf,hg,kindEq]
    unfold structEq ekP
    simp only [hu,hs,cond_false]
    exact hfe
   rw [structEq_run hse]
   congr 1
   simp only [List.all_cons,List.all_nil,id,Bool.and_true]
   rw [Bool.eq_iff_iff]
   simp [Prod.ext_iff]
  refine⟨?_, ?_, ?_⟩
  ·intro b k w
   have a1:aggT P f.type=some false:=by simp [aggT,hif.1]
   have a2:aggT P g.type=some false:=by simp [aggT,hif.2]
   have c:∀n (t:TypeId) (x:Int),P.underlying t=some (.int .i64)→(Instr.checkKey b (n+1) t (.int .i64 x)).run P w = .ok () w:=by
    intro n t x ht
    simp only [Instr.checkKey,Sem.run_bind,run_underlying ht,Result.andThen_ok]
    rfl
   have p1:(part f.type #[.int .i64 k.1,.int .i64 k.2] f.offset).run P w = .ok (.int .i64 k.1) w:=part_scal a1 (by simp [hf])
   have p2:(part g.type #[.int .i64 k.1,.int .i64 k.2] g.offset).run P w = .ok (.int .i64 k.2) w:=part_scal a2 (by simp [hg])
   show(Instr.checkKey b (9999+1) kt (ekP k)).run P w = _
   unfold Instr.checkKey ekP
   simp [Sem.run_bind,run_underlying hu,Result.andThen_ok,hfn,hgn,p1,p2,c 9998 f.type k.1 hif.1,c 9998 g.type k.2 hif.2]
  ·intro β ev l k w
   cases l with
   | nil=>simp [Instr.findKey,run_underlying hu,Instr.findNow]
   | cons x l=>
    simp only [List.map_cons,Instr.findKey,Sem.run_bind,run_underlying hu,Result.andThen_ok,findNow_none]
    have:=run_findAsking heq ev k w (x :: l) 0
    simp only [List.map_cons,Nat.zero_add] at this
    exact this
  ·intro k w
   simp [Instr.keyThatStays,Instr.sameBits,ekP]
 ·cases h
end Go.Sx
/- Laws of maps: get, set, delete, len. -/
set_option linter.unusedSimpArgs false
namespace Go.Sx
section
variable {P:Program} {F:Fr} {κ β : Type} {ek : κ→Value} {ev : β→Value}
def mapK(P:Program)(t:TypeId): Option (TypeId×Option Value):=
 match P.underlying t with
 | some (.map k e)=>some (k,(P.info? e).bind (·.zero))
 | _=>none
theorem mapK_spec{P:Program}{t kt:TypeId}{z:Option Value}(h:mapK P t=some (kt,z)): ∃e,P.underlying t=some (.map kt e)∧(∀v,z=some v→∀w,(zeroValue e).run P w = .ok v w):=by
 unfold mapK at h
 split at h
 ·rename_i k e hu
  simp only [Option.some.injEq,Prod.mk.injEq] at h
  obtain⟨rfl,rfl⟩:=h
  refine⟨e,hu, ?_⟩
  intro v hv w
  simp only [Option.bind_eq_some_iff] at hv
  obtain⟨i,hi,hz⟩:=hv
  simp [zeroValue,run_typeInfo w hi,hz]
 ·simp at h
theorem find_idx3[DecidableEq κ](l:List (κ×β×Nat))(k : κ): ((l.findIdx? (fun x=>x.1==k)).bind fun j=>(l[j]?))=l.find? (fun x=>x.1==k):=by
 induction l with
 | nil=>rfl
 | cons x l ih=>
  by_cases h:(x.1==k)=true
  ·simp [List.findIdx?_cons,h]
  ·have h':(x.1==k)=false:=by simpa using h
   simp only [List.findIdx?_cons,h',Bool.false_eq_true,if_false,List.find?_cons]
   rw [←ih]
   cases l.findIdx? (fun x=>x.1==k) <;> simp
theorem find_map3[DecidableEq κ](l':List (κ×β×Nat))(k : κ): kget (l'.map fun x=>(x.1,x.2.1)) k=(l'.find? (fun x=>x.1==k)).map (·.2.1):=by
 unfold kget
 rw [List.find?_map,Option.map_map]
 rfl
theorem findIdx_map3[DecidableEq κ](l':List (κ×β×Nat))(k : κ): (l'.map fun x=>(x.1,x.2.1)).findIdx? (fun x=>x.1==k)=l'.findIdx? (fun x=>x.1==k):=by
 rw [List.findIdx?_map]; rfl
def getK(P:Program)(tm:TM)(o:Oper): Option (Value×Value×Bool×TypeId×Option Value):=
 match o.op with
 | .lookup t x k ok=>match mapK P t with
  | some (kt,z)=>some (tm.eval x,tm.eval k,ok,kt,z)
  | none=>none
 | _=>none
theorem K_get[DecidableEq κ]{tm:TM}{L:List Ent}(i:Nat){r:Nat}{l:List (κ×β)}{kt:TypeId}(hk:KeyOk P kt ek)(hL:L[i]? = some (.res (KMap r ek ev l)))(k : κ)(ok:Bool)(z : β):
  ∀o,getK P tm o=some (.map (some r),ek k,ok,kt,some (ev z))→
   Runs P F o (execOp tm.eval o) L (fun v L'=>v=lookV ok (ev ((kget l k).getD z)) (kget l k).isSome∧L'=L):=by
 intro o h
 unfold getK at h
 split at h
 ·rename_i t x kx ok' hop
  split at h
  ·rename_i kt' zz hm
   simp only [Option.some.injEq,Prod.mk.injEq] at h
   obtain⟨hx,hkx,rfl,rfl,rfl⟩:=h
   obtain⟨e,h1,h3⟩:=mapK_spec hm
   intro ac w K Q hin hkk
   obtain⟨f,hf,hfit,g⟩:=hin
   obtain⟨f1,gg,f2,rfl,⟨l',clock,rfl,rfl,_⟩,hset⟩:=dens_get hL hf
   have hb:=hfit.2 (r,.map (l'.map (entK ek ev)).toArray clock) (by simp)
   have hrun:(execOp tm.eval o).run P w = .ok (.value (lookV ok' (ev ((kget (l'.map fun x=>(x.1,x.2.1)) k).getD z)) (kget (l'.map fun x=>(x.1,x.2.1)) k).isSome)) w:=by
    have hget:(getObj r).run P w = .ok (.map (l'.map (entK ek ev)).toArray clock) w:=by
     simp [getObj,Sem.run,hb]
    rw [find_map3,←find_idx3]
    simp only [execOp,hop,hx,hkx,Instr.lookup,Sem.run_bind,run_underlying h1,Result.andThen_ok,hget,Sem.run_pure,hk.chk,hk.find]
    cases hj:(l'.findIdx? (fun x=>x.1==k)).bind fun j=>(l'[j]?) with
    | none=>
     have:((l'.findIdx? (fun x=>x.1==k)).bind fun j=>(l'[j]?).map fun x=>(j,ev x.2.1))=none:=by
      cases hi:l'.findIdx? (fun x=>x.1==k) with
      | none=>rfl
      | some j=>rw [hi] at hj; simp only [Option.bind_some] at hj ⊢; rw [hj]; rfl
     rw [this]
     simp only [h3 _ rfl,Sem.run_bind,Result.andThen_ok,Sem.run_pure]
     cases ok' <;> simp [lookV]
    | some x=>
     have:∃j,((l'.findIdx? (fun x=>x.1==k)).bind fun j=>(l'[j]?).map fun x=>(j,ev x.2.1))=some (j,ev x.2.1):=by
      cases hi:l'.findIdx? (fun x=>x.1==k) with
      | none=>rw [hi] at hj; cases hj
      | some j=>rw [hi] at hj; simp only [Option.bind_some] at hj ⊢; rw [hj]; exact⟨_,rfl⟩
     obtain⟨j,hj'⟩:=this
     rw [hj']
     cases ok' <;> simp [lookV]
   rw [hrun]
   exact hkk _ L w ⟨rfl,rfl⟩ ⟨_,hf,hfit,g⟩
  ·simp at h
 ·simp at h
theorem map_eraseIdx3{α β : Type}(f : α→β): ∀(l:List α) (j:Nat),(l.eraseIdx j).map f=(l.map f).eraseIdx j
 | [],_=>rfl
 | x :: l,0=>rfl
 | x :: l,j+1=>by simp [map_eraseIdx3 f l j]
theorem entK_key(x : κ×β×Nat): (entK ek ev x).key=ek x.1:=rfl
/-- another map stands there -/
theorem kmap_turn{tm:TM}{L:List Ent}{i r:Nat}{l:List (κ×β)}(hL:L[i]? = some (.res (KMap r ek ev l))){o:Oper}{nx:Next}{u:Value}(hnx:nx = .skip∧u=undef∨nx = .value u)
  {l2:List (κ×β)} (h:∀(l':List (κ×β×Nat)) (clock:Nat) (w:World),StampK l' clock→l'.map (fun x=>(x.1,x.2.1))=l→w.heap[r]? = some (.map (l'.map (entK ek ev)).toArray clock)→
   ∃(l3:List (κ×β×Nat)) (clock':Nat),StampK l3 clock'∧l3.map (fun x=>(x.1,x.2.1))=l2∧(execOp tm.eval o).run P w = .ok nx {w with heap:=w.heap.setIfInBounds r (.map (l3.map (entK ek ev)).toArray clock')}) :
  Runs P F o (execOp tm.eval o) L (fun v L'=>v=u∧L'=L.set i (.res (KMap r ek ev l2))):=by
 intro ac w K Q hin hkk
 obtain⟨f,hf,hfit,g1,g2,g3⟩:=hin
 obtain⟨f1,gg,f2,rfl,⟨l',clock,hl,rfl,hst⟩,hset⟩:=dens_get hL hf
 have hb:=hfit.2 (r,.map (l'.map (entK ek ev)).toArray clock) (by simp)
 obtain⟨l3,clock',hst3,hl3,hr⟩:=h l' clock w hst hl hb
 rw [hr]
 have fin:In (L.set i (.res (KMap r ek ev l2))) F {w with heap:=w.heap.setIfInBounds r (.map (l3.map (entK ek ev)).toArray clock')}:=by
  refine⟨_,hset (.res (KMap r ek ev l2)) [(r,.map (l3.map (entK ek ev)).toArray clock')] ⟨l3,clock',hl3,rfl,hst3⟩, ?_,g1,g2,g3⟩
  have hfit':Fits (f1++(r,.map (l'.map (entK ek ev)).toArray clock) :: (f2++F.f)) w:=by simpa using hfit
  have hlt:r<w.heap.size:=(Array.getElem?_eq_some_iff.1 hb).1
  have:=Fits.turn hfit' (o':=.map (l3.map (entK ek ev)).toArray clock') (w':={w with heap:=w.heap.setIfInBounds r (.map (l3.map (entK ek ev)).toArray clock')}) (by simp [hlt]) (fun k hk=>by simp [Array.getElem?_setIfInBounds_ne (Ne.symm hk)])
  simpa using this
 rcases hnx with ⟨rfl,rfl⟩ | rfl
 ·exact hkk undef _ _ ⟨rfl,rfl⟩ fin
 ·exact hkk u _ _ ⟨rfl,rfl⟩ fin
def setK(P:Program)(tm:TM)(o:Oper): Option (Value×Value×Value×TypeId):=
 match o.op with
 | .mapUpdate t x k v=>match mapK P t with
  | some (kt,_)=>some (tm.eval x,tm.eval k,tm.eval v,kt)
  | none=>none
 | _=>none
theorem K_set[DecidableEq κ]{tm:TM}{L:List Ent}(i:Nat){r:Nat}{l:List (κ×β)}{kt:TypeId}(hk:KeyOk P kt ek)(hL:L[i]? = some (.res (KMap r ek ev l)))(k : κ)(x : β):
  ∀o,setK P tm o=some (.map (some r),ek k,ev x,kt)→
   Runs P F o (execOp tm.eval o) L (fun v L'=>v=undef∧L'=L.set i (.res (KMap r ek ev (kset l k x)))):=by
 intro o h
 unfold setK at h
 split at h
 ·rename_i t mx kx vx hop
  split at h
  ·rename_i kt' zz hm
   simp only [Option.some.injEq,Prod.mk.injEq] at h
   obtain⟨hx,hkx,hv,rfl⟩:=h
   obtain⟨e,h1,_⟩:=mapK_spec hm
   refine kmap_turn hL (nx:=.skip) (.inl ⟨rfl,rfl⟩) ?_
   intro l' clock w hst hl hb
   have hget:(getObj r).run P w = .ok (.map (l'.map (entK ek ev)).toArray clock) w:=by
    simp [getObj,Sem.run,hb]
   subst hl
   unfold kset
   rw [findIdx_map3]
   cases hj:l'.findIdx? (fun x=>x.1==k) with
   | none=>
    refine⟨l'++[(k,x,clock)],clock+1,hst.push (fun y hy=>by simpa using List.findIdx?_eq_none_iff.1 hj y hy),by simp, ?_⟩
    simp only [execOp,hop,hx,hkx,hv,Instr.mapUpdate,Sem.run_bind,run_underlying h1,Result.andThen_ok,hget,hk.chk,hk.find,hj]
    simp [setObj,Sem.run,hb,entK]
   | some j=>
    obtain⟨hlt,hjk,_⟩:=List.findIdx?_eq_some_iff_getElem.1 hj
    have hjk' :l'[j].1=k:=by simpa using hjk
    refine⟨l'.set j (k,x,l'[j].2.2),clock,hst.set hlt hjk', ?_, ?_⟩
    ·rw [List.map_set]
    ·simp only [execOp,hop,hx,hkx,hv,Instr.mapUpdate,Sem.run_bind,run_underlying h1,Result.andThen_ok,hget,hk.chk,hk.find,hj]
     have hlj:l'[j]? = some l'[j]:=by simp [hlt]
     have hkey:(Instr.keyThatStays (ek l'[j].1) (ek k)).run P w = .ok (ek k) w:=by
      rw [hjk']; exact hk.stay k w
     have hmod:(Array.modify (l'.map (entK ek ev)).toArray j fun e => {e with key:=ek k,val:=ev x})=((l'.set j (k,x,l'[j].2.2)).map (entK ek ev)).toArray:=by
      apply Array.ext_getElem?
      intro n
      rw [Array.getElem?_modify]
      simp only [List.getElem?_toArray,List.getElem?_map,List.getElem?_set]
      by_cases hn:j=n
      ·subst hn; simp [hlt,entK]
      ·simp [hn]
     simp only [Option.bind_some,hlj,Option.map_some,List.getElem?_toArray,List.getElem?_map,Option.getD_some,entK_key,hkey,Result.andThen_ok,Sem.run_bind]
     rw [hmod]
     simp [setObj,Sem.run,hb]
  ·simp at h
 ·simp at h
def delK(P:Program)(tm:TM)(o:Oper): Option (Value×Value×TypeId):=
 match o.op with
 | .call {callee:=.builtin .delete,args:=⟨[m,k]⟩,argTypes:=⟨[t,_]⟩}=>match mapK P t with
  | some (kt,_)=>some (tm.eval m,tm.eval k,kt)
  | none=>none
 | _=>none
theorem K_del[DecidableEq κ]{tm:TM}{L:List Ent}(i:Nat){r:Nat}{l:List (κ×β)}{kt:TypeId}(hk:KeyOk P kt ek)(hL:L[i]? = some (.res (KMap r ek ev l)))(k : κ):
  ∀o,delK P tm o=some (.map (some r),ek k,kt)→
   Runs P F o (execOp tm.eval o) L (fun v L'=>v = .tuple #[]∧L'=L.set i (.res (KMap r ek ev (kdel l k)))):=by
 intro o h
 unfold delK at h
 split at h
 ·rename_i m kx t t2 hop
  split at h
  ·rename_i kt' zz hm
   simp only [Option.some.injEq,Prod.mk.injEq] at h
   obtain⟨hx,hkx,rfl⟩:=h
   obtain⟨e,h1,_⟩:=mapK_spec hm
   refine kmap_turn hL (nx:=.value (.tuple #[])) (.inr rfl) ?_
   intro l' clock w hst hl hb
   have hget:(getObj r).run P w = .ok (.map (l'.map (entK ek ev)).toArray clock) w:=by
    simp [getObj,Sem.run,hb]
   subst hl
   unfold kdel
   rw [findIdx_map3]
   cases hj:l'.findIdx? (fun x=>x.1==k) with
   | none=>
    refine⟨l',clock,hst,rfl, ?_⟩
    simp only [execOp,hop,resolve,invoke,builtin,List.map_toArray,List.map_cons,List.map_nil,hx,hkx,Builtin.delete_,Sem.run_bind,Sem.run_pure,Result.andThen_ok]
    simp [run_underlying h1,hget,hk.chk,hk.find,hj,setObj,Sem.run,hb]
   | some j=>
    obtain⟨hlt,hjk,_⟩:=List.findIdx?_eq_some_iff_getElem.1 hj
    have hlj:l'[j]? = some l'[j]:=by simp [hlt]
    refine⟨l'.eraseIdx j,clock,hst.erase j,map_eraseIdx3 _ _ _, ?_⟩
    simp only [execOp,hop,resolve,invoke,builtin,List.map_toArray,List.map_cons,List.map_nil,hx,hkx,Builtin.delete_,Sem.run_bind,Sem.run_pure,Result.andThen_ok]
    simp [run_underlying h1,hget,hk.chk,hk.find,hj,hlt,setObj,Sem.run,hb,Array.eraseIdxIfInBounds,map_eraseIdx3]
  ·simp at h
 ·simp at h
def lenK(P:Program)(tm:TM)(o:Oper): Option (Value×Bool):=
 match o.op with
 | .call {callee:=.builtin .len,args:=⟨[m]⟩,argTypes:=⟨[t]⟩}=>some (tm.eval m,(mapK P t).isSome)
 | _=>none
theorem K_len{tm:TM}{L:List Ent}(i:Nat){r:Nat}{l:List (κ×β)}(hL:L[i]? = some (.res (KMap r ek ev l))):
  ∀o,lenK P tm o=some (.map (some r),true)→
   Runs P F o (execOp tm.eval o) L (fun v L'=>v = .int .i64 l.length∧L'=L):=by
 intro o h
 unfold lenK at h
 split at h
 ·rename_i m t hop
  simp only [Option.some.injEq,Prod.mk.injEq,Option.isSome_iff_exists] at h
  obtain⟨hx,⟨⟨kt,z⟩,hm⟩⟩:=h
  obtain⟨e,h1,_⟩:=mapK_spec hm
  intro ac w K Q hin hkk
  obtain⟨f,hf,hfit,g⟩:=hin
  obtain⟨f1,gg,f2,rfl,⟨l',clock,rfl,rfl,_⟩,hset⟩:=dens_get hL hf
  have hb:=hfit.2 (r,.map (l'.map (entK ek ev)).toArray clock) (by simp)
  have hget:(getObj r).run P w = .ok (.map (l'.map (entK ek ev)).toArray clock) w:=by
   simp [getObj,Sem.run,hb]
  have hrun:(execOp tm.eval o).run P w = .ok (.value (.int .i64 (l'.map fun x=>(x.1,x.2.1)).length)) w:=by
   simp only [execOp,hop,resolve,invoke,builtin,List.map_toArray,List.map_cons,List.map_nil,hx,Builtin.len_,Sem.run_bind,Sem.run_pure,Result.andThen_ok]
   simp [run_underlying h1,hget,goInt]
  rw [hrun]
  exact hkk _ L w ⟨rfl,rfl⟩ ⟨_,hf,hfit,g⟩
 ·simp at h
theorem view_kmap{L:List Ent}(i r:Nat)(ek : κ→Value)(ev : β→Value)(hL:L[i]? = some (.raw r (.map #[] 0))): View L (L.set i (.res (KMap r ek ev ([]:List (κ×β))))):=by
 rintro F w ⟨f,hf,hfit,h⟩
 obtain⟨f1,g,f2,rfl,hg,hset⟩:=dens_get hL hf
 obtain rfl:g=[(r,.map #[] 0)]:=hg
 exact⟨_,hset (.res (KMap r ek ev [])) [(r,.map #[] 0)] ⟨[],0,rfl,rfl,.nil 0⟩,hfit,h⟩
/-! views ahead of an operation, and behind it -/
theorem runs_view{o:Oper}{r:Sem Next}{L L0:List Ent}{Φ Φ':Value→List Ent→Prop}(h0:View L L0)(h:Runs P F o r L0 Φ)(h1:∀v L',Φ v L'→∃L'',View L' L'' ∧Φ' v L''): Runs P F o r L Φ':=by
 intro ac w K Q hin hkk
 refine h ac w K Q (h0 F w hin) ?_
 intro v L' w' hΦ hin'
 obtain⟨L'',hv,hΦ'⟩:=h1 v L' hΦ
 exact hkk v L'' w' hΦ' (hv F w' hin')
theorem callsL_view{f:FuncId}{args:List Value}{L L0:List Ent}{Φ Φ':Value→List Ent→Prop}(h0:View L L0)(h:CallsL P F f args L0 Φ)(h1:∀v L',Φ v L'→∃L'',View L' L'' ∧Φ' v L''): CallsL P F f args L Φ':=by
 intro w hin
 refine(h w (h0 F w hin)).mono ?_
 rintro e w' ⟨v,L',rfl,hΦ,hin'⟩
 obtain⟨L'',hv,hΦ'⟩:=h1 v L' hΦ
 exact⟨v,L'',rfl,hΦ',hv F w' hin'⟩
end
end Go.Sx
/- Rows that are only looked at, in a pool; rows that come of an append to none; views at nodes. -/
set_option linter.unusedSimpArgs false
namespace Go.Sx
theorem ntT{b:Bool}(h:(!b)=true): b=false:=by cases b <;> simp_all
theorem ntF{b:Bool}(h:(!b)=false): b=true:=by cases b <;> simp_all
/-! ### views at nodes -/
def Out2.withL(L:List Ent)(G:Gh): Out2→Out2
 | .ret v g _ _=>.ret v g L G
 | .stop ks tm tt _ _=>.stop ks tm tt L G
 | .call f a g _ _ k=>.call f a g L G k
 | .op o tm tt _ _ k=>.op o tm tt L G k
 | o=>o
section
variable {P:Program} {F:Fr} {Ψ : Value→List Ent→Prop} {S:List Kont→TM→List Ent→Prop} {o:Out2}
def VC(Ψ : Value→List Ent→Prop): Prop := ∀v L L2,View L L2→Ψ v L2→Ψ v L
theorem vc_some: VC (Some_ Ψ):=fun v L L2 h ⟨L3,h3,h4⟩=>⟨L3,fun F w hi=>h3 F w (h F w hi),h4⟩
def SC(S:List Kont→TM→List Ent→Prop): Prop := ∀ks tm L L2,View L L2→S ks tm L2→S ks tm L
theorem sc_st{fn:Func}{body:Code}{nt:Nat}{Ψ : Value→List Ent→Prop}: SC (St P fn body nt F Ψ):=fun ks tm L L2 h h2=>go_view h h2
theorem view_node(hΨ : VC Ψ)(hS:SC S){L2:List Ent}{G2:Gh}: ∀(o:Out2),View o.sL L2→(o.withL L2 G2).ok P F Ψ S→o.ok P F Ψ S
 | .bad,_,h=>h
 | .ret v g L G,hv,h=>hΨ _ _ _ hv h
 | .stop ks tm tt L G,hv,h=>hS _ _ _ _ hv h
 | .br b t f,_,h=>h
 | .and a b,_,h=>h
 | .eqn x y o,_,h=>h
 | .obl p o,_,h=>h
 | .new k,_,h=>h
 | .ex k,_,h=>h
 | .call f a g L G k,hv,h=>by
  obtain⟨he,Φ,h1,h2⟩:=h
  exact⟨he,Φ,callsL_view hv h1 fun v L' h=>⟨L',fun _ _ h=>h,h⟩,h2⟩
 | .op o tm tt L G k,hv,h=>by
  obtain⟨Φ,h1,h2⟩:=h
  exact⟨Φ,runs_view hv h1 fun v L' h=>⟨L',fun _ _ h=>h,h⟩,h2⟩
theorem xW(L2:List Ent)(G2:Gh)(hv:View o.hd.sL L2)(hk:OK2 P F (Some_ Ψ) S (o.hd.withL L2 G2))(hS:SC S)(he:o.el=o.er:=by kernel_rfl): OK2 P F (Some_ Ψ) S o:=
 ⟨hd_ok o he (view_node vc_some hS o.hd hv hk.h)⟩
end
/-! ### rows in a pool -/
structure PRow where
 a:Option Addr
 c:Nat
 xs:List Int
 r:Rest
def PRow.nil: PRow:=⟨none,0,[],⟨[],[],(0,0)⟩⟩
def PRow.ent(t:TypeId)(p:PRow): Ent:=.rd p.a p.c (encI .u64) 0 1 p.xs t p.r
def PRow.v(p:PRow): Value:=.slice p.a p.xs.length p.c
def Pool(t:TypeId)(ps:List PRow): Res:=fun f => ∃g,dens (ps.map (PRow.ent t)) g∧g.Perm f
/-- the pool, but for one row -/
def PoolX(t:TypeId)(ps:List PRow)(p:PRow): Res:=fun f => ∀g,(p.ent t).den g→Pool t ps (f++g)
theorem nilrow_den{t:TypeId}{f:Ft}(h:(PRow.nil.ent t).den f): f=[]:=by
 obtain⟨_,⟨_,h,_⟩ | ⟨b,off,h,_⟩⟩:=h
 ·exact h
 ·cases h
theorem nilrow_mk{t:TypeId}: (PRow.nil.ent t).den []:=⟨fun x=>rfl,.inl ⟨rfl,rfl,fun _=>rfl⟩⟩
theorem pool_open{t:TypeId}{ps:List PRow}{p:PRow}(hp:p=PRow.nil∨p∈ps){f:Ft}(h:Pool t ps f): ∃f1 f2,f.Perm (f1++f2)∧PoolX t ps p f1∧(p.ent t).den f2:=by
 rcases hp with rfl | hp
 ·refine⟨f,[],by simp, ?_,nilrow_mk⟩
  intro g hg
  rw [nilrow_den hg]
  simpa using h
 ·obtain⟨g,hd,hperm⟩:=h
  obtain⟨i,hi,rfl⟩:=List.getElem_of_mem hp
  have hL:(ps.map (PRow.ent t))[i]? = some ((ps[i]).ent t):=by simp [hi]
  obtain⟨f1,g1,f2,rfl,h1,hset⟩:=dens_get hL hd
  refine⟨f1++f2,g1, ?_, ?_,h1⟩
  ·refine hperm.symm.trans ?_
   rw [List.append_assoc,List.append_assoc]
   exact List.Perm.append_left _ List.perm_append_comm
  ·intro g2 hg2
   refine⟨f1++g2++f2, ?_, ?_⟩
   ·have:=hset _ _ hg2
    have e:(ps.map (PRow.ent t)).set i ((ps[i]).ent t)=ps.map (PRow.ent t):=by
     apply List.ext_getElem?
     intro k
     rw [List.getElem?_set]
     split
     ·rename_i h; subst h; rw [hL]; simp [hi]
     ·rfl
    rwa [e] at this
   ·rw [List.append_assoc,List.append_assoc]
    exact List.Perm.append_left _ List.perm_append_comm
theorem view_part{L A B:List Ent}(idx:List Nat)(hi:places L.length idx=true)(hp:pick L idx=A)(hv:View A B): View L (dropAt L idx++B):=by
 intro F w h
 obtain⟨F',h1,h2⟩:=h.take idx hi
 rw [hp] at h1
 exact h2 B w (hv F' w h1)
theorem pv_open{t:TypeId}{ps:List PRow}{p:PRow}(hp:p=PRow.nil∨p∈ps): View [.res (Pool t ps)] [.res (PoolX t ps p),p.ent t]:=by
 rintro F w ⟨f,⟨f0,f9,rfl,h0,h9⟩,hfit,hr⟩
 obtain rfl:f9=[]:=h9
 obtain⟨f1,f2,hperm,h1,h2⟩:=pool_open hp h0
 refine⟨f1++(f2++[]),⟨f1,_,rfl,h1,f2,[],rfl,h2,rfl⟩, ?_,hr⟩
 refine hfit.perm (List.Perm.append_right _ ?_)
 simpa using hperm
theorem pv_close{t:TypeId}{ps:List PRow}{p:PRow}: View [.res (PoolX t ps p),p.ent t] [.res (Pool t ps)]:=by
 rintro F w ⟨f,⟨f1,f2,rfl,h1,g1,g2,rfl,h2,h3⟩,hfit,hr⟩
 obtain rfl:g2=[]:=h3
 exact⟨f1++g1++[],⟨f1++g1,[],rfl,h1 g1 h2,rfl⟩,by simpa using hfit,hr⟩
theorem pv_add{t:TypeId}{ps:List PRow}{p:PRow}: View [.res (Pool t ps),p.ent t] [.res (Pool t (ps++[p]))]:=by
 rintro F w ⟨f,⟨f1,f2,rfl,⟨g,hd,hperm⟩,g1,g2,rfl,h2,h3⟩,hfit,hr⟩
 obtain rfl:g2=[]:=h3
 refine⟨f1++g1++[],⟨f1++g1,[],rfl,⟨g++g1, ?_,hperm.append_right _⟩,rfl⟩,by simpa using hfit,hr⟩
 rw [List.map_append]
 exact dens_append.2 ⟨g,g1,rfl,hd,g1,[],by simp,h2,rfl⟩
theorem pv_zero{t:TypeId}: View [] [.res (Pool t [])]:=by
 rintro F w ⟨f,h,hfit,hr⟩
 obtain rfl:f=[]:=h
 exact⟨[]++[],⟨[],[],rfl,⟨[],rfl,.refl _⟩,rfl⟩,by simpa using hfit,hr⟩
/-! ### an append to a row without room -/
section
variable {P:Program} {F:Fr}
theorem R_fresh{α : Type}{tm:TM}{L:List Ent}(a:Option Addr){enc : α→List Value}(d : α){sz:Nat}(ys:List α){te:TypeId}(hsd:Sized enc sz)
  (xv:Value) (hsrc:Src L F xv (cellsOf enc ys) ys.length) (h1:∀y,∀u∈enc y,u.oneCell'=true) (by':Nat) (hlen:ys.length≤9223372036854775807) (hby:ys.length*by'≤140737488355328) :
  ∀o,appO P tm o=some (.slice a 0 0,xv,(te,sz,by'))→
   Runs P F o (execOp tm.eval o) L (fun v L' => ∃a' c' r,v = .slice a' ys.length c' ∧L'=L++[.rd a' c' enc d sz ys te r]):=by
 intro o h
 unfold appO at h
 split at h
 ·rename_i s x t t' hop
  cases hb:Nat.beq t t' with
  | false=>rw [hb] at h; simp at h
  | true=>
   rw [hb] at h
   rw [Nat.beq_eq] at hb
   subst hb
   simp only [cond_true] at h
   split at h
   ·rename_i r hr
    simp only [Option.some.injEq,Prod.mk.injEq] at h
    obtain⟨hs,hx,rfl⟩:=h
    intro ac w K Q hin hk
    obtain⟨hu,i,z,hi,hz,hsize,hbytes,hzs,hpos⟩:=rowT_spec hr
    have hrun0:execOp tm.eval o=(do pure (.value (←Builtin.append_ #[t,t] o.type #[.slice a 0 0,xv])):Sem Next):=by
     simp only [execOp,hop,resolve,invoke,builtin,List.map_toArray,List.map_cons,List.map_nil,hs,hx]
     rfl
    have hsrc':=hsrc w hin
    have hin0:=hin
    obtain⟨f,hf,hfit,g1,g2,g3⟩:=hin
    have hcl:(cellsOf enc ys).length=ys.length*i.size:=by rw [cellsOf_length hsd,hsize]
    have none_:∀a0,(Builtin.append_ #[t,t] o.type #[.slice a 0 0,xv]).run P w = .ok (.slice a0 0 0) w→ys=[]→(o.upon P ac K Q ((execOp tm.eval o).run P w)):=by
     intro a0 hr0 hy
     subst hy
     rw [hrun0]
     simp only [Sem.run_bind,hr0,Result.andThen_ok,Sem.run_pure,Oper.upon_value]
     refine hk _ _ w ⟨a0,0,⟨[],[],(0,0)⟩,rfl,rfl⟩ ⟨f++[],dens_append.2 ⟨f,[],rfl,hf,[],[],rfl,⟨hsd,.inl ⟨rfl,rfl,fun _=>rfl⟩⟩,rfl⟩,by simpa using hfit,g1,g2,g3⟩
    have grown:∀(cap:Nat) (rest:List Value) (ob:Obj),ys.length≤cap→ob = .cells (cellsOf enc ys++rest).toArray te (0,0)→
      In (L++[.rd (some ⟨w.heap.size,0,none⟩) cap enc d sz ys te ⟨[],rest,(0,0)⟩]) F (w.drew.alloc ob):=by
     intro cap rest ob hc hob
     refine⟨f++([(w.heap.size,ob)]++[]),dens_append.2 ⟨f,_,rfl,hf,_,[],rfl,⟨hsd,.inr ⟨w.heap.size,0,rfl,rfl,hc,by simp [hob]⟩⟩,rfl⟩, ?_,g1,g2,g3⟩
     have h0:Fits (f++[]++F.f) w:=by simpa using hfit
     have h2:Fits (f++[(w.heap.size,ob)]++F.f) (w.drew.alloc ob):=h0.anew ob
     simpa using h2
    have fin:∀(cap:Nat),ys.length≤cap→(Builtin.append_ #[t,t] o.type #[.slice a 0 0,xv]).run P w = .ok (.slice (some ⟨w.heap.size,0,none⟩) ys.length cap) (w.drew.alloc (.cells (cellsOf enc ys++(Builtin.zeroCells z.cells (cap-ys.length)).toList).toArray te))→(o.upon P ac K Q ((execOp tm.eval o).run P w)):=by
     intro cap hc hr0
     rw [hrun0]
     simp only [Sem.run_bind,hr0,Result.andThen_ok,Sem.run_pure,Oper.upon_value]
     exact hk _ _ _ ⟨_,cap,⟨[],(Builtin.zeroCells z.cells (cap-ys.length)).toList,(0,0)⟩,rfl,rfl⟩ (grown cap _ _ hc rfl)
    have ate:∀(l:List Value) (A:Array Value),l.toArray++A=(l++A.toList).toArray:=fun l A=>by apply Array.ext'; simp
    have hone:∀u∈cellsOf enc ys,u.oneCell'=true:=by
     intro u hu
     obtain⟨y,_,hy⟩:=List.mem_flatMap.1 hu
     exact h1 y u hy
    rcases hsrc' with ⟨rfl,hcs,hn⟩ | ⟨ad,c',rfl,hcells⟩
    ·have hy:ys=[]:=List.eq_nil_of_length_eq_zero hn
     refine none_ a ?_ hy
     cases a <;> simp [Builtin.append_,run_underlying hu,sizeOf,typeInfo,hi,Builtin.lenOf,Builtin.firstCells,storeCells]
    ·by_cases h0:ys.length=0
     ·have hy:ys=[]:=List.eq_nil_of_length_eq_zero h0
      refine none_ a ?_ hy
      subst hy
      cases a <;> simp [Builtin.append_,run_underlying hu,sizeOf,typeInfo,hi,Builtin.lenOf,Builtin.firstCells,storeCells,loadCells,loadCellsFrom]
     ·cases a with
      | none=>
       have hr:=run_append_nil (P:=P) w t o.type te i z hu hi hz ad ys.length c' (cellsOf enc ys) hcl hcells (by omega) (by omega) (by rw [hbytes]; omega)
       refine fin (grownCap w ys.length 0 te) (grownCap_ge w ys.length 0 te) ?_
       rw [hr,ate]
      | some ad0=>
       have hr:=run_append_grow (P:=P) w t o.type te i z hu hi hz ad0 0 0 [] (by simp) (by simp) ad ys.length c' (cellsOf enc ys) hcl hcells (by omega) (by omega)
        (growslice_fits (by omega) (by rw [hbytes]; simpa using hby))
       refine fin (grownCap w ys.length 0 te) (grownCap_ge w ys.length 0 te) ?_
       simp only [Nat.zero_add,List.nil_append] at hr
       rw [hr]
       simp only [List.nil_append,List.append_toArray,Array.toList_append,Array.toArray_toList,List.size_toArray,Array.size_append]
       simp [ate]
   ·simp at h
 ·simp at h
end
end Go.Sx
/- Contracts: a fact that is one value; what is wanted ahead may be more. -/
namespace Go.Sx
section
variable {P:Program} {f:FuncId}
/-- what is told is just this -/
theorem ct_val{ι : Type}{args:List SA}{pre:List SE}{n:Nat}{v : ι}{ret : ι→List SA}{post : ι→List SE}(h:Ct P f (⟨args,pre,n,fun x=>x=v,ret,post⟩:Sp ι)): Ct P f (⟨args,pre,n,fun _=>True,fun _=>ret v,fun _=>post v⟩:Sp Unit):=by
 intro g F w hi
 refine(h g F w hi).mono ?_
 rintro e w' ⟨u,L,rfl,⟨x,ν,hx,h1,h2⟩,hin⟩
 have hx':x=v:=hx
 subst hx'
 exact⟨u,L,rfl,⟨(),ν,trivial,h1,h2⟩,hin⟩
/-- the same, of another form -/
theorem ct_as{ι : Type}{s s':Sp ι}(h:Ct P f s)(e:s=s'): Ct P f s':=e▸h
end
end Go.Sx
/- Nodes by the laws of maps; contracts that begin with a view. -/
set_option linter.unusedSimpArgs false
namespace Go.Sx
section
variable {P:Program} {F:Fr} {Ψ : Value→List Ent→Prop} {S:List Kont→TM→List Ent→Prop} {o:Out2}
/-- a contract by a walk that begins with a view -/
theorem cXv{ι : Type}{s:Sp ι}{fn:Func}{f:FuncId}{X:Cx}(nt:Nat)(hX:Inl P X)(hf:P.funcs[f]? = some fn)(L0:(Nat→Rf)→List Ent)(G0:Gh)(hv:∀g,View (s.pre.map (SE.e g)) (L0 g))
  (h:∀g F,OK2 P F (Some_ (s.Q g)) (St P fn (fn.body.getD .skip) nt F (Some_ (s.Q g)))
   (exec2 P X 4000 ⟨true,f,fn.body.getD .skip,nt,fn.results.toList⟩ [.c []] (argTM 0 (s.args.map (SA.v g))) (argTT 0 (s.args.map (SA.t id))) (L0 g) G0 .ret))
  (hb:fn.body=some (fn.body.getD .skip):=by kernel_rfl) (hnt:s.args.length+(fn.ntmps-s.args.length)=nt:=by kernel_rfl):Ct P f s:=by
 intro g F w hi
 have hg:=xG hX _ _ hf (h g F) hb
 have hnt':(s.args.map (SA.v g)).length+(fn.ntmps-(s.args.map (SA.v g)).length)=nt:=by simpa using hnt
 subst hnt'
 exact(calls_of_go hf hb hg w (hv g F w hi)).mono fun e w' h=>retr_some h
/-- the same, of one choice of places -/
theorem cXg{ι : Type}{s:Sp ι}{fn:Func}{f:FuncId}{X:Cx}{g:Nat→Rf}(nt:Nat)(hX:Inl P X)(hf:P.funcs[f]? = some fn)
  (h:∀F,OK2 P F (Some_ (s.Q g)) (St P fn (fn.body.getD .skip) nt F (Some_ (s.Q g)))
   (exec2 P X 4000 ⟨true,f,fn.body.getD .skip,nt,fn.results.toList⟩ [.c []] (argTM 0 (s.args.map (SA.v g))) (argTT 0 (s.args.map (SA.t id))) (s.pre.map (SE.e g)) ⟨s.pre.map (SE.gh id),s.n⟩ .ret))
  (hb:fn.body=some (fn.body.getD .skip):=by kernel_rfl) (hnt:s.args.length+(fn.ntmps-s.args.length)=nt:=by kernel_rfl):Ctr P f (s.args.map (SA.v g)).toArray (s.pre.map (SE.e g)) (s.Q g):=by
 intro F w hi
 have hg:=xG hX _ _ hf (h F) hb
 have hnt':(s.args.map (SA.v g)).length+(fn.ntmps-(s.args.map (SA.v g)).length)=nt:=by simpa using hnt
 subst hnt'
 exact(calls_of_go hf hb hg w hi).mono fun e w' h=>retr_some h
def rfC(b:Nat)(a:Option Addr)(c:Nat)(h:Nat→Rf): Nat→Rf
 | 0=>⟨b,a,c⟩
 | n+1=>h n
theorem rf_eta(g:Nat→Rf): ∃b a c h,g=rfC b a c h:=⟨(g 0).b,(g 0).a,(g 0).c,fun n=>g (n+1),by funext n; cases n <;> rfl⟩
/-- a view ahead of the end -/
theorem xWr(g2:Tg)(L2:List Ent)(G2:Gh)(hv:View o.hd.sL L2)(hk:OK2 P F (Some_ Ψ) S (.ret o.hd.rv g2 L2 G2))(h:o.hd.tag=1:=by kernel_rfl)(he:o.el=o.er:=by kernel_rfl): OK2 P F (Some_ Ψ) S o:=
 ⟨hd_ok o he (by rw [Out2.of1 _ h]; exact vc_some _ _ _ hv hk.h)⟩
theorem view_nilrd{α : Type}{L:List Ent}(enc : α→List Value)(d : α)(sz:Nat)(t:TypeId)(r:Rest)(hs:Sized enc sz): View L (L++[.rd none 0 enc d sz [] t r]):=by
 rintro F w ⟨f,hf,hfit,h⟩
 exact⟨f++[],dens_append.2 ⟨f,[],rfl,hf,[],[],rfl,⟨hs,.inl ⟨rfl,rfl,fun _=>rfl⟩⟩,rfl⟩,by simpa using hfit,h⟩
section
variable {κ β : Type} {ek : κ→Value}
theorem xMg[DecidableEq κ](i r:Nat)(l:List (κ×β))(ev : β→Value){kt:TypeId}(hk:KeyOk P kt ek)(k : κ)(z : β)(ok:Bool)
  (hn:OK2 P F Ψ S (o.hd.k (lookV ok (ev ((kget l k).getD z)) (kget l k).isSome) .n o.hd.sL o.hd.sG))
  (h:(o.hd.tag,getK P o.hd.st o.hd.oo,o.hd.sL[i]?)=(10,some (.map (some r),ek k,ok,kt,some (ev z)),some (.res (KMap r ek ev l))):=by kernel_rfl) (he:o.el=o.er:=by kernel_rfl):OK2 P F Ψ S o:=by
 simp only [Prod.mk.injEq] at h
 refine⟨hd_ok o he ?_⟩
 rw [Out2.of10 _ h.1]
 refine⟨_,K_get i hk h.2.2 k ok z _ h.2.1, ?_⟩
 rintro v L' ⟨rfl,rfl⟩
 exact⟨_,_,hn.h⟩
/-- what was looked up names a row of the pool, which is taken out -/
theorem xMp[DecidableEq κ](i j r:Nat)(l:List (κ×β))(ev : β→Value)(te:TypeId){kt:TypeId}(hk:KeyOk P kt ek)(k : κ)(z : β)(ok:Bool)(row : β→PRow)(ps:List PRow)(gt:Nat→Tg)(hp:row ((kget l k).getD z)=PRow.nil∨row ((kget l k).getD z)∈ps)
  (hn:OK2 P F Ψ S (o.hd.k (lookV ok (ev ((kget l k).getD z)) (kget l k).isSome) (gt o.hd.sG.nx) (dropAt o.hd.sL [j]++[.res (PoolX te ps (row ((kget l k).getD z))),(row ((kget l k).getD z)).ent te])
   ⟨(o.hd.sG.drop [j]).es++[((o.hd.sG.es.getD j (0,[])).1,[]),(o.hd.sG.nx,[])],Nat.succ o.hd.sG.nx⟩))
  (h:(o.hd.tag,getK P o.hd.st o.hd.oo,o.hd.sL[i]?,places o.hd.sL.length [j],pick o.hd.sL [j])=(10,some (.map (some r),ek k,ok,kt,some (ev z)),some (.res (KMap r ek ev l)),true,[.res (Pool te ps)]):=by kernel_rfl) (he:o.el=o.er:=by kernel_rfl):OK2 P F Ψ S o:=by
 simp only [Prod.mk.injEq] at h
 refine⟨hd_ok o he ?_⟩
 rw [Out2.of10 _ h.1]
 refine⟨fun v L'=>v=lookV ok (ev ((kget l k).getD z)) (kget l k).isSome∧L'=dropAt o.hd.sL [j]++[.res (PoolX te ps (row ((kget l k).getD z))),(row ((kget l k).getD z)).ent te], ?_, ?_⟩
 ·refine runs_view (fun _ _ h=>h) (K_get i hk h.2.2.1 k ok z _ h.2.1) ?_
  rintro v L' ⟨rfl,rfl⟩
  exact⟨_,view_part [j] h.2.2.2.1 h.2.2.2.2 (pv_open hp),rfl,rfl⟩
 ·rintro v L' ⟨rfl,rfl⟩
  exact⟨_,_,hn.h⟩
theorem xMs[DecidableEq κ](i r:Nat)(l:List (κ×β))(ev : β→Value){kt:TypeId}(hk:KeyOk P kt ek)(k : κ)(x : β)
  (hn:OK2 P F Ψ S (o.hd.k undef .n (o.hd.sL.set i (.res (KMap r ek ev (kset l k x)))) o.hd.sG))
  (h:(o.hd.tag,setK P o.hd.st o.hd.oo,o.hd.sL[i]?)=(10,some (.map (some r),ek k,ev x,kt),some (.res (KMap r ek ev l))):=by kernel_rfl) (he:o.el=o.er:=by kernel_rfl):OK2 P F Ψ S o:=by
 simp only [Prod.mk.injEq] at h
 refine⟨hd_ok o he ?_⟩
 rw [Out2.of10 _ h.1]
 refine⟨_,K_set i hk h.2.2 k x _ h.2.1, ?_⟩
 rintro v L' ⟨rfl,rfl⟩
 exact⟨_,_,hn.h⟩
theorem xMd[DecidableEq κ](i r:Nat)(l:List (κ×β))(ev : β→Value){kt:TypeId}(hk:KeyOk P kt ek)(k : κ)
  (hn:OK2 P F Ψ S (o.hd.k (.tuple #[]) .n (o.hd.sL.set i (.res (KMap r ek ev (kdel l k)))) o.hd.sG))
  (h:(o.hd.tag,delK P o.hd.st o.hd.oo,o.hd.sL[i]?)=(10,some (.map (some r),ek k,kt),some (.res (KMap r ek ev l))):=by kernel_rfl) (he:o.el=o.er:=by kernel_rfl):OK2 P F Ψ S o:=by
 simp only [Prod.mk.injEq] at h
 refine⟨hd_ok o he ?_⟩
 rw [Out2.of10 _ h.1]
 refine⟨_,K_del i hk h.2.2 k _ h.2.1, ?_⟩
 rintro v L' ⟨rfl,rfl⟩
 exact⟨_,_,hn.h⟩
theorem xMl(i r:Nat)(l:List (κ×β))(ek : κ→Value)(ev : β→Value)
  (hn:OK2 P F Ψ S (o.hd.k (.int .i64 l.length) .n o.hd.sL o.hd.sG))
  (h:(o.hd.tag,lenK P o.hd.st o.hd.oo,o.hd.sL[i]?)=(10,some (.map (some r),true),some (.res (KMap r ek ev l))):=by kernel_rfl) (he:o.el=o.er:=by kernel_rfl):OK2 P F Ψ S o:=by
 simp only [Prod.mk.injEq] at h
 refine⟨hd_ok o he ?_⟩
 rw [Out2.of10 _ h.1]
 refine⟨_,K_len i h.2.2 _ h.2.1, ?_⟩
 rintro v L' ⟨rfl,rfl⟩
 exact⟨_,_,hn.h⟩
end
/-- an append to a row without room, of a row that is there -/
theorem xAf{α : Type}(te:TypeId)(a:Option Addr){enc : α→List Value}(d : α){sz:Nat}(ys:List α)(hsd:Sized enc sz)(h1:∀y,∀u∈enc y,u.oneCell'=true)(by':Nat)(xv:Value)(hlen:ys.length*by'≤140737488355328∧ys.length≤9223372036854775807)
  (hs:∀F,Src o.hd.sL F xv (cellsOf enc ys) ys.length)
  (hn:∀a' c' r,OK2 P F Ψ S (o.hd.k (.slice a' ys.length c') (.i o.hd.sG.nx) (o.hd.sL++[.rd a' c' enc d sz ys te r]) (o.hd.sG.add [])))
  (h:(o.hd.tag,appO P o.hd.st o.hd.oo)=(10,some (.slice a 0 0,xv,(te,sz,by'))):=by kernel_rfl) (he:o.el=o.er:=by kernel_rfl):OK2 P F Ψ S o:=by
 simp only [Prod.mk.injEq] at h
 refine⟨hd_ok o he ?_⟩
 rw [Out2.of10 _ h.1]
 refine⟨_,R_fresh a d ys hsd xv (hs F) h1 by' hlen.2 hlen.1 _ h.2, ?_⟩
 rintro v L' ⟨a' ,c',r,rfl,rfl⟩
 exact⟨_,_,(hn a' c' r).h⟩
end
end Go.Sx
/- Loops. -/
set_option linter.unusedSimpArgs false
namespace Go.Sx
section
variable {P:Program} {F:Fr} {Ψ : Value→List Ent→Prop} {o:Out2}
/-- what a round is to come to -/
def RoundEnd(P:Program)(fn:Func)(body:Code)(nt:Nat)(F:Fr)(Ψ : Value→List Ent→Prop){ι : Type}(T : ι→TM)(LL : ι→List Ent)(I : ι→Prop)(μ : ι→Nat)(keep idx:List Nat)(ks:List Kont)(J:Act→World→Prop)(i : ι): Prop:=
 ∀i',μ i' < μ i→I i'→∀tm L,(tm.restrict keep,pick L idx,places L.length idx)=(T i',LL i',true)→Go P fn body nt F (RetR F Ψ) (.j J :: ks) tm L
theorem xLoop{ι : Type}{fn:Func}{body:Code}{nt:Nat}{f:FuncId}{X:Cx}(hX:Inl P X)(hf:P.funcs[f]? = some fn)(p:List Nat)(ks:List Kont)(keep idx:List Nat)(T : ι→TM)(tt : ι→TT)(LL : ι→List Ent)(GG : ι→Gh)(I : ι→Prop)(μ : ι→Nat)(i0 : ι)(h0:I i0)
  (hr:∀i J,I i→RoundEnd P fn body nt F Ψ T LL I μ keep idx ks J i→OK2 P F Ψ (St P fn body nt F Ψ) (exec2 P X 4000 ⟨true,f,body,nt,fn.results.toList⟩ (.c (0 :: p) :: .j J :: ks) (T i) (tt i) (LL i) (GG i) .ret))
  (h:(o.hd.tag,o.hd.sk,isLoop body p,o.hd.st.restrict keep,pick o.hd.sL idx,places o.hd.sL.length idx)=(2,.c p :: ks,true,T i0,LL i0,true):=by kernel_rfl) (he:o.el=o.er:=by kernel_rfl) (hb:fn.body=some body:=by kernel_rfl) :
  OK2 P F Ψ (St P fn body nt F Ψ) o:=by
 simp only [Prod.mk.injEq] at h
 refine⟨hd_ok o he ?_⟩
 rw [Out2.of2 _ h.1,h.2.1]
 refine go_loop T LL I μ i0 keep idx h.2.2.1 h.2.2.2.1 h.2.2.2.2.1 h.2.2.2.2.2 h0 ?_
 intro i J hI hJ
 refine xG hX _ _ hf (hr i J hI ?_) hb
 intro i' hμ hI' tm L he a w ht hi
 simp only [Prod.mk.injEq] at he
 exact hJ i' a w hμ hI' (he.1▸ht.restrict keep) (he.2.1▸hi.pick idx he.2.2)
theorem xJ{ι : Type}{fn:Func}{body:Code}{nt:Nat}{T : ι→TM}{LL : ι→List Ent}{I : ι→Prop}{μ : ι→Nat}{keep idx:List Nat}{ks:List Kont}{J:Act→World→Prop}{i : ι}(hJ:RoundEnd P fn body nt F Ψ T LL I μ keep idx ks J i)(i' : ι)(hμ : μ i' < μ i)(hI:I i')
  (h:(o.hd.tag,o.hd.sk,o.hd.st.restrict keep,pick o.hd.sL idx,places o.hd.sL.length idx)=(2,.j J :: ks,T i',LL i',true):=by kernel_rfl) (he:o.el=o.er:=by kernel_rfl):OK2 P F Ψ (St P fn body nt F Ψ) o:=by
 simp only [Prod.mk.injEq] at h
 refine⟨hd_ok o he ?_⟩
 rw [Out2.of2 _ h.1,h.2.1]
 exact hJ i' hμ hI _ _ (by rw [h.2.2.1,h.2.2.2.1,h.2.2.2.2])
end
end Go.Sx
/- A map of handles and the rows it names, as one thing; ends. -/
set_option linter.unusedSimpArgs false
namespace Go.Sx
/-- a map of rows by two numbers, and the rows -/
def HP(te:TypeId)(mh:Nat)(H:List ((Int×Int)×PRow))(ps:List PRow): Res:=dens [.res (KMap mh ekP PRow.v H),.res (Pool te ps)]
theorem hp_open{te:TypeId}{mh:Nat}{H:List ((Int×Int)×PRow)}{ps:List PRow}: View [.res (HP te mh H ps)] [.res (KMap mh ekP PRow.v H),.res (Pool te ps)]:=by
 rintro F w ⟨f,⟨f1,f2,rfl,h1,h2⟩,hfit,hr⟩
 obtain rfl:f2=[]:=h2
 exact⟨f1,h1,by simpa using hfit,hr⟩
theorem pv_fold{te:TypeId}{mh:Nat}{H:List ((Int×Int)×PRow)}{ps:List PRow}: View [.res (KMap mh ekP PRow.v H),.res (Pool te ps)] [.res (HP te mh H ps)]:=by
 rintro F w ⟨f,h,hfit,hr⟩
 exact⟨f++[],⟨f,[],rfl,h,rfl⟩,by simpa using hfit,hr⟩
theorem pv_end{te:TypeId}{mh:Nat}{H:List ((Int×Int)×PRow)}{ps:List PRow}{p:PRow}(qs:List PRow):
  View (.res (KMap mh ekP PRow.v H) :: .res (PoolX te ps p) :: p.ent te :: qs.map (PRow.ent te)) [.res (HP te mh H (ps++qs))]:=by
 rintro F w ⟨f,⟨f1,f2,rfl,h1,f3,f4,rfl,h3,f5,f6,rfl,h5,h6⟩,hfit,hr⟩
 obtain⟨g,hd,hperm⟩:=h3 f5 h5
 refine⟨(f1++((f3++f5++f6)++[]))++[],⟨_,[],rfl,⟨f1,_,rfl,h1,f3++f5++f6,[],rfl,⟨g++f6, ?_,hperm.append_right _⟩,rfl⟩,rfl⟩,by simpa using hfit,hr⟩
 rw [List.map_append]
 exact dens_append.2 ⟨g,f6,rfl,hd,h6⟩
theorem hp_add{te:TypeId}{mh:Nat}{H:List ((Int×Int)×PRow)}{ps:List PRow}(qs:List PRow): View (.res (HP te mh H ps) :: qs.map (PRow.ent te)) [.res (HP te mh H (ps++qs))]:=by
 rintro F w ⟨f,⟨f0,f6,rfl,⟨f1,f2,rfl,h1,f3,f4,rfl,⟨g,hd,hperm⟩,h4⟩,h6⟩,hfit,hr⟩
 obtain rfl:f4=[]:=h4
 refine⟨(f1++((f3++f6)++[]))++[],⟨_,[],rfl,⟨f1,_,rfl,h1,f3++f6,[],rfl,⟨g++f6, ?_,hperm.append_right _⟩,rfl⟩,rfl⟩,by simpa using hfit,hr⟩
 rw [List.map_append]
 exact dens_append.2 ⟨g,f6,rfl,hd,h6⟩
theorem pv_end0{te:TypeId}{mh:Nat}{H:List ((Int×Int)×PRow)}{ps:List PRow}{p:PRow}: View [.res (KMap mh ekP PRow.v H),.res (PoolX te ps p),p.ent te] [.res (HP te mh H ps)]:=by
 intro F w h
 have:=pv_end (te:=te) (mh:=mh) (H:=H) (ps:=ps) (p:=p) [] F w h
 rwa [List.append_nil] at this
/-- the view that a walk begins with, where one entry is opened -/
theorem hp_at{L:List Ent}{te:TypeId}{mh:Nat}{H:List ((Int×Int)×PRow)}{ps:List PRow}(i:Nat)(h:(places L.length [i],pick L [i])=(true,[.res (HP te mh H ps)]):=by kernel_rfl): View L (dropAt L [i]++[.res (KMap mh ekP PRow.v H),.res (Pool te ps)]):=by
 simp only [Prod.mk.injEq] at h
 exact view_part [i] h.1 h.2 hp_open
section
variable {P:Program} {F:Fr} {Ψ : Value→List Ent→Prop} {S:List Kont→TM→List Ent→Prop} {o:Out2}
theorem xEnd(idx:List Nat)(A:List Ent)(id:Nat)(R:Res)(hv:View A [.res R])(hk:OK2 P F (Some_ Ψ) S (.ret o.hd.rv o.hd.rg (dropAt o.hd.sL idx++[.res R]) ⟨(o.hd.sG.drop idx).es++[(id,[])],o.hd.sG.nx⟩))
  (h:(o.hd.tag,places o.hd.sL.length idx,pick o.hd.sL idx)=(1,true,A):=by kernel_rfl) (he:o.el=o.er:=by kernel_rfl):OK2 P F (Some_ Ψ) S o:=by
 simp only [Prod.mk.injEq] at h
 exact⟨hd_ok o he (by rw [Out2.of1 _ h.1]; exact vc_some _ _ _ (view_part idx h.2.1 h.2.2 hv) hk.h)⟩
theorem xEndL(idx:List Nat)(A B:List Ent)(ids:List Nat)(hv:View A B)(hk:OK2 P F (Some_ Ψ) S (.ret o.hd.rv o.hd.rg (dropAt o.hd.sL idx++B) ⟨(o.hd.sG.drop idx).es++ids.map fun i=>(i,[]),o.hd.sG.nx⟩))
  (h:(o.hd.tag,places o.hd.sL.length idx,pick o.hd.sL idx)=(1,true,A):=by kernel_rfl) (he:o.el=o.er:=by kernel_rfl):OK2 P F (Some_ Ψ) S o:=by
 simp only [Prod.mk.injEq] at h
 exact⟨hd_ok o he (by rw [Out2.of1 _ h.1]; exact vc_some _ _ _ (view_part idx h.2.1 h.2.2 hv) hk.h)⟩
theorem pv_new{κ β : Type}[DecidableEq κ]{ek : κ→Value}{ev : β→Value}{te:TypeId}{a b:Nat}: View [.raw a (.map #[] 0),.raw b (.map #[] 0)] [.res (KMap a ek ev ([]:List (κ×β))),.res (HP te b [] [])]:=by
 rintro F w ⟨f,⟨f1,f2,rfl,h1,f3,f4,rfl,h3,h4⟩,hfit,hr⟩
 obtain rfl:f4=[]:=h4
 have e1:f1=[(a,.map #[] 0)]:=h1
 have e3:f3=[(b,.map #[] 0)]:=h3
 subst e1; subst e3
 exact⟨[(a,.map #[] 0)]++([(b,.map #[] 0)]++[]),⟨_,_,rfl,⟨[],0,rfl,rfl,.nil 0⟩,_,[],rfl,⟨[(b,.map #[] 0)],[],rfl,⟨[],0,rfl,rfl,.nil 0⟩,[],[],rfl,⟨[],rfl,.refl _⟩,rfl⟩,rfl⟩,by simpa using hfit,hr⟩
/-- the first part of a row, beside which the row stays -/
theorem xCut{α : Type}(i:Nat)(a:Option Addr)(c:Nat)(enc : α→List Value)(d : α)(sz:Nat)(xs:List α)(te:TypeId)(kl:IntKind)(n:Int)(g:Tg)(h2:0≤n∧n≤(xs.length:Int))
  (hn:OK2 P F Ψ S (o.hd.k (.slice a n.toNat c) g o.hd.sL o.hd.sG))
  (h:(o.hd.tag,cutO P o.hd.st o.hd.oo,o.hd.sL[i]?)=(10,some (.slice a xs.length c,none,some (.int kl n),sz),some (.sl a c enc d sz xs te)):=by kernel_rfl) (he:o.el=o.er:=by kernel_rfl):OK2 P F Ψ S o:=by
 simp only [Prod.mk.injEq] at h
 refine⟨hd_ok o he ?_⟩
 rw [Out2.of10 _ h.1]
 refine⟨_,R_cutH i h.2.2 kl n h2 _ h.2.1, ?_⟩
 rintro v L' ⟨rfl,rfl⟩
 exact⟨_,_,hn.h⟩
end
end Go.Sx
/- Nodes: appends to rows that are owned; literal rows seen as rows. -/
set_option linter.unusedSimpArgs false
namespace Go.Sx
section
variable {P:Program} {F:Fr} {Ψ : Value→List Ent→Prop} {S:List Kont→TM→List Ent→Prop} {o:Out2}
theorem xAp{α : Type}(i:Nat)(a:Option Addr)(c:Nat)(enc : α→List Value)(d : α)(sz:Nat)(xs:List α)(te:TypeId)(ys:List α)(g:Tg)(h1:∀y,∀u∈enc y,u.oneCell'=true)(by':Nat)(xv:Value)
  (hlen:xs.length+ys.length≤9223372036854775807∧(xs.length+ys.length)*by'≤140737488355328)
  (hs:∀F,Src o.hd.sL F xv (cellsOf enc ys) ys.length)
  (hn:∀a' c',OK2 P F Ψ S (o.hd.k (.slice a' (xs++ys).length c') g (o.hd.sL.set i (.sl a' c' enc d sz (xs++ys) te)) o.hd.sG))
  (h:(o.hd.tag,appO P o.hd.st o.hd.oo,o.hd.sL[i]?)=(10,some (.slice a xs.length c,xv,(te,sz,by')),some (.sl a c enc d sz xs te)):=by kernel_rfl) (he:o.el=o.er:=by kernel_rfl):OK2 P F Ψ S o:=by
 simp only [Prod.mk.injEq] at h
 refine⟨hd_ok o he ?_⟩
 rw [Out2.of10 _ h.1]
 refine⟨_,R_append i h.2.2 xv ys (hs F) h1 by' hlen.1 hlen.2 _ h.2.1, ?_⟩
 rintro v L' ⟨a' ,c',rfl,rfl⟩
 exact⟨_,_,(hn a' c').h⟩
theorem xW0(L2:List Ent)(hv:View o.hd.sL L2)(hk:OK2 P F (Some_ Ψ) S (o.hd.withL L2 o.hd.sG))(hS:SC S)(he:o.el=o.er:=by kernel_rfl): OK2 P F (Some_ Ψ) S o:=
 xW L2 _ hv hk hS he
/-- the rest of a walk, as it was shown -/
theorem xGo{fn:Func}{body:Code}{nt:Nat}(keep idx:List Nat)(ks:List Kont)(tm0:TM)(L0:List Ent)(hg:Go P fn body nt F (RetR F Ψ) ks tm0 L0)
  (h:(o.hd.tag,o.hd.sk,o.hd.st.restrict keep,pick o.hd.sL idx,places o.hd.sL.length idx)=(2,ks,tm0,L0,true):=by kernel_rfl) (he:o.el=o.er:=by kernel_rfl):OK2 P F Ψ (St P fn body nt F Ψ) o:=by
 simp only [Prod.mk.injEq] at h
 refine⟨hd_ok o he ?_⟩
 rw [Out2.of2 _ h.1,h.2.1]
 exact go_weak keep idx (by rw [h.2.2.1,h.2.2.2.1,h.2.2.2.2]) hg
/-- the end of a walk that tells some value of so many cells -/
theorem xRo{s:Sp (List Value)}{g:Nat→Rf}(k:Nat)(hf:∀cs:List Value,cs.length=k→s.fact cs)(hk:o.hd.rv.cells.toList.length=k:=by kernel_rfl)
  (h:(o.hd.tag,o.hd.rv,pick o.hd.sL (leafI (leafR s.n (s.ret o.hd.rv.cells.toList) (s.post o.hd.rv.cells.toList) o.hd) (s.post o.hd.rv.cells.toList) o.hd),places o.hd.sL.length (leafI (leafR s.n (s.ret o.hd.rv.cells.toList) (s.post o.hd.rv.cells.toList) o.hd) (s.post o.hd.rv.cells.toList) o.hd)) =
   (1,retV (mixR s.n g (leafN (leafR s.n (s.ret o.hd.rv.cells.toList) (s.post o.hd.rv.cells.toList) o.hd) o.hd)) (s.ret o.hd.rv.cells.toList),(s.post o.hd.rv.cells.toList).map (SE.e (mixR s.n g (leafN (leafR s.n (s.ret o.hd.rv.cells.toList) (s.post o.hd.rv.cells.toList) o.hd) o.hd))),true):=by kernel_rfl)
  (he:o.el=o.er:=by kernel_rfl):OK2 P F (Some_ (s.Q g)) S o:=xR _ (hf _ hk) h he
/-- a literal row of numbers, seen as a row, ahead of a node -/
theorem view_lit{L:List Ent}(i:Nat){b:Nat}(k:IntKind)(xs:List Int)(t:TypeId)(hlen:xs.length≤maxLen)(hL:L[i]? = some (.pts b (cellsOf (encI k) xs) t):=by kernel_rfl): View L (L.set i (.sl (some ⟨b,0,none⟩) xs.length (encI k) 0 1 xs t)):=view_row i (encI k) 0 1 xs t (sizedI k) hlen hL
theorem view_none{L:List Ent}(i:Nat){b:Nat}(k:IntKind)(t:TypeId)(hL:L[i]? = some (.pts b [] t):=by kernel_rfl): View L (L.set i (.sl (some ⟨b,0,none⟩) 0 (encI k) 0 1 [] t)):=view_empty i (encI k) 0 1 t (sizedI k) hL
end
end Go.Sx
/- Rows of the frame: the caller's, that may lie in one another; contracts that need them. -/
set_option linter.unusedSimpArgs false
namespace Go.Sx
/-- a row of numbers that the frame has -/
def RowF(F:Fr)(a:Option Addr)(k:IntKind)(xs:List Int): Prop:=
 xs=[]∨∃b off cs t fz,a=some ⟨b,off,none⟩∧(b,Obj.cells cs t fz)∈F.f∧∀j x,xs[j]? = some x→cs[off+j]? = some (.int k x)
theorem RowF.mono{F F':Fr}{a:Option Addr}{k:IntKind}{xs:List Int}(hF:∀p∈F.f,p∈F'.f)(h:RowF F a k xs): RowF F' a k xs:=by
 rcases h with h | ⟨b,off,cs,t,fz,h1,h2,h3⟩
 ·exact .inl h
 ·exact .inr ⟨b,off,cs,t,fz,h1,hF _ h2,h3⟩
/-- a contract in one frame -/
def CtF(P:Program)(F:Fr)(f:FuncId){ι : Type}(s:Sp ι): Prop := ∀g w,In (s.pre.map (SE.e g)) F w→Calls P f (s.args.map (SA.v g)).toArray w fun e w' => ∃v L',e = .returned v∧s.Q g v L'∧In L' F w'
section
variable {P:Program} {F:Fr} {Ψ : Value→List Ent→Prop} {S:List Kont→TM→List Ent→Prop} {o:Out2}
theorem cF{ι : Type}{s:Sp ι}{fn:Func}{f:FuncId}{X:Cx}(nt:Nat)(hX:Inl P X)(hf:P.funcs[f]? = some fn)
  (h:∀g,OK2 P F (Some_ (s.Q g)) (St P fn (fn.body.getD .skip) nt F (Some_ (s.Q g)))
   (exec2 P X 4000 ⟨true,f,fn.body.getD .skip,nt,fn.results.toList⟩ [.c []] (argTM 0 (s.args.map (SA.v g))) (argTT 0 (s.args.map (SA.t id))) (s.pre.map (SE.e g)) ⟨s.pre.map (SE.gh id),s.n⟩ .ret))
  (hb:fn.body=some (fn.body.getD .skip):=by kernel_rfl) (hnt:s.args.length+(fn.ntmps-s.args.length)=nt:=by kernel_rfl):CtF P F f s:=by
 intro g w hi
 have hg:=xG hX _ _ hf (h g) hb
 have hnt':(s.args.map (SA.v g)).length+(fn.ntmps-(s.args.map (SA.v g)).length)=nt:=by simpa using hnt
 subst hnt'
 exact(calls_of_go hf hb hg w hi).mono fun e w' h=>retr_some h
/-- all that is owned may be the frame's for a while -/
theorem In.all{L:List Ent}{F:Fr}{w:World}(h:In L F w): ∃F':Fr,(∀p∈F.f,p∈F'.f)∧In [] F' w∧∀L' w',In L' F' w'→In (L++L') F w':=by
 obtain⟨f,hf,hfit,h1,h2,h3⟩:=h
 refine⟨{F with f:=f++F.f},fun p hp=>List.mem_append_right _ hp,⟨[],rfl,by simpa using hfit,h1,h2,h3⟩, ?_⟩
 rintro L' w' ⟨f',hf',hfit' ,h'⟩
 refine⟨f++f',dens_append.2 ⟨f,f',rfl,hf,hf'⟩, ?_,h'⟩
 refine hfit'.perm ?_
 show(f'++(f++F.f)).Perm (f++f'++F.f)
 rw [List.append_assoc]
 exact List.perm_append_comm_assoc f' f F.f
/-- a call by a contract that owns nothing ahead, in whatever frame has this one's blocks -/
theorem xCF{ι : Type}{s:Sp ι}{f:FuncId}(hen:Enters P f)(hS:∀F':Fr,(∀p∈F.f,p∈F'.f)→CtF P F' f s)
  (hk:∀x ν,s.fact x→OK2 P F Ψ S (o.hd.k (retV (mixR s.n rf0 ν) (s.ret x)) (retT (newId s.n [] o.hd.sG) (s.ret x))
   (o.hd.sL++(s.post x).map (SE.e (mixR s.n rf0 ν))) ⟨o.hd.sG.es++(s.post x).map (SE.gh (newId s.n [] o.hd.sG)),o.hd.sG.nx+40⟩))
  (h:(o.hd.tag,o.hd.cf,o.hd.ca,s.pre.length)=(9,f,s.args.map (SA.v rf0),0):=by kernel_rfl)
  (he:o.el=o.er:=by kernel_rfl):OK2 P F Ψ S o:=by
 simp only [Prod.mk.injEq] at h
 have hp:s.pre=[]:=List.eq_nil_of_length_eq_zero h.2.2.2
 refine⟨hd_ok o he ?_⟩
 rw [Out2.of9 _ h.1,h.2.1,h.2.2.1]
 refine⟨hen,fun v L' => ∃post,s.Q rf0 v post∧L'=o.hd.sL++post, ?_, ?_⟩
 ·intro w hin
  obtain⟨F',hF,h1,h2⟩:=hin.all
  refine(hS F' hF rf0 w (by rw [hp]; exact h1)).mono ?_
  rintro e w' ⟨v,post,rfl,hΨ,hw⟩
  exact⟨v,_,rfl,⟨post,hΨ,rfl⟩,h2 post w' hw⟩
 ·rintro v L' ⟨post,⟨x,ν,hx,rfl,rfl⟩,rfl⟩
  exact⟨_,_,(hk x ν hx).h⟩
/-- an element's place -/
theorem xIx{a:Option Addr}{k:IntKind}{xs:List Int}(hr:RowF F a k xs)(n c:Nat)(ki:IntKind)(i:Int)(hi:n≤xs.length∧0≤i∧i<(n:Int))
  (hn:OK2 P F Ψ S (o.hd.k (slAt a i.toNat 1) .n o.hd.sL o.hd.sG))
  (h:(o.hd.tag,ipO P o.hd.st o.hd.oo)=(10,some (.slice a n c,.int ki i,1)):=by kernel_rfl) (he:o.el=o.er:=by kernel_rfl):OK2 P F Ψ S o:=by
 simp only [Prod.mk.injEq] at h
 refine⟨hd_ok o he ?_⟩
 rw [Out2.of10 _ h.1]
 refine⟨fun v L'=>v=slAt a i.toNat 1∧L'=o.hd.sL, ?_, ?_⟩
 ·have ho:=h.2
  generalize o.hd.oo=op at ho
  generalize o.hd.st=tm at ho
  unfold ipO at ho
  split at ho
  ·rename_i t x ix hop
   split at ho
   ·rename_i sz' hs
    simp only [Option.some.injEq,Prod.mk.injEq] at ho
    obtain⟨hx,hix,rfl⟩:=ho
    simp only [Option.bind_eq_some_iff] at hs
    obtain⟨e,he1,he2⟩:=hs
    intro ac w K Q hin hkk
    rcases hr with rfl | ⟨b,off,cs,t',fz,rfl,_,_⟩
    ·simp at hi; omega
    ·have hrun:(execOp tm.eval op).run P w = .ok (.value (slAt (some ⟨b,off,none⟩) i.toNat 1)) w:=by
      simp [execOp,hop,hx,hix,indexAt_run he1 he2 hi.2,slAt,slAd,jOff_eq]
     rw [hrun]
     exact hkk _ _ w ⟨rfl,rfl⟩ hin
   ·simp at ho
  ·simp at ho
 ·rintro v L' ⟨rfl,rfl⟩
  exact⟨_,_,hn.h⟩
/-- an element -/
theorem xLd{a:Option Addr}{k:IntKind}{xs:List Int}(hr:RowF F a k xs)(j:Nat)(hj:j<xs.length)
  (hn:OK2 P F Ψ S (o.hd.k (.int k (xs.getD j 0)) .n o.hd.sL o.hd.sG))
  (h:(o.hd.tag,ldO P o.hd.st o.hd.oo)=(10,some (slAt a j 1,false,1)):=by kernel_rfl) (he:o.el=o.er:=by kernel_rfl):OK2 P F Ψ S o:=by
 simp only [Prod.mk.injEq] at h
 refine⟨hd_ok o he ?_⟩
 rw [Out2.of10 _ h.1]
 refine⟨fun v L'=>v = .int k (xs.getD j 0)∧L'=o.hd.sL, ?_, ?_⟩
 ·have ho:=h.2
  generalize o.hd.oo=op at ho
  generalize o.hd.st=tm at ho
  unfold ldO at ho
  split at ho
  ·rename_i t x hop
   split at ho
   ·rename_i ag' n' ha hs
    simp only [Option.some.injEq,Prod.mk.injEq] at ho
    obtain⟨hx,rfl,rfl⟩:=ho
    intro ac w K Q hin hkk
    rcases hr with rfl | ⟨b,off,cs,t',fz,rfl,hm,hcs⟩
    ·simp at hj
    ·have hin0:=hin
     obtain⟨f,hf,hfit,_⟩:=hin
     have hb:=hfit.2 (b,.cells cs t' fz) (by simp [hm])
     have hv:cs[off+j]? = some (.int k (xs.getD j 0)):=hcs j _ (by rw [List.getD_eq_getElem?_getD,List.getElem?_eq_getElem hj]; rfl)
     have hld:(Instr.loadAt t (.pointer (some ⟨b,off+j,none⟩))).run P w = .ok (valOf false [.int k (xs.getD j 0)]) w:=by
      simp only [Instr.loadAt,Instr.sureAddr,Sem.run_bind,Sem.run_pure,Result.andThen_ok]
      refine loadVar_run ha (by simpa using hs) (by simp) ?_
      intro q u hq
      cases q with
      | zero=>
       simp only [List.getElem?_cons_zero,Option.some.injEq] at hq
       subst hq
       simp only [Nat.add_zero]
       simp only [World.cell?,hb,Option.isSome_none,Bool.false_eq_true,if_false]
       exact hv
      | succ q=>simp at hq
     have hrun:(execOp tm.eval op).run P w = .ok (.value (.int k (xs.getD j 0))) w:=by
      have hx':tm.eval x = .pointer (some ⟨b,off+j,none⟩):=by rw [hx]; simp [slAt,slAd,jOff_eq,offAdd_eq]
      simp [execOp,hop,hx',hld,valOf]
     rw [hrun]
     exact hkk _ _ w ⟨rfl,rfl⟩ hin0
   ·simp at ho
  ·simp at ho
 ·rintro v L' ⟨rfl,rfl⟩
  exact⟨_,_,hn.h⟩
end
end Go.Sx
/- A contract that owns something and needs the frame; what is known of a call's entries may be told anew. -/
set_option linter.unusedSimpArgs false
namespace Go.Sx
theorem In.takeF{L:List Ent}{F:Fr}{w:World}(idx:List Nat)(hi:places L.length idx=true)(h:In L F w):
  ∃F':Fr,(∀p∈F.f,p∈F'.f)∧In (Sx.pick L idx) F' w∧∀L' w',In L' F' w'→In (dropAt L idx++L') F w':=by
 obtain⟨f,hf,hfit,h1,h2,h3⟩:=h.perm (pick_drop_perm L idx hi)
 obtain⟨f1,f2,rfl,hf1,hf2⟩:=dens_append.1 hf
 refine⟨{F with f:=f2++F.f},fun p hp=>List.mem_append_right _ hp,⟨f1,hf1,by rw [List.append_assoc] at hfit; exact hfit,h1,h2,h3⟩, ?_⟩
 rintro L' w' ⟨f',hf',hfit',hq⟩
 refine⟨f2++f',dens_append.2 ⟨f2,f',rfl,hf2,hf'⟩, ?_,hq⟩
 refine hfit'.perm ?_
 show(f'++(f2++F.f)).Perm (f2++f'++F.f)
 rw [List.append_assoc]
 exact List.perm_append_comm_assoc f' f2 F.f
theorem Ct.fr{P:Program}{F:Fr}{f:FuncId}{ι : Type}{s:Sp ι}(h:Ct P f s): CtF P F f s:=fun g w hi=>h g F w hi
/-- a block of the frame may be owned for a while, if it comes back as it was -/
theorem In.lend{L:List Ent}{F:Fr}{w:World}{b:Nat}{ob:Obj}(hm:(b,ob)∈F.f)(h:In L F w): ∃F':Fr,In (.raw b ob :: L) F' w∧∀L' w',In (.raw b ob :: L') F' w'→In L' F w':=by
 obtain⟨f,hf,hfit,h1,h2,h3⟩:=h
 obtain⟨s,t,hst⟩:=List.append_of_mem hm
 have hp:∀f:Ft,((b,ob) :: f++(s++t)).Perm (f++F.f):=by
  intro f
  rw [hst]
  have e1:((b,ob) :: f++(s++t)).Perm (f++(b,ob) :: (s++t)):=(List.perm_middle (l₁ := f) (l₂ := s++t) (a:=(b,ob))).symm
  exact e1.trans ((List.perm_middle (l₁ := s) (l₂ := t) (a:=(b,ob))).symm.append_left f)
 refine⟨{F with f:=s++t},⟨(b,ob) :: f,⟨[(b,ob)],f,rfl,rfl,hf⟩,hfit.perm (hp f).symm,h1,h2,h3⟩, ?_⟩
 rintro L' w' ⟨f',⟨f1,f2,rfl,h4,hf2⟩,hfit',hq⟩
 have h4:f1=[(b,ob)]:=h4
 subst h4
 exact⟨f2,hf2,hfit'.perm (hp f2),hq⟩
/-- the tag of a cell of an entry -/
def retag(k j:Nat)(t:Tg)(G:Gh): Gh:=⟨G.es.map fun e=>bif Nat.beq e.1 k then(e.1,e.2.set j t) else e,G.nx⟩
section
variable {P:Program} {F:Fr} {Ψ : Value→List Ent→Prop} {S:List Kont→TM→List Ent→Prop} {o:Out2}
theorem callsL_cf{ι : Type}{s:Sp ι}{f:FuncId}{args:List Value}{L:List Ent}(g:Nat→Rf)(idx:List Nat)(hS:∀F':Fr,(∀p∈F.f,p∈F'.f)→CtF P F' f s)(ha:args=s.args.map (SA.v g))(hp:pick L idx=s.pre.map (SE.e g))(hi:places L.length idx=true):
  CallsL P F f args L (fun v L' => ∃post,s.Q g v post∧L'=dropAt L idx++post):=by
 intro w hin
 obtain⟨F',hF,h1,h2⟩:=hin.takeF idx hi
 rw [hp] at h1
 subst ha
 refine(hS F' hF g w h1).mono ?_
 rintro e w' ⟨v,post,rfl,hΨ,hw⟩
 exact⟨v,_,rfl,⟨post,hΨ,rfl⟩,h2 post w' hw⟩
theorem xCt{ι : Type}{s:Sp ι}{f:FuncId}(fG:Gh→Gh)(hen:Enters P f)(hS:∀F':Fr,(∀p∈F.f,p∈F'.f)→CtF P F' f s)
  (hk:∀x ν,s.fact x→OK2 P F Ψ S (o.hd.k (retV (mixR s.n (callN (callR s.args s.pre o.hd) o.hd) ν) (s.ret x)) (retT (newId s.n (callR s.args s.pre o.hd) o.hd.sG) (s.ret x))
   (dropAt o.hd.sL (callI (callR s.args s.pre o.hd) s.pre o.hd)++(s.post x).map (SE.e (mixR s.n (callN (callR s.args s.pre o.hd) o.hd) ν)))
   (fG (callG s.n (callR s.args s.pre o.hd) o.hd (callI (callR s.args s.pre o.hd) s.pre o.hd) (s.post x)))))
  (h:(o.hd.tag,o.hd.cf,o.hd.ca,pick o.hd.sL (callI (callR s.args s.pre o.hd) s.pre o.hd),places o.hd.sL.length (callI (callR s.args s.pre o.hd) s.pre o.hd)) =
   (9,f,s.args.map (SA.v (callN (callR s.args s.pre o.hd) o.hd)),s.pre.map (SE.e (callN (callR s.args s.pre o.hd) o.hd)),true):=by kernel_rfl)
  (he:o.el=o.er:=by kernel_rfl):OK2 P F Ψ S o:=by
 simp only [Prod.mk.injEq] at h
 refine⟨hd_ok o he ?_⟩
 rw [Out2.of9 _ h.1,h.2.1,h.2.2.1]
 refine⟨hen,_,callsL_cf _ _ hS rfl h.2.2.2.1 h.2.2.2.2, ?_⟩
 rintro v L' ⟨post,⟨x,ν,hx,rfl,rfl⟩,rfl⟩
 exact⟨_,_,(hk x ν hx).h⟩
theorem cFv{ι : Type}{s:Sp ι}{fn:Func}{f:FuncId}{X:Cx}(nt:Nat)(hX:Inl P X)(hf:P.funcs[f]? = some fn)(L0:(Nat→Rf)→List Ent)(G0:Gh)(hv:∀g,View (s.pre.map (SE.e g)) (L0 g))
  (h:∀g,OK2 P F (Some_ (s.Q g)) (St P fn (fn.body.getD .skip) nt F (Some_ (s.Q g)))
   (exec2 P X 4000 ⟨true,f,fn.body.getD .skip,nt,fn.results.toList⟩ [.c []] (argTM 0 (s.args.map (SA.v g))) (argTT 0 (s.args.map (SA.t id))) (L0 g) G0 .ret))
  (hb:fn.body=some (fn.body.getD .skip):=by kernel_rfl) (hnt:s.args.length+(fn.ntmps-s.args.length)=nt:=by kernel_rfl):CtF P F f s:=by
 intro g w hi
 have hg:=xG hX _ _ hf (h g) hb
 have hnt':(s.args.map (SA.v g)).length+(fn.ntmps-(s.args.map (SA.v g)).length)=nt:=by simpa using hnt
 subst hnt'
 exact(calls_of_go hf hb hg w (hv g F w hi)).mono fun e w' h=>retr_some h
/-- what is looked up is known -/
theorem xMpE{κ β : Type}{ek : κ→Value}[DecidableEq κ](i j r:Nat)(l:List (κ×β))(ev : β→Value)(te:TypeId){kt:TypeId}(hk:KeyOk P kt ek)(k : κ)(z : β)(ok:Bool)(row : β→PRow)(ps:List PRow)(gt:Nat→Tg)(q : β)(b:Bool)(hq:(kget l k).getD z=q)(hb:(kget l k).isSome=b)(hp:row q=PRow.nil∨row q∈ps)
  (hn:OK2 P F Ψ S (o.hd.k (lookV ok (ev q) b) (gt o.hd.sG.nx) (dropAt o.hd.sL [j]++[.res (PoolX te ps (row q)),(row q).ent te])
   ⟨(o.hd.sG.drop [j]).es++[((o.hd.sG.es.getD j (0,[])).1,[]),(o.hd.sG.nx,[])],Nat.succ o.hd.sG.nx⟩))
  (h:(o.hd.tag,getK P o.hd.st o.hd.oo,o.hd.sL[i]?,places o.hd.sL.length [j],pick o.hd.sL [j])=(10,some (.map (some r),ek k,ok,kt,some (ev z)),some (.res (KMap r ek ev l)),true,[.res (Pool te ps)]):=by kernel_rfl) (he:o.el=o.er:=by kernel_rfl):OK2 P F Ψ S o:=by
 subst hq
 subst hb
 exact xMp i j r l ev te hk k z ok row ps gt hp hn h he
/-- the rest of a row, as a value alone -/
theorem xCutV{α : Type}(i:Nat)(a:Option Addr)(c:Nat)(enc : α→List Value)(d : α)(sz:Nat)(xs:List α)(te:TypeId)(kl:IntKind)(n:Int)(g:Tg)(h2:0≤n∧n≤(xs.length:Int))
  (hn:OK2 P F Ψ S (o.hd.k (.slice (cutA a c n.toNat sz) (xs.drop n.toNat).length (c-n.toNat)) g o.hd.sL o.hd.sG))
  (h:(o.hd.tag,cutO P o.hd.st o.hd.oo,o.hd.sL[i]?)=(10,some (.slice a xs.length c,some (.int kl n),none,sz),some (.sl a c enc d sz xs te)):=by kernel_rfl) (he:o.el=o.er:=by kernel_rfl):OK2 P F Ψ S o:=by
 simp only [Prod.mk.injEq] at h
 refine⟨hd_ok o he ?_⟩
 rw [Out2.of10 _ h.1]
 refine⟨_,R_cutV i h.2.2 kl n h2 _ h.2.1, ?_⟩
 rintro v L' ⟨rfl,rfl⟩
 exact⟨_,_,hn.h⟩
/-- one entry is written down anew; so is what is known of all -/
theorem xRe{Ψ : Value→List Ent→Prop}(i:Nat)(e:Ent)(G2:Gh)(hk:OK2 P F (Some_ Ψ) S (o.hd.withL (dropAt o.hd.sL [i]++[e]) G2))(hS:SC S)
  (h:(places o.hd.sL.length [i],pick o.hd.sL [i])=(true,[e]):=by kernel_rfl) (he:o.el=o.er:=by kernel_rfl):OK2 P F (Some_ Ψ) S o:=by
 simp only [Prod.mk.injEq] at h
 exact xW _ G2 (view_part [i] h.1 h.2 (fun _ _ h=>h)) hk hS he
/-- a call by a contract, all that is chosen written down: places, entries, tags (a long walk stays cheap so) -/
theorem xCy{ι : Type}{s:Sp ι}{f:FuncId}(gl:List Rf)(idx:List Nat)(rt:Tg)(G2:Gh)(hen:Enters P f)(hS:∀F':Fr,(∀p∈F.f,p∈F'.f)→CtF P F' f s)
  (hk:∀x ν,s.fact x→OK2 P F Ψ S (o.hd.k (retV (mixR s.n (fun r=>gl.getD r ⟨0,none,0⟩) ν) (s.ret x)) rt (dropAt o.hd.sL idx++(s.post x).map (SE.e (mixR s.n (fun r=>gl.getD r ⟨0,none,0⟩) ν))) G2))
  (h:(o.hd.tag,o.hd.cf,o.hd.ca,pick o.hd.sL idx,places o.hd.sL.length idx) =
   (9,f,s.args.map (SA.v (fun r=>gl.getD r ⟨0,none,0⟩)),s.pre.map (SE.e (fun r=>gl.getD r ⟨0,none,0⟩)),true):=by kernel_rfl)
  (he:o.el=o.er:=by kernel_rfl):OK2 P F Ψ S o:=by
 simp only [Prod.mk.injEq] at h
 refine⟨hd_ok o he ?_⟩
 rw [Out2.of9 _ h.1,h.2.1,h.2.2.1]
 refine⟨hen,_,callsL_cf _ _ hS rfl h.2.2.2.1 h.2.2.2.2, ?_⟩
 rintro v L' ⟨post,⟨x,ν,hx,rfl,rfl⟩,rfl⟩
 exact⟨_,_,(hk x ν hx).h⟩
end
end Go.Sx
/- Nodes: what is known of an interface's value. -/
set_option linter.unusedSimpArgs false
namespace Go.Sx
/-- a thing of this type has not the methods that are asked; has them -/
def TaNo(P:Program)(t T:TypeId)(z:Value): Prop := ∀v xT w,(Instr.typeAssert (.iface t v) xT T true).run P w = .ok (.tuple #[z,.bool false]) w
def TaYes(P:Program)(t T:TypeId): Prop := ∀v xT w,(Instr.typeAssert (.iface t v) xT T true).run P w = .ok (.tuple #[.iface t v,.bool true]) w
def taO(tm:TM)(o:Oper): Option (Value×TypeId×TypeId×Bool):=match o.op with
 | .typeAssert x xT T ok=>some (tm.eval x,xT,T,ok)
 | _=>none
section
variable {P:Program} {F:Fr} {Ψ : Value→List Ent→Prop} {S:List Kont→TM→List Ent→Prop} {o:Out2}
theorem ta_runs{tm:TM}{L:List Ent}{t T xT:TypeId}{v r:Value}(h:∀w,(Instr.typeAssert (.iface t v) xT T true).run P w = .ok r w): ∀o,taO tm o=some (.iface t v,xT,T,true)→Runs P F o (execOp tm.eval o) L (fun u L'=>u=r∧L'=L):=by
 intro o ho
 unfold taO at ho
 split at ho
 ·rename_i x xT' T' ok hop
  simp only [Option.some.injEq,Prod.mk.injEq] at ho
  obtain⟨hx,rfl,rfl,rfl⟩:=ho
  intro ac w K Q hin hkk
  have hrun:(execOp tm.eval o).run P w = .ok (.value r) w:=by
   simp only [execOp,hop,hx,Sem.run_bind,h,Result.andThen_ok,Sem.run_pure]
  rw [hrun]
  exact hkk _ _ w ⟨rfl,rfl⟩ hin
 ·simp at ho
theorem xTn{t T xT:TypeId}{z v:Value}(hT:TaNo P t T z)(hn:OK2 P F Ψ S (o.hd.k (.tuple #[z,.bool false]) (.l [.c,.c]) o.hd.sL o.hd.sG))
  (h:(o.hd.tag,taO o.hd.st o.hd.oo)=(10,some (.iface t v,xT,T,true)):=by kernel_rfl) (he:o.el=o.er:=by kernel_rfl):OK2 P F Ψ S o:=by
 simp only [Prod.mk.injEq] at h
 refine⟨hd_ok o he ?_⟩
 rw [Out2.of10 _ h.1]
 refine⟨_,ta_runs (fun w=>hT v xT w) _ h.2, ?_⟩
 rintro u L' ⟨rfl,rfl⟩
 exact⟨_,_,hn.h⟩
theorem xTy{t T xT:TypeId}{v:Value}(g:Tg)(hT:TaYes P t T)(hn:OK2 P F Ψ S (o.hd.k (.tuple #[.iface t v,.bool true]) (.l [g,.c]) o.hd.sL o.hd.sG))
  (h:(o.hd.tag,taO o.hd.st o.hd.oo)=(10,some (.iface t v,xT,T,true)):=by kernel_rfl) (he:o.el=o.er:=by kernel_rfl):OK2 P F Ψ S o:=by
 simp only [Prod.mk.injEq] at h
 refine⟨hd_ok o he ?_⟩
 rw [Out2.of10 _ h.1]
 refine⟨_,ta_runs (fun w=>hT v xT w) _ h.2, ?_⟩
 rintro u L' ⟨rfl,rfl⟩
 exact⟨_,_,hn.h⟩
end
theorem taNo{P:Program}{t T:TypeId}{z:Value}{want:Array (String×TypeId)}(hu:P.underlying T=some (.interface want))(h:(P.info? t).map (fun i=>(lacking want i.methods).isEmpty)=some false)(hz:(P.info? T).map (·.zero)=some (some z)): TaNo P t T z:=
 fun v xT w=>run_typeAssert_lacksB hu h hz v xT w
theorem taYes{P:Program}{t T:TypeId}{want:Array (String×TypeId)}(hu:P.underlying T=some (.interface want))(h:(P.info? t).map (fun i=>(lacking want i.methods).isEmpty)=some true): TaYes P t T:=
 fun v xT w=>run_typeAssert_hasB hu h v xT w
end Go.Sx
/- An append to a row without room gives a row of its own; an append to nothing. -/
set_option linter.unusedSimpArgs false
namespace Go.Sx
section
variable {P:Program} {F:Fr}
theorem R_freshS{α : Type}{tm:TM}{L:List Ent}(a:Option Addr){enc : α→List Value}(d : α){sz:Nat}(ys:List α){te:TypeId}(hsd:Sized enc sz)
  (xv:Value) (hsrc:Src L F xv (cellsOf enc ys) ys.length) (h1:∀y,∀u∈enc y,u.oneCell'=true) (by':Nat) (hlen:ys.length≤9223372036854775807) (hby:ys.length*by'≤140737488355328) (hne:ys≠[]) :
  ∀o,appO P tm o=some (.slice a 0 0,xv,(te,sz,by'))→
   Runs P F o (execOp tm.eval o) L (fun v L' => ∃a' c',v = .slice a' ys.length c' ∧L'=L++[.sl a' c' enc d sz ys te]):=by
 intro o h
 unfold appO at h
 split at h
 ·rename_i s x t t' hop
  cases hb:Nat.beq t t' with
  | false=>rw [hb] at h; simp at h
  | true=>
   rw [hb] at h
   rw [Nat.beq_eq] at hb
   subst hb
   simp only [cond_true] at h
   split at h
   ·rename_i r hr
    simp only [Option.some.injEq,Prod.mk.injEq] at h
    obtain⟨hs,hx,rfl⟩:=h
    intro ac w K Q hin hk
    obtain⟨hu,i,z,hi,hz,hsize,hbytes,hzs,hpos⟩:=rowT_spec hr
    have hrun0:execOp tm.eval o=(do pure (.value (←Builtin.append_ #[t,t] o.type #[.slice a 0 0,xv])):Sem Next):=by
     simp only [execOp,hop,resolve,invoke,builtin,List.map_toArray,List.map_cons,List.map_nil,hs,hx]
     rfl
    have hsrc':=hsrc w hin
    have hin0:=hin
    obtain⟨f,hf,hfit,g1,g2,g3⟩:=hin
    have hcl:(cellsOf enc ys).length=ys.length*i.size:=by rw [cellsOf_length hsd,hsize]
    have grown:∀(cap:Nat) (rest:List Value) (ob:Obj),ys.length≤cap→cap≤maxLen→cap*sz≤ys.length*sz+rest.length→ob = .cells (cellsOf enc ys++rest).toArray te (0,0)→
      In (L++[.sl (some ⟨w.heap.size,0,none⟩) cap enc d sz ys te]) F (w.drew.alloc ob):=by
     intro cap rest ob hc hc2 hc3 hob
     refine⟨f++([(w.heap.size,ob)]++[]),dens_append.2 ⟨f,_,rfl,hf,_,[],rfl,⟨hsd,.inr ⟨w.heap.size,0,[],rest,rfl,rfl,hc3,hc,hc2,by simp [hob]⟩⟩,rfl⟩, ?_,g1,g2,g3⟩
     have h0:Fits (f++[]++F.f) w:=by simpa using hfit
     have h2:Fits (f++[(w.heap.size,ob)]++F.f) (w.drew.alloc ob):=h0.anew ob
     simpa using h2
    have hzc:∀n,(Builtin.zeroCells z.cells n).toList.length=n*sz:=by intro n; simp [size_zeroCells,hzs]
    have hmax:ys.length≤maxLen:=by simp only [maxLen]; omega
    have fin:∀(cap:Nat),ys.length≤cap→cap≤maxLen→(Builtin.append_ #[t,t] o.type #[.slice a 0 0,xv]).run P w = .ok (.slice (some ⟨w.heap.size,0,none⟩) ys.length cap) (w.drew.alloc (.cells (cellsOf enc ys++(Builtin.zeroCells z.cells (cap-ys.length)).toList).toArray te))→(o.upon P ac K Q ((execOp tm.eval o).run P w)):=by
     intro cap hc hc2 hr0
     rw [hrun0]
     simp only [Sem.run_bind,hr0,Result.andThen_ok,Sem.run_pure,Oper.upon_value]
     exact hk _ _ _ ⟨_,cap,rfl,rfl⟩ (grown cap _ _ hc hc2 (by rw [hzc,←Nat.add_mul]; exact Nat.mul_le_mul_right _ (by omega)) rfl)
    have ate:∀(l:List Value) (A:Array Value),l.toArray++A=(l++A.toList).toArray:=fun l A=>by apply Array.ext'; simp
    have hone:∀u∈cellsOf enc ys,u.oneCell'=true:=by
     intro u hu
     obtain⟨y,_,hy⟩:=List.mem_flatMap.1 hu
     exact h1 y u hy
    rcases hsrc' with ⟨rfl,hcs,hn⟩ | ⟨ad,c',rfl,hcells⟩
    ·have hy:ys=[]:=List.eq_nil_of_length_eq_zero hn
     exact absurd hy hne
    ·by_cases h0:ys.length=0
     ·have hy:ys=[]:=List.eq_nil_of_length_eq_zero h0
      exact absurd hy hne
     ·cases a with
      | none=>
       have hr:=run_append_nil (P:=P) w t o.type te i z hu hi hz ad ys.length c' (cellsOf enc ys) hcl hcells (by omega) (by omega) (by rw [hbytes]; omega)
       refine fin (grownCap w ys.length 0 te) (grownCap_ge w ys.length 0 te) (grownCap_le_maxLen w ys.length 0 te hmax) ?_
       rw [hr,ate]
      | some ad0=>
       have hr:=run_append_grow (P:=P) w t o.type te i z hu hi hz ad0 0 0 [] (by simp) (by simp) ad ys.length c' (cellsOf enc ys) hcl hcells (by omega) (by omega)
        (growslice_fits (by omega) (by rw [hbytes]; simpa using hby))
       refine fin (grownCap w ys.length 0 te) (grownCap_ge w ys.length 0 te) (grownCap_le_maxLen w ys.length 0 te hmax) ?_
       simp only [Nat.zero_add,List.nil_append] at hr
       rw [hr]
       simp only [List.nil_append,List.append_toArray,Array.toList_append,Array.toArray_toList,List.size_toArray,Array.size_append]
       simp [ate]
   ·simp at h
 ·simp at h
/-- an append to a row without room, of some, gives a row of its own -/
theorem xAn{α : Type}{Ψ : Value→List Ent→Prop}{S:List Kont→TM→List Ent→Prop}{o:Out2}(te:TypeId)(a:Option Addr){enc : α→List Value}(d : α){sz:Nat}(ys:List α)(hsd:Sized enc sz)(h1:∀y,∀u∈enc y,u.oneCell'=true)(by':Nat)(xv:Value)(hlen:ys.length*by'≤140737488355328∧ys.length≤9223372036854775807)(hne:ys≠[])
  (hs:∀F,Src o.hd.sL F xv (cellsOf enc ys) ys.length)
  (hn:∀a' c',OK2 P F Ψ S (o.hd.k (.slice a' ys.length c') (.i o.hd.sG.nx) (o.hd.sL++[.sl a' c' enc d sz ys te]) (o.hd.sG.add [])))
  (h:(o.hd.tag,appO P o.hd.st o.hd.oo)=(10,some (.slice a 0 0,xv,(te,sz,by'))):=by kernel_rfl) (he:o.el=o.er:=by kernel_rfl):OK2 P F Ψ S o:=by
 simp only [Prod.mk.injEq] at h
 refine⟨hd_ok o he ?_⟩
 rw [Out2.of10 _ h.1]
 refine⟨_,R_freshS a d ys hsd xv (hs F) h1 by' hlen.2 hlen.1 hne _ h.2, ?_⟩
 rintro v L' ⟨a' ,c',rfl,rfl⟩
 exact⟨_,_,(hn a' c').h⟩
theorem view_rdsl{α : Type}{a:Option Addr}{c:Nat}{enc : α→List Value}{d : α}{sz:Nat}{xs:List α}{t:TypeId}: View [] [.sl none 0 enc d sz ([]:List α) t]∨¬Sized enc sz:=by
 by_cases hs:Sized enc sz
 ·left
  rintro F w ⟨f,hf,hfit,h⟩
  obtain rfl:f=[]:=hf
  exact⟨[]++[],⟨[],[],rfl,⟨hs,.inl ⟨rfl,rfl,rfl,rfl⟩⟩,rfl⟩,by simpa using hfit,h⟩
 ·exact .inr hs
end
end Go.Sx
/- A row that is none. -/
namespace Go.Sx
theorem view_nilsl{α : Type}{L:List Ent}(enc : α→List Value)(d : α)(sz:Nat)(t:TypeId)(hs:Sized enc sz): View L (L++[.sl none 0 enc d sz [] t]):=by
 rintro F w ⟨f,hf,hfit,h⟩
 exact⟨f++[],dens_append.2 ⟨f,[],rfl,hf,[],[],rfl,⟨hs,.inl ⟨rfl,rfl,rfl,rfl⟩⟩,rfl⟩,by simpa using hfit,h⟩
end Go.Sx
/- Nodes: an append of zeros to nothing; what is behind a cut. -/
set_option linter.unusedSimpArgs false
namespace Go.Sx
section
variable {P:Program} {F:Fr}
/-- an append of a make to nothing -/
theorem xAz{α : Type}{Ψ : Value→List Ent→Prop}{S:List Kont→TM→List Ent→Prop}{o:Out2}(te:TypeId)(enc : α→List Value)(d z : α){sz:Nat}(hsd:Sized enc sz)(k:IntKind)(n:Int)(by':Nat)
  (hlen:0<n∧n≤9223372036854775807∧n*(by':Int)≤140737488355328)
  (hn:∀a' c',OK2 P F Ψ S (o.hd.k (.slice a' (List.replicate n.toNat z).length c') (.i o.hd.sG.nx) (o.hd.sL++[.sl a' c' enc d sz (List.replicate n.toNat z) te]) (o.hd.sG.add [])))
  (h:(o.hd.tag,appZ P o.hd.st o.hd.oo)=(10,some (.slice none 0 0,.int k n,(te,sz,by'),some (enc z))):=by kernel_rfl) (he:o.el=o.er:=by kernel_rfl):OK2 P F Ψ S o:=by
 simp only [Prod.mk.injEq] at h
 refine⟨hd_ok o he ?_⟩
 rw [Out2.of10 _ h.1]
 refine⟨_,R_appZ enc d z hsd n by' hlen.1 hlen.2.1 hlen.2.2 _ h.2, ?_⟩
 rintro v L' ⟨a' ,c',rfl,rfl⟩
 exact⟨_,_,(hn a' c').h⟩
/-- a map is cleared -/
theorem K_clear{κ β : Type}{ek : κ→Value}{ev : β→Value}{tm:TM}{L:List Ent}(i:Nat){r:Nat}{l:List (κ×β)}(hL:L[i]? = some (.res (KMap r ek ev l))):
  ∀o,clearO P tm o=some (.map (some r),true)→
   Runs P F o (execOp tm.eval o) L (fun v L'=>v=undef∧L'=L.set i (.res (KMap r ek ev ([]:List (κ×β))))):=by
 intro o h
 unfold clearO at h
 split at h
 ·rename_i x t hop
  simp only [Option.some.injEq,Prod.mk.injEq,Option.isSome_iff_exists] at h
  obtain⟨hx,⟨⟨kk',e,z⟩,hm⟩⟩:=h
  obtain⟨kt,h1,_,_⟩:=mapT_spec hm
  intro ac w K Q hin hkk
  obtain⟨f,hf,hfit,g1,g2,g3⟩:=hin
  obtain⟨f1,gg,f2,rfl,⟨l',clock,rfl,rfl,hst⟩,hset⟩:=dens_get hL hf
  have hb:=hfit.2 (r,.map (l'.map (entK ek ev)).toArray clock) (by simp)
  have hrun:(execOp tm.eval o).run P w = .ok (.value undef) {w with heap:=w.heap.setIfInBounds r (.map #[] clock)}:=by
   have hget:(getObj r).run P w = .ok (.map (l'.map (entK ek ev)).toArray clock) w:=by
    simp [getObj,Sem.run,hb]
   simp only [execOp,hop,resolve,invoke,builtin,List.map_toArray,List.map_cons,List.map_nil,hx,Builtin.clear_,Sem.run_bind,Sem.run_pure,Result.andThen_ok]
   simp [run_underlying h1,hget,setObj,Sem.run,hb,undef]
  rw [hrun]
  refine hkk undef _ _ ⟨rfl,rfl⟩ ⟨_,hset (.res (KMap r ek ev ([]:List (κ×β)))) [(r,.map #[] clock)] ⟨[],clock,rfl,rfl,.nil clock⟩, ?_,g1,g2,g3⟩
  have hfit':Fits (f1++(r,.map (l'.map (entK ek ev)).toArray clock) :: (f2++F.f)) w:=by simpa using hfit
  have hlt:r<w.heap.size:=(Array.getElem?_eq_some_iff.1 hb).1
  have:=Fits.turn hfit' (o':=.map #[] clock) (w':={w with heap:=w.heap.setIfInBounds r (.map #[] clock)}) (by simp [hlt]) (fun k hk=>by simp [Array.getElem?_setIfInBounds_ne (Ne.symm hk)])
  simpa using this
 ·simp at h
theorem xMc{κ β : Type}{Ψ : Value→List Ent→Prop}{S:List Kont→TM→List Ent→Prop}{o:Out2}(i r:Nat)(l:List (κ×β))(ek : κ→Value)(ev : β→Value)
  (hn:OK2 P F Ψ S (o.hd.k undef .n (o.hd.sL.set i (.res (KMap r ek ev ([]:List (κ×β))))) o.hd.sG))
  (h:(o.hd.tag,clearO P o.hd.st o.hd.oo,o.hd.sL[i]?)=(10,some (.map (some r),true),some (.res (KMap r ek ev l))):=by kernel_rfl) (he:o.el=o.er:=by kernel_rfl):OK2 P F Ψ S o:=by
 simp only [Prod.mk.injEq] at h
 refine⟨hd_ok o he ?_⟩
 rw [Out2.of10 _ h.1]
 refine⟨_,K_clear i h.2.2 _ h.2.1, ?_⟩
 rintro v L' ⟨rfl,rfl⟩
 exact⟨_,_,hn.h⟩
end
/-- keys and values that are numbers -/
def ekZ(k:Int): Value:=.int .i64 k
theorem keyOk_Z{P:Program}{kt:TypeId}(h:P.underlying kt=some (.int .i64)): KeyOk P kt ekZ:=keyOk_int h
/-- the first part of a row is a row -/
theorem view_takeS{α : Type}{L:List Ent}(i:Nat){a:Option Addr}{c:Nat}(enc : α→List Value)(d : α)(sz:Nat)(xs:List α)(t:TypeId)(n:Nat)(hs:Sized enc sz)(hn:n≤xs.length)(hL:L[i]? = some (.sl a c enc d sz xs t):=by kernel_rfl):
  View L (L.set i (.sl a c enc d sz (xs.take n) t)):=by
 rintro F w ⟨f,hf,hfit,h⟩
 obtain⟨f1,g,f2,rfl,hg,hset⟩:=dens_get hL hf
 refine⟨_,hset (.sl a c enc d sz (xs.take n) t) g ⟨hs, ?_⟩,hfit,h⟩
 rcases hg.2 with ⟨rfl,rfl,rfl,rfl⟩ | ⟨b,off,pre,post,rfl,h1,h2,h3,h4,rfl⟩
 ·exact .inl ⟨rfl,rfl,by simp,rfl⟩
 ·have e:cellsOf enc xs=cellsOf enc (xs.take n)++cellsOf enc (xs.drop n):=by
   unfold cellsOf
   rw [←List.flatMap_append,List.take_append_drop]
  have hl1:xs.length=n+(xs.drop n).length:=by rw [List.length_drop]; omega
  refine .inr ⟨b,off,pre,cellsOf enc (xs.drop n)++post,rfl,h1, ?_, ?_,h4, ?_⟩
  ·rw [List.length_append,cellsOf_length hs,List.length_take,Nat.min_eq_left hn,←Nat.add_assoc,←Nat.add_mul,←hl1]
   exact h2
  ·rw [List.length_take,Nat.min_eq_left hn]; omega
  ·rw [e]; simp
end Go.Sx
/- Fields of elements of rows, as nodes. -/
set_option linter.unusedSimpArgs false
namespace Go.Sx
theorem R_ldFs{P:Program}{F:Fr}{α : Type}{tm:TM}{L:List Ent}(i:Nat){a:Option Addr}{c:Nat}{enc : α→List Value}{d : α}{sz:Nat}{xs:List α}{te:TypeId}
  (hL:L[i]? = some (.sl a c enc d sz xs te)) (j fo:Nat) (ag:Bool) (n:Nat) (vs:List Value) (hv:((enc (xs.getD j d)).drop fo).take n=vs) (hn:vs.length=n) (h1:ag=true∨n=1) (hj:j<xs.length) :
  ∀o,ldO P tm o=some (.pointer (some ((slAd a j sz).add fo)),ag,n)→
   Runs P F o (execOp tm.eval o) L (fun v L'=>v=valOf ag vs∧L'=L):=by
 intro o ho
 unfold ldO at ho
 split at ho
 ·rename_i t x hop
  split at ho
  ·rename_i ag' n' ha hs
   simp only [Option.some.injEq,Prod.mk.injEq] at ho
   obtain⟨hx,rfl,rfl⟩:=ho
   intro ac w K Q hin hkk
   have hin0:=hin
   obtain⟨f,hf,hfit,_⟩:=hin0
   obtain⟨f1,g,f2,rfl,⟨hz,hg⟩,_⟩:=dens_get hL hf
   have hld:(Instr.loadAt t (.pointer (some ((slAd a j sz).add fo)))).run P w = .ok (valOf ag' vs) w:=by
    rcases hg with ⟨_,_,hx0,_⟩ | ⟨b,off,pre,post,rfl,hp,_,hl,_,rfl⟩
    ·subst hx0; simp at hj
    ·have hb:w.heap[b]? = some (.cells (pre++cellsOf enc xs++post).toArray te (0,0)):=hfit.2 (b,_) (by simp)
     have e:(slAd (some ⟨b,off,none⟩) j sz).add fo=⟨b,off+j*sz+fo,none⟩:=by simp [slAd,jOff_eq,Addr.add]
     rw [e]
     simp only [Instr.loadAt,Instr.sureAddr,Sem.run_bind,Sem.run_pure,Result.andThen_ok]
     have hxj:xs[j]? = some (xs.getD j d):=by simp [hj]
     refine loadVar_run ha (by rw [hn]; exact hs) (by rw [hn]; rcases h1 with h | h <;> simp [h]) ?_
     intro k v hk
     rw [←hv] at hk
     have hkn:k<n':=by
      have h2:=(List.getElem?_eq_some_iff.1 hk).1
      rw [List.length_take] at h2
      omega
     rw [List.getElem?_take_of_lt hkn,List.getElem?_drop] at hk
     have hlt:fo+k<sz:=by
      have h2:=(List.getElem?_eq_some_iff.1 hk).1
      rwa [hz] at h2
     have hgk:=cellsOf_get hz xs j (fo+k) _ hxj hlt
     have hin1:j*sz+(fo+k)<(cellsOf enc xs).length:=by
      rw [cellsOf_length hz]
      calc j*sz+(fo+k)<j*sz+sz:=by omega
       _ = (j+1)*sz:=by rw [Nat.succ_mul]
       _≤xs.length*sz:=Nat.mul_le_mul_right _ hj
     subst hp
     simp only [World.cell?,hb,Option.isSome_none,Bool.false_eq_true,if_false,List.getElem?_toArray]
     rw [show pre.length+j*sz+fo+k=pre.length+(j*sz+(fo+k)) by omega,List.append_assoc,List.getElem?_append_right (by omega),Nat.add_sub_cancel_left,List.getElem?_append_left hin1,hgk]
     exact hk
   have hrun:(execOp tm.eval o).run P w = .ok (.value (valOf ag' vs)) w:=by
    simp only [execOp,hop,hx,Sem.run_bind,hld,Result.andThen_ok,Sem.run_pure]
   rw [hrun]
   exact hkk _ _ w ⟨rfl,rfl⟩ hin
  ·simp at ho
 ·simp at ho
theorem cellsOf_fld{α : Type}{enc : α→List Value}{sz:Nat}(h:Sized enc sz){fo:Nat}{vs:List Value}(hn:fo+vs.length≤sz)(d x' : α): ∀(xs:List α) (j:Nat),j<xs.length→splice (enc (xs.getD j d)) fo vs=enc x'→splice (cellsOf enc xs) (j*sz+fo) vs=cellsOf enc (xs.set j x')
 | [],_,hj,_=>by simp at hj
 | y :: ys,0,_,hv=>by
  have hy:(enc y).length=sz:=h y
  have:=splice_mid [] (enc y) (cellsOf enc ys) vs fo (by omega)
  have e:splice (enc y) fo vs=enc x':=by simpa using hv
  rw [e] at this
  have e2:cellsOf enc (y :: ys)=enc y++cellsOf enc ys:=rfl
  have e3:cellsOf enc (x' :: ys)=enc x'++cellsOf enc ys:=rfl
  rw [List.set_cons_zero,e2,e3]
  simpa using this
 | y :: ys,j+1,hj,hv=>by
  have hj':j<ys.length:=by simpa using hj
  have ih:=cellsOf_fld h hn d x' ys j hj' (by simpa using hv)
  have hlen:(cellsOf enc ys).length=ys.length*sz:=cellsOf_length h ys
  have hle:(j+1)*sz≤ys.length*sz:=Nat.mul_le_mul_right _ hj'
  rw [Nat.succ_mul] at hle
  have:=splice_mid (enc y) (cellsOf enc ys) [] vs (j*sz+fo) (by omega)
  rw [ih,List.append_nil,List.append_nil,h y] at this
  have e2:cellsOf enc (y :: ys)=enc y++cellsOf enc ys:=rfl
  have e3:cellsOf enc (y :: ys.set j x')=enc y++cellsOf enc (ys.set j x'):=rfl
  rw [List.set_cons_succ,e2,e3,Nat.succ_mul,←this]
  congr 1
  omega
/-- the first ones of a row, as what is appended -/
theorem src_slT{α : Type}{a:Option Addr}{enc : α→List Value}{d : α}{sz:Nat}{xs:List α}{L:List Ent}{F:Fr}{i c:Nat}{t:TypeId}(n:Nat)(hn:n≤xs.length)(hL:L[i]? = some (.sl a c enc d sz xs t)):
  Src L F (.slice a n c) (cellsOf enc (xs.take n)) n:=by
 intro w hi
 rcases src_sl (F:=F) hL w hi with ⟨h1,h2,h3⟩ | ⟨ad,c',h1,h2⟩
 ·have hx:xs=[]:=List.eq_nil_of_length_eq_zero h3
  have hn0:n=0:=by rw [h3] at hn; omega
  subst hn0
  rw [h3] at h1
  exact .inl ⟨h1,by simp [cellsOf],rfl⟩
 ·injection h1 with e1 _ e2
  subst e1
  refine .inr ⟨ad,c,rfl,fun j u hu=>h2 j u ?_⟩
  have e:cellsOf enc xs=cellsOf enc (xs.take n)++cellsOf enc (xs.drop n):=by rw [←cellsOf_append,List.take_append_drop]
  rw [e,List.getElem?_append_left (List.getElem?_eq_some_iff.1 hu).1]
  exact hu
theorem src_slU{α : Type}{a:Option Addr}{enc : α→List Value}{d : α}{sz:Nat}{xs:List α}{L:List Ent}{F:Fr}{i c:Nat}{t:TypeId}(n:Nat)(hn:n≤xs.length)(hL:L[i]? = some (.sl a c enc d sz xs t)):
  Src L F (.slice a n c) (cellsOf enc (xs.take n)) (xs.take n).length:=by
 rw [List.length_take,Nat.min_eq_left hn]
 exact src_slT n hn hL
/-- the last ones -/
theorem src_slD{α : Type}{a:Option Addr}{enc : α→List Value}{d : α}{sz:Nat}{xs:List α}{L:List Ent}{F:Fr}{i c:Nat}{t:TypeId}(n:Nat)(hn:n≤xs.length)(hL:L[i]? = some (.sl a c enc d sz xs t)):
  Src L F (.slice (cutA a c n sz) (xs.drop n).length (c-n)) (cellsOf enc (xs.drop n)) (xs.drop n).length:=by
 intro w hi
 have hlt:i<L.length:=(List.getElem?_eq_some_iff.1 hL).1
 have hi2:=view_cut i hL n hn F w hi
 have hs:=src_sl (F:=F) (i:=i) (L:=L.set i (.sl (cutA a c n sz) (c-n) enc d sz (xs.drop n) t)) (by rw [List.getElem?_set_self hlt]) w hi2
 exact hs
def stO(P:Program)(tm:TM)(o:Oper): Option (Value×Value×Nat):=
 match o.op with
 | .store t a x=>match sizeT P t with
  | some n=>some (tm.eval a,tm.eval x,n)
  | none=>none
 | _=>none
theorem R_stFs{P:Program}{F:Fr}{α : Type}{tm:TM}{L:List Ent}(i:Nat){a:Option Addr}{c:Nat}{enc : α→List Value}{d : α}{sz:Nat}{xs:List α}{te:TypeId}
  (hL:L[i]? = some (.sl a c enc d sz xs te)) (j fo:Nat) (x' : α) (v:Value) (hv:splice (enc (xs.getD j d)) fo v.cells.toList=enc x') (h1:v.cells.toList.all (·.oneCell')=true) (hn:fo+v.cells.toList.length≤sz) (hj:j<xs.length) :
  ∀o,stO P tm o=some (.pointer (some ((slAd a j sz).add fo)),v,v.cells.toList.length)→
   Runs P F o (execOp tm.eval o) L (fun u L'=>u=undef∧L'=L.set i (.sl a c enc d sz (xs.set j x') te)):=by
 intro o ho
 unfold stO at ho
 split at ho
 ·rename_i t ax x hop
  split at ho
  ·rename_i n' hs
   simp only [Option.some.injEq,Prod.mk.injEq] at ho
   obtain⟨hx,hvx,hnn⟩:=ho
   intro ac w K Q hin hkk
   obtain⟨f,hf,hfit,g1,g2,g3⟩:=hin
   obtain⟨f1,g,f2,rfl,⟨hz,hg⟩,hset⟩:=dens_get hL hf
   rcases hg with ⟨_,_,hx0,_⟩ | ⟨b,off,pre,post,rfl,hp,hl1,hl2,hl3,rfl⟩
   ·subst hx0; simp at hj
   ·subst hp
    have hb:=hfit.2 (b,.cells (pre++cellsOf enc xs++post).toArray te (0,0)) (by simp)
    have hin1:j*sz+sz≤(cellsOf enc xs).length:=by
     rw [cellsOf_length hz,←Nat.succ_mul]; exact Nat.mul_le_mul_right _ hj
    have hrun:=storeAt_run (P:=P) (t:=t) (v:=v) (b:=b) (off:=pre.length+(j*sz+fo)) (cur:=pre++cellsOf enc xs++post) (w:=w) (by rw [←hnn]; exact hs) (fun u hu=>List.all_eq_true.1 h1 u hu) hb
     (by rw [List.length_append,List.length_append]; omega)
    rw [splice_mid pre (cellsOf enc xs) post v.cells.toList (j*sz+fo) (by omega),cellsOf_fld hz hn d x' xs j hj hv] at hrun
    have e:(slAd (some ⟨b,pre.length,none⟩) j sz).add fo=⟨b,pre.length+(j*sz+fo),none⟩:=by simp [slAd,jOff_eq,Addr.add,Nat.add_assoc]
    have hrun2:(execOp tm.eval o).run P w = .ok .skip (w.setRow b (pre++cellsOf enc (xs.set j x')++post).toArray):=by
     simp only [execOp,hop,hx,hvx,e,Sem.run_bind,hrun,Result.andThen_ok,Sem.run_pure]
    rw [hrun2]
    refine hkk undef _ _ ⟨rfl,rfl⟩ ?_
    refine⟨_,hset (.sl (some ⟨b,pre.length,none⟩) c enc d sz (xs.set j x') te) [(b,.cells (pre++cellsOf enc (xs.set j x')++post).toArray te (0,0))] ⟨hz,.inr ⟨b,pre.length,pre,post,rfl,rfl,by rw [List.length_set]; exact hl1,by rw [List.length_set]; exact hl2,hl3,rfl⟩⟩, ?_,g1,g2,g3⟩
    have hfit':Fits (f1++(b,.cells (pre++cellsOf enc xs++post).toArray te (0,0)) :: (f2++F.f)) w:=by simpa using hfit
    have:=Fits.turn hfit' (o':=.cells (pre++cellsOf enc (xs.set j x')++post).toArray te (0,0)) (w':=w.setRow b (pre++cellsOf enc (xs.set j x')++post).toArray) (setRow_heap w b _ _ te (0,0) hb) (fun k hk=>setRow_other w b k _ hk)
    simpa using this
  ·simp at ho
 ·simp at ho
section
variable {P:Program} {F:Fr} {Ψ : Value→List Ent→Prop} {S:List Kont→TM→List Ent→Prop} {o:Out2}
/-- a field of an element of a row that is owned -/
theorem xFs{α : Type}(i:Nat)(a:Option Addr)(c:Nat)(enc : α→List Value)(d : α)(sz:Nat)(xs:List α)(te:TypeId)(j fo:Nat)(ag:Bool)(n:Nat)(vs:List Value)(g:Tg)(hj:j<xs.length)(hv:((enc (xs.getD j d)).drop fo).take n=vs)(hn:vs.length=n)(h1:ag=true∨n=1)
  (hk:OK2 P F Ψ S (o.hd.k (valOf ag vs) g o.hd.sL o.hd.sG))
  (h:(o.hd.tag,ldO P o.hd.st o.hd.oo,o.hd.sL[i]?)=(10,some (.pointer (some ((slAd a j sz).add fo)),ag,n),some (.sl a c enc d sz xs te)):=by kernel_rfl) (he:o.el=o.er:=by kernel_rfl):OK2 P F Ψ S o:=by
 simp only [Prod.mk.injEq] at h
 refine⟨hd_ok o he ?_⟩
 rw [Out2.of10 _ h.1]
 refine⟨_,R_ldFs i h.2.2 j fo ag n vs hv hn h1 hj _ h.2.1, ?_⟩
 rintro v L' ⟨rfl,rfl⟩
 exact⟨_,_,hk.h⟩
/-- a field of an element of a row that is looked at -/
theorem xFr{α : Type}(i:Nat)(a:Option Addr)(c:Nat)(enc : α→List Value)(d : α)(sz:Nat)(xs:List α)(te:TypeId)(r:Rest)(j fo:Nat)(ag:Bool)(n:Nat)(vs:List Value)(g:Tg)(hj:j<xs.length)(hv:((enc (xs.getD j d)).drop fo).take n=vs)(hn:vs.length=n)(h1:ag=true∨n=1)
  (hk:OK2 P F Ψ S (o.hd.k (valOf ag vs) g o.hd.sL o.hd.sG))
  (h:(o.hd.tag,ldO P o.hd.st o.hd.oo,o.hd.sL[i]?)=(10,some (.pointer (some ((slAd a j sz).add fo)),ag,n),some (.rd a c enc d sz xs te r)):=by kernel_rfl) (he:o.el=o.er:=by kernel_rfl):OK2 P F Ψ S o:=by
 simp only [Prod.mk.injEq] at h
 refine⟨hd_ok o he ?_⟩
 rw [Out2.of10 _ h.1]
 refine⟨_,R_ldF i h.2.2 j fo ag n vs hv hn h1 hj _ h.2.1, ?_⟩
 rintro v L' ⟨rfl,rfl⟩
 exact⟨_,_,hk.h⟩
/-- a field of an element of a row is written -/
theorem xFt{α : Type}(i:Nat)(a:Option Addr)(c:Nat)(enc : α→List Value)(d : α)(sz:Nat)(xs:List α)(te:TypeId)(j fo:Nat)(x' : α)(v:Value)(hj:j<xs.length)(hv:splice (enc (xs.getD j d)) fo v.cells.toList=enc x')(h1:v.cells.toList.all (·.oneCell')=true)(hn:fo+v.cells.toList.length≤sz)
  (hk:OK2 P F Ψ S (o.hd.k undef .n (o.hd.sL.set i (.sl a c enc d sz (xs.set j x') te)) o.hd.sG))
  (h:(o.hd.tag,stO P o.hd.st o.hd.oo,o.hd.sL[i]?)=(10,some (.pointer (some ((slAd a j sz).add fo)),v,v.cells.toList.length),some (.sl a c enc d sz xs te)):=by kernel_rfl) (he:o.el=o.er:=by kernel_rfl):OK2 P F Ψ S o:=by
 simp only [Prod.mk.injEq] at h
 refine⟨hd_ok o he ?_⟩
 rw [Out2.of10 _ h.1]
 refine⟨_,R_stFs i h.2.2 j fo x' v hv h1 hn hj _ h.2.1, ?_⟩
 rintro u L' ⟨rfl,rfl⟩
 exact⟨_,_,hk.h⟩
end
end Go.Sx
/- Contracts of a part of what is owned; rows of structs of the frame; a pool's row as what is appended. -/
set_option linter.unusedSimpArgs false
namespace Go.Sx
theorem ctr_fr{P:Program}{f:FuncId}{args:Array Value}{A A' M:List Ent}{Q Q':Value→List Ent→Prop}(hv:View A (A'++M))(h:Ctr P f args A' Q')
  (hq:∀v post,Q' v post→∃post',View (M++post) post'∧Q v post'):Ctr P f args A Q:=by
 intro F w hi
 obtain⟨F',h1,h2⟩:=(hv F w hi).frame
 refine(h F' w h1).mono ?_
 rintro e w' ⟨v,post,he,hQ,hin⟩
 obtain⟨post',hv',hQ'⟩:=hq v post hQ
 exact⟨v,post',he,hQ',hv' F w' (h2 post w' hin)⟩
theorem In.frameF{L M:List Ent}{F:Fr}{w:World}(h:In (L++M) F w): ∃F':Fr,(∀p∈F.f,p∈F'.f)∧In L F' w∧∀L' w',In L' F' w'→In (M++L') F w':=by
 obtain⟨f,hf,hfit,h1,h2,h3⟩:=h
 obtain⟨f1,f2,rfl,h4,h5⟩:=dens_append.1 hf
 refine⟨{F with f:=f2++F.f},fun p hp=>List.mem_append_right _ hp,⟨f1,h4,by simpa using hfit,h1,h2,h3⟩, ?_⟩
 rintro L' w' ⟨g,hg,hfit',h6⟩
 refine⟨f2++g,dens_append.2 ⟨f2,g,rfl,h5,hg⟩, ?_,h6⟩
 refine hfit'.perm ?_
 show(g++(f2++F.f)).Perm (f2++g++F.f)
 rw [List.append_assoc]
 exact List.perm_append_comm_assoc g f2 F.f
def CtrF(P:Program)(F:Fr)(f:FuncId)(args:Array Value)(pre:List Ent)(Q:Value→List Ent→Prop): Prop:=
 ∀w,In pre F w→Calls P f args w fun e w' => ∃v post,e = .returned v∧Q v post∧In post F w'
theorem ctf_fr{P:Program}{F:Fr}{f:FuncId}{args:Array Value}{A A' M:List Ent}{Q Q':Value→List Ent→Prop}(hv:View A (A'++M))(h:∀F':Fr,(∀p∈F.f,p∈F'.f)→CtrF P F' f args A' Q')
  (hq:∀v post,Q' v post→∃post',View (M++post) post'∧Q v post'):CtrF P F f args A Q:=by
 intro w hi
 obtain⟨F',hF,h1,h2⟩:=(hv F w hi).frameF
 refine(h F' hF w h1).mono ?_
 rintro e w' ⟨v,post,he,hQ,hin⟩
 obtain⟨post',hv',hQ'⟩:=hq v post hQ
 exact⟨v,post',he,hQ',hv' F w' (h2 post w' hin)⟩
theorem view_trans{A B C:List Ent}(h1:View A B)(h2:View B C): View A C:=fun F w h=>h2 F w (h1 F w h)
theorem src_view{L L2:List Ent}{F:Fr}{x:Value}{cs:List Value}{n:Nat}(hv:View L L2)(h:Src L2 F x cs n): Src L F x cs n:=fun w hi=>h w (hv F w hi)
theorem src_pool{L:List Ent}{F:Fr}{ps:List PRow}{p:PRow}{t:TypeId}(i:Nat)(hp:p=PRow.nil∨p∈ps)(hL:(places L.length [i],pick L [i])=(true,[.res (Pool t ps)])):
  Src L F (.slice p.a p.xs.length p.c) (cellsOf (encI .u64) p.xs) p.xs.length:=by
 simp only [Prod.mk.injEq] at hL
 have hv:=view_part [i] hL.1 hL.2 (pv_open (t:=t) hp)
 refine src_view hv ?_
 refine src_rd (i:=(dropAt L [i]).length+1) (enc:=encI .u64) (d:=0) (sz:=1) (t:=t) (r:=p.r) ?_
 rw [List.getElem?_append_right (by omega),Nat.add_sub_cancel_left]
 rfl
/-! ### rows of structs of the frame -/
def RowE{α : Type}(F:Fr)(a:Option Addr)(enc : α→List Value)(sz:Nat)(xs:List α): Prop:=
 xs=[]∨∃b off cs t fz,a=some ⟨b,off,none⟩∧(b,Obj.cells cs t fz)∈F.f∧∀j x,xs[j]? = some x→∀i u,(enc x)[i]? = some u→cs[off+(j*sz+i)]? = some u
theorem RowE.mono{α : Type}{F F':Fr}{a:Option Addr}{enc : α→List Value}{sz:Nat}{xs:List α}(hF:∀p∈F.f,p∈F'.f)(h:RowE F a enc sz xs): RowE F' a enc sz xs:=by
 rcases h with h | ⟨b,off,cs,t,fz,h1,h2,h3⟩
 ·exact .inl h
 ·exact .inr ⟨b,off,cs,t,fz,h1,hF _ h2,h3⟩
section
variable {P:Program} {F:Fr} {Ψ : Value→List Ent→Prop} {S:List Kont→TM→List Ent→Prop} {o:Out2}
theorem xIxE{α : Type}{a:Option Addr}{enc : α→List Value}{sz:Nat}{xs:List α}(hr:RowE F a enc sz xs)(n c:Nat)(ki:IntKind)(i:Int)(hi:n≤xs.length∧0≤i∧i<(n:Int))
  (hn:OK2 P F Ψ S (o.hd.k (slAt a i.toNat sz) .n o.hd.sL o.hd.sG))
  (h:(o.hd.tag,ipO P o.hd.st o.hd.oo)=(10,some (.slice a n c,.int ki i,sz)):=by kernel_rfl) (he:o.el=o.er:=by kernel_rfl):OK2 P F Ψ S o:=by
 simp only [Prod.mk.injEq] at h
 refine⟨hd_ok o he ?_⟩
 rw [Out2.of10 _ h.1]
 refine⟨fun v L'=>v=slAt a i.toNat sz∧L'=o.hd.sL, ?_, ?_⟩
 ·have ho:=h.2
  generalize o.hd.oo=op at ho
  generalize o.hd.st=tm at ho
  unfold ipO at ho
  split at ho
  ·rename_i t x ix hop
   split at ho
   ·rename_i sz' hs
    simp only [Option.some.injEq,Prod.mk.injEq] at ho
    obtain⟨hx,hix,rfl⟩:=ho
    simp only [Option.bind_eq_some_iff] at hs
    obtain⟨e,he1,he2⟩:=hs
    intro ac w K Q hin hkk
    rcases hr with rfl | ⟨b,off,cs,t',fz,rfl,_,_⟩
    ·simp at hi; omega
    ·have hrun:(execOp tm.eval op).run P w = .ok (.value (slAt (some ⟨b,off,none⟩) i.toNat sz')) w:=by
      simp [execOp,hop,hx,hix,indexAt_run he1 he2 hi.2,slAt,slAd,jOff_eq]
     rw [hrun]
     exact hkk _ _ w ⟨rfl,rfl⟩ hin
   ·simp at ho
  ·simp at ho
 ·rintro v L' ⟨rfl,rfl⟩
  exact⟨_,_,hn.h⟩
/-- a whole element -/
theorem xLdE{α : Type}{a:Option Addr}{enc : α→List Value}{sz:Nat}{xs:List α}(hr:RowE F a enc sz xs)(hz:Sized enc sz)(j:Nat)(d : α)(hj:j<xs.length)
  (hn:OK2 P F Ψ S (o.hd.k (valOf true (enc (xs.getD j d))) .n o.hd.sL o.hd.sG))
  (h:(o.hd.tag,ldO P o.hd.st o.hd.oo)=(10,some (slAt a j sz,true,sz)):=by kernel_rfl) (he:o.el=o.er:=by kernel_rfl):OK2 P F Ψ S o:=by
 simp only [Prod.mk.injEq] at h
 refine⟨hd_ok o he ?_⟩
 rw [Out2.of10 _ h.1]
 refine⟨fun v L'=>v=valOf true (enc (xs.getD j d))∧L'=o.hd.sL, ?_, ?_⟩
 ·have ho:=h.2
  generalize o.hd.oo=op at ho
  generalize o.hd.st=tm at ho
  unfold ldO at ho
  split at ho
  ·rename_i t x hop
   split at ho
   ·rename_i ag' n' ha hs
    simp only [Option.some.injEq,Prod.mk.injEq] at ho
    obtain⟨hx,rfl,rfl⟩:=ho
    intro ac w K Q hin hkk
    rcases hr with rfl | ⟨b,off,cs,t',fz,rfl,hm,hcs⟩
    ·simp at hj
    ·have hin0:=hin
     obtain⟨f,hf,hfit,_⟩:=hin
     have hb:=hfit.2 (b,.cells cs t' fz) (by simp [hm])
     have hg:xs[j]? = some (xs.getD j d):=by rw [List.getD_eq_getElem?_getD,List.getElem?_eq_getElem hj]; rfl
     have hv:=hcs j _ hg
     have hld:(Instr.loadAt t (.pointer (some ⟨b,off+j*n',none⟩))).run P w = .ok (valOf true (enc (xs.getD j d))) w:=by
      simp only [Instr.loadAt,Instr.sureAddr,Sem.run_bind,Sem.run_pure,Result.andThen_ok]
      refine loadVar_run ha (by rw [hz]; exact hs) (.inl rfl) ?_
      intro q u hq
      have:=hv q u hq
      simp only [World.cell?,hb,Option.isSome_none,Bool.false_eq_true,if_false]
      rw [Nat.add_assoc]
      exact this
     have hrun:(execOp tm.eval op).run P w = .ok (.value (valOf true (enc (xs.getD j d)))) w:=by
      have hx':tm.eval x = .pointer (some ⟨b,off+j*n',none⟩):=by rw [hx]; simp [slAt,slAd,jOff_eq]
      simp [execOp,hop,hx',hld]
     rw [hrun]
     exact hkk _ _ w ⟨rfl,rfl⟩ hin0
   ·simp at ho
  ·simp at ho
 ·rintro v L' ⟨rfl,rfl⟩
  exact⟨_,_,hn.h⟩
/-- the rest of a row, for which the row is given up -/
theorem xCutL{α : Type}(i:Nat)(a:Option Addr)(c:Nat)(enc : α→List Value)(d : α)(sz:Nat)(xs:List α)(te:TypeId)(kl:IntKind)(n:Int)(g:Tg)(h2:0≤n∧n≤(xs.length:Int))
  (hn:OK2 P F Ψ S (o.hd.k (.slice (cutA a c n.toNat sz) (xs.drop n.toNat).length (c-n.toNat)) g (o.hd.sL.set i (.sl (cutA a c n.toNat sz) (c-n.toNat) enc d sz (xs.drop n.toNat) te)) o.hd.sG))
  (h:(o.hd.tag,cutO P o.hd.st o.hd.oo,o.hd.sL[i]?)=(10,some (.slice a xs.length c,some (.int kl n),none,sz),some (.sl a c enc d sz xs te)):=by kernel_rfl) (he:o.el=o.er:=by kernel_rfl):OK2 P F Ψ S o:=by
 simp only [Prod.mk.injEq] at h
 refine⟨hd_ok o he ?_⟩
 rw [Out2.of10 _ h.1]
 refine⟨fun v L'=>v = .slice (cutA a c n.toNat sz) (xs.drop n.toNat).length (c-n.toNat)∧L'=o.hd.sL.set i (.sl (cutA a c n.toNat sz) (c-n.toNat) enc d sz (xs.drop n.toNat) te), ?_, ?_⟩
 ·refine runs_view (fun _ _ h=>h) (R_cutV i h.2.2 kl n h2 _ h.2.1) ?_
  rintro v L' ⟨rfl,rfl⟩
  exact⟨_,view_cut i h.2.2 n.toNat (by omega),rfl,rfl⟩
 ·rintro v L' ⟨rfl,rfl⟩
  exact⟨_,_,hn.h⟩
/-- some entries are one thing, ahead of a node -/
theorem xFold(idx:List Nat)(A:List Ent)(id:Nat)(R:Res)(hv:View A [.res R])(hk:OK2 P F (Some_ Ψ) S (o.hd.withL (dropAt o.hd.sL idx++[.res R]) ⟨(o.hd.sG.drop idx).es++[(id,[])],o.hd.sG.nx⟩))(hS:SC S)
  (h:(places o.hd.sL.length idx,pick o.hd.sL idx)=(true,A):=by kernel_rfl) (he:o.el=o.er:=by kernel_rfl):OK2 P F (Some_ Ψ) S o:=by
 simp only [Prod.mk.injEq] at h
 exact xW _ _ (view_part idx h.1 h.2 hv) hk hS he
end
end Go.Sx
/- A row is made. -/
set_option linter.unusedSimpArgs false
namespace Go.Sx
def mkO(P:Program)(tm:TM)(o:Oper): Option (Value×Value×(TypeId×Nat×Nat)×Option (List Value)):=
 match o.op with
 | .makeSlice t l c=>match rowT P t with
  | none=>none
  | some r=>some (tm.eval l,tm.eval c,r,(P.info? r.1).bind (fun i=>i.zero.map (fun z=>z.cells.toList)))
 | _=>none
section
variable {P:Program} {F:Fr} {Ψ : Value→List Ent→Prop} {S:List Kont→TM→List Ent→Prop} {o:Out2}
theorem R_make{α : Type}{tm:TM}{L:List Ent}(enc : α→List Value)(d z : α)(sz:Nat)(hs:Sized enc sz)(te by':Nat)(n c:Int){kl kc:IntKind}(h0:0≤n)(hnc:n≤c)(hb:(by':Int)*c≤281474976710656)(h63:c≤9223372036854775807):
  ∀o,mkO P tm o=some (.int kl n,.int kc c,(te,sz,by'),some (enc z))→
   Runs P F o (execOp tm.eval o) L (fun v L' => ∃a' c',v = .slice a' (List.replicate n.toNat z).length c' ∧L'=L++[.sl a' c' enc d sz (List.replicate n.toNat z) te]):=by
 intro o h
 unfold mkO at h
 split at h
 ·rename_i t l c' hop
  split at h
  ·simp at h
  ·rename_i r hr
   simp only [Option.some.injEq,Prod.mk.injEq] at h
   obtain⟨hl,hc,rfl,hz⟩:=h
   obtain⟨hu,i,zv,hi,hzz,hsize,hbytes,hzs,hpos⟩:=rowT_spec hr
   have hzc:zv.cells.toList=enc z:=by simpa [hi,hzz] using hz
   intro ac w K Q hin hkk
   have hrun:=run_make w t te i zv hu hi hzz kl kc n c h0 hnc (by rw [hbytes]; exact hb) h63 (P:=P)
   have he:(execOp tm.eval o).run P w = .ok (.value (.slice (some ⟨w.heap.size,0,none⟩) n.toNat c.toNat)) (w.alloc (.cells (madeCells zv.cells (c.toNat*i.size)) te)):=by
    simp [execOp,hop,hl,hc,hrun]
   rw [he]
   refine hkk _ _ _ ⟨some ⟨w.heap.size,0,none⟩,c.toNat,by simp,rfl⟩ ?_
   obtain⟨f,hf,hfit,h1⟩:=hin.alloc (.cells (madeCells zv.cells (c.toNat*i.size)) te)
   obtain⟨f1,f2,rfl,h2,g1,g2,rfl,h3,h4⟩:=dens_append.1 hf
   cases h3; cases h4
   refine⟨_,dens_append.2 ⟨f1,_,rfl,h2,_,[],rfl,⟨hs,.inr ⟨w.heap.size,0,[],cellsOf enc (List.replicate (c.toNat-n.toNat) z),rfl,rfl, ?_, ?_, ?_, ?_⟩⟩,rfl⟩,hfit,h1⟩
   ·rw [cellsOf_length hs,←Nat.add_mul]
    simp only [List.length_replicate]
    exact Nat.mul_le_mul_right _ (by omega)
   ·simp only [List.length_replicate]; omega
   ·simp only [maxLen]; omega
   ·have e1:zv.cells=(enc z).toArray:=by rw [←hzc]
    have e2:madeCells zv.cells (c.toNat*i.size)=(cellsOf enc (List.replicate c.toNat z)).toArray:=by
     rw [e1,hsize,←cellsOf_replicate hs z hpos]
    have e3:List.replicate c.toNat z=List.replicate n.toNat z++List.replicate (c.toNat-n.toNat) z:=by
     rw [List.replicate_append_replicate]; congr 1; omega
    rw [e2,e3]
    simp only [cellsOf,List.flatMap_append,List.nil_append]
 ·simp at h
/-- a row is made -/
theorem xMk{α : Type}(enc : α→List Value)(d z : α)(sz:Nat)(hs:Sized enc sz)(te by':Nat)(n c:Int)(kl kc:IntKind)(g:Tg)(gk:Nat)(h0:0≤n∧n≤c)(hb:(by':Int)*c≤281474976710656∧c≤9223372036854775807)
  (hn:∀a' c',OK2 P F Ψ S (o.hd.k (.slice a' (List.replicate n.toNat z).length c') g (o.hd.sL++[.sl a' c' enc d sz (List.replicate n.toNat z) te]) ⟨o.hd.sG.es++[(gk,[])],o.hd.sG.nx+1⟩))
  (h:(o.hd.tag,mkO P o.hd.st o.hd.oo)=(10,some (.int kl n,.int kc c,(te,sz,by'),some (enc z))):=by kernel_rfl) (he:o.el=o.er:=by kernel_rfl):OK2 P F Ψ S o:=by
 simp only [Prod.mk.injEq] at h
 refine⟨hd_ok o he ?_⟩
 rw [Out2.of10 _ h.1]
 refine⟨_,R_make enc d z sz hs te by' n c h0.1 h0.2 hb.1 hb.2 _ h.2, ?_⟩
 rintro v L' ⟨a' ,c',rfl,rfl⟩
 exact⟨_,_,(hn a' c').h⟩
end
end Go.Sx
/- Arguments whose rows may lie in one another: they are the frame's. -/
set_option linter.unusedSimpArgs false
namespace Go.Sx
open Go.ChangeShapes Go.WideShapes Go.RowKit
section
variable {H:Type} {enc:TypeId×Value→H} {P:Program} {w:World} {base:Nat} {spare:Nat→Bool} {held:Bool}
theorem open_rd0{α : Type}{en : α→List Value}{d0 : α}{sz:Nat}(hz:Sized en sz){d:Nat}{t e:TypeId}{ks:List Kd}{v:Value}{y:DataW H}{ps:List MemPlace}(ht:P.underlying t=some (.slice e))(hf:flat P d e=some ks)(hs:P.cellsOf e=sz)(h0:0<sz)
  {Q : α→Prop} (hen:∀row,FitsAll ks row→∃x,row=en x∧Q x) (hcs:v.cells.toList=[v]) (h:DataW.Trod enc P w base (fun _=>true) held t v y ps) :
  ∃(a:Option Addr) (c:Nat) (xs:List α) (bt:TypeId) (r:Rest) (foot:Ft),v = .slice a xs.length c∧(xs.length≤c∧∀x∈xs,Q x)∧c≤maxLen∧(Ent.rd a c en d0 sz xs bt r).den foot∧Fits foot w∧foot.length≤1∧∀g,(Ent.rd a c en d0 sz xs bt r).den g→∀p∈foot,p∈g:=by
 obtain⟨fuel,hx⟩:=h
 rcases Deep.open_slice ht hx with ⟨h1,_⟩ | ⟨a,len,cap,m,n,D,Pl,h1,hb,hl,hm,hmm,_,hi⟩
 ·rw [hcs] at h1
  simp only [List.cons.injEq,and_true] at h1
  subst h1
  refine⟨none,0,[],0,⟨[],[],(0,0)⟩,[],rfl,⟨by simp,by simp⟩,by simp,⟨hz,.inl ⟨rfl,rfl,fun _=>rfl⟩⟩,⟨by simp,by simp⟩,by simp,by simp⟩
 ·rw [hcs] at h1
  simp only [List.cons.injEq,and_true] at h1
  subst h1
  simp only [if_true] at hmm
  subst hmm
  rw [hs] at hi
  by_cases h00:len=0
  ·subst h00
   exact⟨some a,m,[],0,⟨[],[],(0,0)⟩,[],rfl,⟨hl,by simp⟩,hm,⟨hz,.inl ⟨rfl,rfl,fun h=>by cases h⟩⟩,⟨by simp,by simp⟩,by simp,by simp⟩
  ·have hcell:∀i,i<len→∃cs',cs'.length=sz∧FitsAll ks cs'∧∀j,j<sz→w.cell? (a.add (i*sz+j))=cs'[j]? := by
    intro i hin
    obtain⟨cs',hc,htt⟩:=hi i (by omega)
    obtain⟨_,hcl,hat⟩:=World.cells?_some hc
    refine⟨cs',hcl,trod_flat d hf htt,fun j hj => ?_⟩
    rw [←hat j hj,Go.Deep.add_add]
   obtain⟨c0,hc0,_,hat0⟩:=hcell 0 (by omega)
   have hfirst:=hat0 0 h0
   rw [List.getElem?_eq_getElem (by omega)] at hfirst
   obtain⟨b,off,spot⟩:=a
   have hblk:∃arr bt fz,w.heap[b]? = some (.cells arr bt fz)∧spot=none:=by
    have hbb:(Addr.add ⟨b,off,spot⟩ (0*sz+0)).block=b∧(Addr.add ⟨b,off,spot⟩ (0*sz+0)).spot=spot:=by simp [Addr.add]
    unfold World.cell? at hfirst
    rw [hbb.1,hbb.2] at hfirst
    split at hfirst
    ·rename_i arr bt fz hh
     refine⟨arr,bt,fz,hh, ?_⟩
     cases spot with
     | none=>rfl
     | some _=>simp at hfirst
    ·simp at hfirst
   obtain⟨arr,bt,fz,hh,rfl⟩:=hblk
   have hget:∀i,i<len→∀j,j<sz→∃cs',cs'.length=sz∧FitsAll ks cs'∧arr.toList[off+(i*sz+j)]? = cs'[j]? := by
    intro i hin j hj
    obtain⟨cs',h1,h2,h3⟩:=hcell i hin
    have:=h3 j hj
    rw [addr_add] at this
    simp only [World.cell?,hh,Option.isSome_none,Bool.false_eq_true,if_false] at this
    exact⟨cs',h1,h2,by rw [Array.getElem?_toList]; exact this⟩
   have hsize:off+len*sz≤arr.toList.length:=by
    obtain⟨cs',h1,_,h3⟩:=hget (len-1) (by omega) (sz-1) (by omega)
    rw [List.getElem?_eq_getElem (show sz-1<cs'.length by omega)] at h3
    have:=(List.getElem?_eq_some_iff.1 h3).1
    have e:(len-1)*sz+sz=len*sz:=by
     rw [←Nat.succ_mul]; congr 1; omega
    omega
   obtain⟨xs,hxl,hxs,hxq⟩:=rows_of (en:=en) (Q:=Q) hz len ((arr.toList.drop off).take (len*sz)) (by rw [List.length_take,List.length_drop]; omega) (by
    intro i hin
    obtain⟨cs',h1,h2,h3⟩:=hcell i hin
    obtain⟨x,hx,hq⟩:=hen cs' h2
    refine⟨x, ?_,hq⟩
    rw [←hx]
    have hle:i*sz+sz≤len*sz:=by
     rw [←Nat.succ_mul]; exact Nat.mul_le_mul_right _ hin
    apply List.ext_getElem?
    intro j
    by_cases hj:j<sz
    ·have:=h3 j hj
     rw [addr_add] at this
     simp only [World.cell?,hh,Option.isSome_none,Bool.false_eq_true,if_false] at this
     rw [List.getElem?_take_of_lt hj,List.getElem?_drop,List.getElem?_take_of_lt (by omega),List.getElem?_drop,Array.getElem?_toList,this]
    ·rw [List.getElem?_eq_none (by rw [List.length_take]; omega),List.getElem?_eq_none (by omega)])
   have hsplit:arr.toList=arr.toList.take off++cellsOf en xs++arr.toList.drop (off+len*sz):=by
    rw [hxs,List.append_assoc]
    rw [←List.drop_drop,List.take_append_drop,List.take_append_drop]
   have harr:(arr.toList.take off++cellsOf en xs++arr.toList.drop (off+len*sz)).toArray=arr:=by rw [←hsplit]
   refine⟨some ⟨b,off,none⟩,m,xs,bt,⟨arr.toList.take off,arr.toList.drop (off+len*sz),fz⟩,[(b,.cells arr bt fz)],by rw [hxl],⟨by omega,hxq⟩,hm, ?_, ?_,by simp, ?_⟩
   ·refine⟨hz,.inr ⟨b,off,rfl,by simp only [List.length_take]; omega,by omega, ?_⟩⟩
    simp only [harr]
   ·refine⟨by simp, ?_⟩
    intro p hp
    simp only [List.mem_singleton] at hp
    subst hp; exact hh
   ·rintro g ⟨_,⟨hxn,_⟩ | ⟨b',off',he,_,_,rfl⟩⟩ p hp
    ·exfalso
     rw [hxn] at hxl
     simp at hxl; omega
    ·simp only [Option.some.injEq,Addr.mk.injEq,and_true] at he
     obtain⟨rfl,rfl⟩:=he
     simp only [harr]
     exact hp
/-- a row of numbers that a memory has -/
def RowW(w:World)(a:Option Addr)(k:IntKind)(xs:List Int): Prop:=
 xs=[]∨∃b off cs t fz,a=some ⟨b,off,none⟩∧w.heap[b]? = some (Obj.cells cs t fz)∧∀j x,xs[j]? = some x→cs[off+j]? = some (.int k x)
theorem enI_of(k:IntKind)(row:List Value)(h:FitsAll [.int k] row): ∃x,row=encI k x∧True:=by
 match row,h with
 | [v],⟨⟨n,hn,_⟩,_⟩=>exact⟨n,by rw [hn]; rfl,trivial⟩
theorem cells_map(k:IntKind): ∀xs:List Int,cellsOf (encI k) xs=xs.map (fun z=>Value.int k z)
 | []=>rfl
 | z :: zs=>by
  show encI k z++cellsOf (encI k) zs = _
  rw [cells_map k zs]; rfl
theorem cells_slice{v:Value}{a:Option Addr}{n c:Nat}(h:v = .slice a n c): v.cells.toList=[v]:=by subst h; rfl
theorem open_rowW{t e:TypeId}{k:IntKind}{v:Value}{fuel:Nat}{x:DataW H×List MemPlace}(ht:P.underlying t=some (.slice e))(hf:flat P 5 e=some [.int k])(hs:P.cellsOf e=1)
  (h:DataW.trod enc P w base (fun _=>true) held fuel t [v]=some x):∃(a:Option Addr) (c:Nat) (xs:List Int),v = .slice a xs.length c∧xs.length≤maxLen∧RowW w a k xs:=by
 have hv:∃a n c,v = .slice a n c:=by
  rcases Deep.open_slice ht h with ⟨h1,_⟩ | ⟨a,len,cap,m,n,D,Pl,h1,_⟩
  ·simp only [List.cons.injEq,and_true] at h1
   exact⟨_,_,_,h1⟩
  ·simp only [List.cons.injEq,and_true] at h1
   exact⟨_,_,_,h1⟩
 obtain⟨a0,n0,c0,hv⟩:=hv
 have hcs:=cells_slice hv
 obtain⟨a,c,xs,bt,r,foot,h1,h2,h3,h4,h5,_,_⟩:=open_rd0 (d0:=(0:Int)) (sizedI k) ht hf hs (by decide) (enI_of k) hcs (y:=x.1) (ps:=x.2) ⟨fuel,by rw [hcs]; exact h⟩
 refine⟨a,c,xs,h1,Nat.le_trans h2.1 h3, ?_⟩
 rcases h4.2 with ⟨h6,_⟩ | ⟨b,off,h6,h7,h8,h9⟩
 ·exact .inl h6
 ·refine .inr ⟨b,off,_,bt,r.fz,h6,h5.2 (b,_) (by rw [h9]; exact List.mem_singleton.2 rfl), ?_⟩
  intro j y hy
  have hl:j<xs.length:=(List.getElem?_eq_some_iff.1 hy).1
  have hc:(cellsOf (encI k) xs)[j]? = some (.int k y):=by
   rw [cells_map,List.getElem?_map,hy]; rfl
  have hl2:j<(cellsOf (encI k) xs).length:=(List.getElem?_eq_some_iff.1 hc).1
  rw [List.getElem?_toArray,List.append_assoc,List.getElem?_append_right (by omega),←h7,Nat.add_sub_cancel_left,List.getElem?_append_left hl2]
  exact hc
end
/-- all of a memory, as a frame -/
def allF(w:World): Fr:={f:=others w [],os:=w.os,tape:=w.tape,output:=w.output}
theorem RowW.frame{w:World}{a:Option Addr}{k:IntKind}{xs:List Int}(h:RowW w a k xs): RowF (allF w) a k xs:=by
 rcases h with h | ⟨b,off,cs,t,fz,h1,h2,h3⟩
 ·exact .inl h
 ·refine .inr ⟨b,off,cs,t,fz,h1, ?_,h3⟩
  exact mem_others.2 ⟨(Array.getElem?_eq_some_iff.1 h2).1,by simp,h2⟩
theorem law_callsF{P:Program}{f:FuncId}{args:Array Value}{v:Value}{W:World}(hS:∀w,In [] (allF W) w→Calls P f args w fun e w'=>e = .returned v∧∃L',In L' (allF W) w'): Calls P f args W fun e W'=>e = .returned v∧Below W.heap.size W W':=by
 have hall:Fits ([]++others W []) W:=by
  refine⟨?_, ?_⟩
  ·rw [List.nil_append,others_ids]
   exact List.nodup_range.filter _
  ·intro p hp
   exact(mem_others.1 (by simpa using hp)).2.2
 refine(hS W ⟨[],rfl,hall,rfl,rfl,rfl⟩).mono ?_
 rintro e W' ⟨rfl,L',hin⟩
 obtain⟨g,hg,hfit',h1,h2,h3⟩:=hin
 refine⟨rfl, ?_⟩
 have hblock:∀k,k<W.heap.size→W'.heap[k]? = W.heap[k]? := by
  intro k hk
  have ho:W.heap[k]? = some W.heap[k]:=by simp [hk]
  rw [ho]
  exact hfit'.2 (k,W.heap[k]) (List.mem_append_right _ (mem_others.2 ⟨hk,by simp,ho⟩))
 refine⟨h1,h2,h3, ?_,hblock⟩
 by_cases h0:W.heap.size=0
 ·omega
 ·have:=hblock (W.heap.size-1) (by omega)
  rw [show W.heap[W.heap.size-1]? = some (W.heap[W.heap.size-1]'(by omega)) by simp] at this
  have:=(Array.getElem?_eq_some_iff.1 this).1
  omega
end Go.Sx

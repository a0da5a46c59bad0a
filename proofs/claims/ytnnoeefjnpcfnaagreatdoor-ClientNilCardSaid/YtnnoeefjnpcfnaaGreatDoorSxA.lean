/- Footprints, an executor over the program and its soundness, and the rules for calls, loops and regions: no program in sight, part 1 of those on which ClientNil rests. -/
import Derived.WalkKit
import Derived.KernelRfl
import Derived.Deep.LoopGhost
import Derived.Scope
import Derived.Lib.AppendZeros

set_option linter.unusedVariables false
set_option linter.unusedSimpArgs false
/- Footprints: which blocks of the memory a list of entries owns, beside a frame that nobody touches; and what allocating, reading and writing do to it. -/
namespace Go.Sx
abbrev Ft:= List (Nat×Obj)
abbrev Res:= Ft→Prop
/-- the frame: blocks that stay as they are, and the world beside the heap -/
structure Fr where
 f:Ft
 os:Os
 tape:Nat→Question→Nat
 output:Array (Nat×ByteArray)
def Fits(f:Ft)(w:World): Prop:=(f.map (·.1)).Nodup∧∀p∈f,w.heap[p.1]? = some p.2
/-- what lies about a row in its block, and which cells may not be written -/
structure Rest where
 pre:List Value
 post:List Value
 fz:Nat×Nat
inductive Ent:Type 1
 | pts (b:Nat) (cs:List Value) (t:TypeId)
 | arr {α : Type} (b:Nat) (enc : α→List Value) (d : α) (sz:Nat) (xs:List α) (t:TypeId)
 | sl {α : Type} (a:Option Addr) (c:Nat) (enc : α→List Value) (d : α) (sz:Nat) (xs:List α) (t:TypeId)
 | rd {α : Type} (a:Option Addr) (c:Nat) (enc : α→List Value) (d : α) (sz:Nat) (xs:List α) (t:TypeId) (r:Rest)
 | raw (b:Nat) (o:Obj)
 | res (R:Res)
/-- the cells of a row of elements -/
def cellsOf{α : Type}(enc : α→List Value)(xs:List α): List Value:=xs.flatMap enc
/-- each element has so many cells -/
def Sized{α : Type}(enc : α→List Value)(sz:Nat): Prop := ∀x,(enc x).length=sz
def Ent.den: Ent→Res
 | .pts b cs t,f=>f=[(b,.cells cs.toArray t (0,0))]
 | .arr b enc _ sz xs t,f=>Sized enc sz∧f=[(b,.cells (cellsOf enc xs).toArray t (0,0))]
 | .sl a c enc _ sz xs t,f=>Sized enc sz∧((a=none∧c=0∧xs=[]∧f=[])∨
   ∃b off pre post,a=some ⟨b,off,none⟩∧pre.length=off∧c*sz≤xs.length*sz+post.length∧xs.length≤c∧c≤maxLen∧
    f=[(b,.cells (pre++cellsOf enc xs++post).toArray t (0,0))])
 | .rd a c enc _ sz xs t r,f=>Sized enc sz∧((xs=[]∧f=[]∧(a=none→c=0))∨
   ∃b off,a=some ⟨b,off,none⟩∧r.pre.length=off∧xs.length≤c∧
    f=[(b,.cells (r.pre++cellsOf enc xs++r.post).toArray t r.fz)])
 | .raw b o,f=>f=[(b,o)]
 | .res R,f=>R f
def dens: List Ent→Ft→Prop
 | [],f=>f=[]
 | e :: L,f => ∃f1 f2,f=f1++f2∧e.den f1∧dens L f2
/-- the memory holds these entries beside the frame -/
def In(L:List Ent)(F:Fr)(w:World): Prop:=
 ∃f,dens L f∧Fits (f++F.f) w∧w.os=F.os∧w.tape=F.tape∧w.output=F.output
theorem Fits.perm{f g:Ft}{w:World}(h:f.Perm g)(hf:Fits f w): Fits g w:=
 ⟨((h.map _).nodup_iff).1 hf.1,fun p hp=>hf.2 p (h.mem_iff.2 hp)⟩
theorem Fits.right{f g:Ft}{w:World}(hf:Fits (f++g) w): Fits g w:=
 ⟨(List.nodup_append.1 (by simpa using hf.1)).2.1,fun p hp=>hf.2 p (List.mem_append_right _ hp)⟩
theorem Fits.lt{f:Ft}{w:World}(hf:Fits f w){p:Nat×Obj}(hp:p∈f): p.1<w.heap.size:=
 (Array.getElem?_eq_some_iff.1 (hf.2 p hp)).1
theorem dens_append: ∀ {L M:List Ent} {f:Ft},dens (L++M) f↔∃f1 f2,f=f1++f2∧dens L f1∧dens M f2
 | [],M,f=>⟨fun h=>⟨[],f,rfl,rfl,h⟩,fun⟨f1,f2,e,h1,h2⟩=>by subst e; cases h1; exact h2⟩
 | x :: L,M,f=>by
  constructor
  ·rintro⟨f1,f2,rfl,h1,h2⟩
   obtain⟨g1,g2,rfl,h3,h4⟩:=dens_append.1 h2
   exact⟨f1++g1,g2,by simp,⟨f1,g1,rfl,h1,h3⟩,h4⟩
  ·rintro⟨f1,f2,rfl,⟨g1,g2,rfl,h1,h2⟩,h3⟩
   exact⟨g1,g2++f2,by simp,h1,dens_append.2 ⟨g2,f2,rfl,h2,h3⟩⟩
/-- entries may stand in another order: the footprints too -/
theorem dens_perm{L M:List Ent}(h:L.Perm M): ∀ {f:Ft},dens L f→∃g,dens M g∧f.Perm g:=by
 induction h with
 | nil=>exact fun h=>⟨_,h,.refl _⟩
 | cons x _ ih=>
  rintro f ⟨f1,f2,rfl,h1,h2⟩
  obtain⟨g,hg,hp⟩:=ih h2
  exact⟨f1++g,⟨f1,g,rfl,h1,hg⟩,hp.append_left _⟩
 | swap x y L=>
  rintro f ⟨f1,f2,rfl,h1,g1,g2,rfl,h2,h3⟩
  refine⟨g1++(f1++g2),⟨g1,_,rfl,h2,f1,g2,rfl,h1,h3⟩, ?_⟩
  rw [←List.append_assoc,←List.append_assoc]
  exact(List.perm_append_comm).append_right _
 | trans _ _ ih1 ih2=>
  intro f h
  obtain⟨g,hg,hp⟩:=ih1 h
  obtain⟨g',hg',hp'⟩:=ih2 hg
  exact⟨g',hg',hp.trans hp'⟩
theorem In.perm{L M:List Ent}{F:Fr}{w:World}(hp:L.Perm M)(h:In L F w): In M F w:=by
 obtain⟨f,hf,hfit,h1⟩:=h
 obtain⟨g,hg,hpg⟩:=dens_perm hp hf
 exact⟨g,hg,hfit.perm (hpg.append_right _),h1⟩
/-- what follows the first entries may be forgotten -/
theorem In.left{L M:List Ent}{F:Fr}{w:World}(h:In (L++M) F w): In L F w:=by
 obtain⟨f,hf,hfit,h1⟩:=h
 obtain⟨f1,f2,rfl,h2,h3⟩:=dens_append.1 hf
 refine⟨f1,h2, ?_,h1⟩
 have hp:(f1++f2++F.f).Perm (f2++(f1++F.f)):=by
  rw [List.append_assoc]
  exact(List.perm_append_comm_assoc f1 f2 F.f)
 exact(hfit.perm hp).right
/-- what follows the first entries may be taken for a part of the frame, whatever becomes of the first ones -/
theorem In.frame{L M:List Ent}{F:Fr}{w:World}(h:In (L++M) F w):
  ∃F':Fr,In L F' w∧∀L' w',In L' F' w'→In (M++L') F w':=by
 obtain⟨f,hf,hfit,h1,h2,h3⟩:=h
 obtain⟨f1,f2,rfl,h4,h5⟩:=dens_append.1 hf
 refine⟨{F with f:=f2++F.f},⟨f1,h4,by simpa using hfit,h1,h2,h3⟩, ?_⟩
 rintro L' w' ⟨g,hg,hfit',h6⟩
 refine⟨f2++g,dens_append.2 ⟨f2,g,rfl,h5,hg⟩, ?_,h6⟩
 refine hfit'.perm ?_
 show(g++(f2++F.f)).Perm (f2++g++F.f)
 rw [List.append_assoc]
 exact List.perm_append_comm_assoc g f2 F.f
/-! taking entries by their places -/
def pick(L:List Ent)(idx:List Nat): List Ent:=idx.filterMap (L[·]?)
def dropAt(L:List Ent)(idx:List Nat): List Ent:=((List.range L.length).filter (fun i => !idx.contains i)).filterMap (L[·]?)
theorem filterMap_some{α β : Type _}{f : α→Option β}{g : α→β}: ∀ {l:List α},(∀x∈l,f x=some (g x))→l.filterMap f=l.map g
 | [],_=>rfl
 | x :: l,h=>by
  rw [List.filterMap_cons_some (h x (List.mem_cons_self ..)),List.map_cons,filterMap_some fun y hy=>h y (List.mem_cons_of_mem _ hy)]
theorem pick_range(L:List Ent): pick L (List.range L.length)=L:=by
 unfold pick
 rw [filterMap_some (g:=fun i=>L.getD i (.raw 0 default))]
 ·apply List.ext_getElem?
  intro i
  by_cases hi:i<L.length
  ·simp [hi]
  ·simp [hi]
 ·intro x hx
  have:x<L.length:=by simpa using hx
  simp [this]
theorem pick_append(L:List Ent)(i j:List Nat): pick L (i++j)=pick L i++pick L j:=by simp [pick]
theorem pick_perm(L:List Ent){i j:List Nat}(h:i.Perm j): (pick L i).Perm (pick L j):=h.filterMap _
/-- distinct places -/
def places(n:Nat)(idx:List Nat): Bool:=idx.all (· < n)&&decide idx.Nodup
theorem pick_drop_perm(L:List Ent)(idx:List Nat)(h:places L.length idx=true): L.Perm (pick L idx++dropAt L idx):=by
 simp only [places,Bool.and_eq_true,List.all_eq_true,decide_eq_true_eq] at h
 obtain⟨h1,h2⟩:=h
 have hp:(List.range L.length).Perm (idx++(List.range L.length).filter (fun i => !idx.contains i)):=by
  rw [List.perm_ext_iff_of_nodup List.nodup_range]
  ·intro a
   simp only [List.mem_range,List.mem_append,List.mem_filter,Bool.not_eq_true',List.contains_eq_mem,decide_eq_false_iff_not]
   constructor
   ·intro ha
    by_cases hm:a∈idx
    ·exact .inl hm
    ·exact .inr ⟨ha,hm⟩
   ·rintro(ha | ha)
    ·exact h1 a ha
    ·exact ha.1
  ·rw [List.nodup_append]
   refine⟨h2,List.nodup_range.filter _, ?_⟩
   intro a ha b hb hab
   subst hab
   simp only [List.mem_filter,Bool.not_eq_true',List.contains_eq_mem,decide_eq_false_iff_not] at hb
   exact hb.2 ha
 have:=pick_perm L hp
 rw [pick_range,pick_append] at this
 exact this
theorem In.pick{L:List Ent}{F:Fr}{w:World}(idx:List Nat)(hi:places L.length idx=true)(h:In L F w): In (pick L idx) F w:=
 (h.perm (pick_drop_perm L idx hi)).left
theorem In.take{L:List Ent}{F:Fr}{w:World}(idx:List Nat)(hi:places L.length idx=true)(h:In L F w):
  ∃F':Fr,In (Sx.pick L idx) F' w∧∀L' w',In L' F' w'→In (dropAt L idx++L') F w':=
 (h.perm (pick_drop_perm L idx hi)).frame
/-! ### what operations do -/
theorem In.size{L:List Ent}{F:Fr}{w:World}(h:In L F w): ∀p∈F.f,p.1<w.heap.size:=by
 obtain⟨f,_,hfit,_⟩:=h
 exact fun p hp=>hfit.lt (List.mem_append_right _ hp)
/-- a new block -/
theorem In.alloc{L:List Ent}{F:Fr}{w:World}(h:In L F w)(o:Obj): In (L++[.raw w.heap.size o]) F {w with heap:=w.heap.push o}:=by
 obtain⟨f,hf,hfit,h1⟩:=h
 refine⟨f++[(w.heap.size,o)],dens_append.2 ⟨f,_,rfl,hf,_,[],(List.append_nil _).symm,rfl,rfl⟩, ?_,h1⟩
 have hp:((w.heap.size,o) :: (f++F.f)).Perm (f++[(w.heap.size,o)]++F.f):=by
  rw [List.append_assoc]
  exact(List.perm_middle (l₁ := f) (l₂ := F.f) (a:=(w.heap.size,o))).symm
 refine Fits.perm hp ⟨?_, ?_⟩
 ·simp only [List.map_cons,List.nodup_cons]
  refine⟨?_,hfit.1⟩
  intro hm
  obtain⟨p,hp,he⟩:=List.mem_map.1 hm
  have:=hfit.lt hp
  omega
 ·intro p hp
  rcases List.mem_cons.1 hp with rfl | hp
  ·simp
  ·have:=hfit.lt hp
   have hx:=hfit.2 p hp
   simp only [Array.getElem?_push]
   rw [if_neg (by omega)]
   exact hx
/-- one block of an entry is turned: the others stay -/
theorem Fits.turn{f1 f2:Ft}{b:Nat}{o o':Obj}{w w':World}(h:Fits (f1++(b,o) :: f2) w)
  (hb:w'.heap[b]? = some o') (ho:∀k,k≠b→w'.heap[k]? = w.heap[k]?):Fits (f1++(b,o') :: f2) w':=by
 obtain⟨h1,h2⟩:=h
 refine⟨by simpa using h1,fun p hp => ?_⟩
 have hnd:∀p∈f1++f2,p.1≠b:=by
  have hp:(f1++(b,o) :: f2).Perm ((b,o) :: (f1++f2)):=List.perm_middle
  have:=(hp.map (·.1)).nodup_iff.1 h1
  simp only [List.map_cons,List.nodup_cons] at this
  intro p hp he
  exact this.1 (he▸List.mem_map_of_mem hp)
 have hmem:p=(b,o')∨p∈f1++f2:=by
  simp only [List.mem_append,List.mem_cons] at hp ⊢
  rcases hp with h | h | h
  ·exact .inr (.inl h)
  ·exact .inl h
  ·exact .inr (.inr h)
 rcases hmem with rfl | hp'
 ·exact hb
 ·rw [ho _ (hnd p hp')]
  refine h2 p ?_
  simp only [List.mem_append,List.mem_cons] at hp' ⊢
  rcases hp' with h | h
  ·exact .inl h
  ·exact .inr (.inr h)
theorem dens_get{L:List Ent}{i:Nat}{e:Ent}(hi:L[i]? = some e): ∀ {f:Ft},dens L f→
  ∃f1 g f2,f=f1++g++f2∧e.den g∧∀e' g' ,e'.den g'→dens (L.set i e') (f1++g'++f2):=by
 induction L generalizing i with
 | nil=>simp at hi
 | cons x L ih=>
  rintro f ⟨f1,f2,rfl,h1,h2⟩
  cases i with
  | zero=>
   simp only [List.getElem?_cons_zero,Option.some.injEq] at hi
   subst hi
   exact⟨[],f1,f2,by simp,h1,fun e' g' hg=>⟨g',f2,by simp,hg,h2⟩⟩
  | succ i=>
   simp only [List.getElem?_cons_succ] at hi
   obtain⟨g1,g,g2,rfl,h3,h4⟩:=ih hi h2
   exact⟨f1++g1,g,g2,by simp,h3,fun e' g' hg=>⟨f1,g1++g'++g2,by simp,h1,h4 e' g' hg⟩⟩
/-- an entry of one block: the block; and what becomes of the entries if it is turned -/
theorem In.one{L:List Ent}{F:Fr}{w:World}{i:Nat}{e:Ent}{b:Nat}{o:Obj}(h:In L F w)(hi:L[i]? = some e)(he:∀g,e.den g→g=[(b,o)]):
  w.heap[b]? = some o∧∀(o':Obj) (e':Ent) (w':World),e'.den [(b,o')]→w'.heap[b]? = some o'→(∀k,k≠b→w'.heap[k]? = w.heap[k]?)→
   w'.os=w.os→w'.tape=w.tape→w'.output=w.output→In (L.set i e') F w':=by
 obtain⟨f,hf,hfit,h1,h2,h3⟩:=h
 obtain⟨f1,g,f2,rfl,hg,hset⟩:=dens_get hi hf
 obtain rfl:=he g hg
 refine⟨hfit.2 (b,o) (by simp),fun o' e' w' hd hb hk h4 h5 h6=>⟨f1++[(b,o')]++f2,hset e' _ hd, ?_,h4.trans h1,h5.trans h2,h6.trans h3⟩⟩
 have:Fits (f1++(b,o) :: (f2++F.f)) w:=by simpa using hfit
 have:=Fits.turn this hb hk
 simpa using this
theorem In.drew{L:List Ent}{F:Fr}{w:World}(h:In L F w): In L F {w with drawn:=w.drawn+1}:=h
end Go.Sx
/- The executor: a function that runs a body's code over known temporaries and owned entries, and the theorem that what it comes to is what the program does. -/
namespace Go.Sx
/-! ### known temporaries -/
abbrev TM:= List (Nat×Value)
def TM.get: TM→Nat→Option Value
 | [],_=>none
 | (k,v) :: r,t=>bif Nat.beq k t then some v else TM.get r t
structure TRep (nt:Nat) (tm:TM) (a:Act):Prop where
 size:a.tmps.size=nt
 get:∀t v,tm.get t=some v→a.tmps[t]? = some v
 defers:a.defers=[]
def TM.eval(tm:TM): Operand→Value
 | .tmp t=>(tm.get t).getD undef
 | .const v=>v
 | .global g=>.pointer (some ⟨g,0,none⟩)
 | .func f=>.func (.func f) #[] #[]
def TM.knows(tm:TM): Operand→Bool
 | .tmp t=>(tm.get t).isSome
 | _=>true
def TM.restrict(tm:TM): List Nat→TM
 | []=>[]
 | t :: ts=>match tm.get t with
  | some v=>(t,v) :: TM.restrict tm ts
  | none=>TM.restrict tm ts
theorem TM.get_cons(k:Nat)(v:Value)(r:TM)(t:Nat): TM.get ((k,v) :: r) t=if k=t then some v else TM.get r t:=by
 simp only [TM.get]
 by_cases h:k=t
 ·subst h; simp
 ·have:Nat.beq k t=false:=by simpa [←Nat.beq_eq] using h
  simp [this,h]
theorem TM.restrict_get(tm:TM): ∀(ts:List Nat) (t:Nat) (v:Value),(tm.restrict ts).get t=some v→tm.get t=some v
 | [],_,_,h=>by simp [TM.restrict,TM.get] at h
 | u :: ts,t,v,h=>by
  unfold TM.restrict at h
  split at h
  ·rename_i x hx
   rw [TM.get_cons] at h
   split at h
   ·rename_i he; subst he; rw [hx]; exact h
   ·exact TM.restrict_get tm ts t v h
  ·exact TM.restrict_get tm ts t v h
section
variable {nt:Nat} {tm:TM} {a:Act}
theorem TRep.weak{tm':TM}(h:TRep nt tm a)(hs:∀t v,tm'.get t=some v→tm.get t=some v): TRep nt tm' a:=
 ⟨h.size,fun t v hv=>h.get t v (hs t v hv),h.defers⟩
theorem TRep.restrict(h:TRep nt tm a)(ts:List Nat): TRep nt (tm.restrict ts) a:=h.weak (TM.restrict_get tm ts)
theorem TRep.eval(h:TRep nt tm a){x:Operand}(hx:tm.knows x=true): a.eval x=tm.eval x:=by
 cases x with
 | tmp t=>
  simp only [TM.knows,Option.isSome_iff_exists] at hx
  obtain⟨v,hv⟩:=hx
  have:=h.get t v hv
  simp [Act.eval,TM.eval,hv,this]
 | _=>rfl
theorem TRep.put(h:TRep nt tm a){d:Nat}(hd:d<nt)(v:Value): TRep nt ((d,v) :: tm) (a.put (some d) v):=by
 refine⟨by simp [Act.put,h.size],fun t u hu => ?_,h.defers⟩
 rw [TM.get_cons] at hu
 simp only [Act.put]
 split at hu
 ·rename_i he; subst he
  simp only [Option.some.injEq] at hu; subst hu
  simp [h.size,hd]
 ·rename_i he
  rw [Array.getElem?_setIfInBounds_ne he]
  exact h.get t u hu
end
/-! ### what an operation comes to -/
inductive SOut (α : Type):Type 1
 | ok (v : α) (L:List Ent)
 | new (k:Nat→SOut α)
 | newV (k:Option Addr→Nat→SOut α)
 | obl (p:Prop) (o:SOut α)
 | ex {β : Type} (k : β→SOut α)
 | bad
def SOut.sat{α : Type}(Φ : α→List Ent→Prop): SOut α→Prop
 | .ok v L => Φ v L
 | .new k => ∀b,(k b).sat Φ
 | .newV k => ∀a c,(k a c).sat Φ
 | .obl p o=>p∧o.sat Φ
 | .ex k => ∃x,(k x).sat Φ
 | .bad=>False
def SOut.bind{α β : Type}: SOut α→(α→List Ent→SOut β)→SOut β
 | .ok v L,f=>f v L
 | .new k,f=>.new fun b=>(k b).bind f
 | .newV k,f=>.newV fun a c=>(k a c).bind f
 | .obl p o,f=>.obl p (o.bind f)
 | .ex k,f=>.ex fun x=>(k x).bind f
 | .bad,_=>.bad
theorem SOut.sat_bind{α β : Type}(Φ : β→List Ent→Prop)(f : α→List Ent→SOut β): ∀(o:SOut α),(o.bind f).sat Φ = o.sat (fun v L=>(f v L).sat Φ)
 | .ok _ _=>rfl
 | .new k=>by simp only [SOut.bind,SOut.sat,fun b=>SOut.sat_bind Φ f (k b)]
 | .newV k=>by simp only [SOut.bind,SOut.sat,fun a c=>SOut.sat_bind Φ f (k a c)]
 | .obl p o=>by simp only [SOut.bind,SOut.sat,SOut.sat_bind Φ f o]
 | .ex k=>by simp only [SOut.bind,SOut.sat,fun x=>SOut.sat_bind Φ f (k x)]
 | .bad=>rfl
/-- a block's entry -/
def entOf(b:Nat): Obj→Ent
 | .cells c t (0,0)=>.pts b c.toList t
 | o=>.raw b o
theorem entOf_den(b:Nat)(o:Obj): (entOf b o).den [(b,o)]:=by
 unfold entOf
 split <;> simp [Ent.den]
theorem In.allocE{L:List Ent}{F:Fr}{w:World}(h:In L F w)(o:Obj): In (L++[entOf w.heap.size o]) F {w with heap:=w.heap.push o}:=by
 obtain⟨f,hf,hfit,h1⟩:=h.alloc o
 obtain⟨f1,f2,rfl,h2,g1,g2,rfl,h3,h4⟩:=dens_append.1 hf
 cases h3; cases h4
 exact⟨_,dens_append.2 ⟨f1,_,rfl,h2,_,[],rfl,entOf_den _ _,rfl⟩,hfit,h1⟩
/-- a computation that looks at the program's tables alone, and makes blocks -/
def sev{α : Type}(P:Program): List Ent→Sem α→SOut α
 | L,.pure a=>.ok a L
 | L,.program k=>sev P L (k P)
 | L,.mark _ k=>sev P L k
 | L,.new o k=>.new fun b=>sev P (L++[entOf b o]) (k b)
 | _,_=>.bad
theorem sev_sound{α : Type}{P:Program}{F:Fr}{Φ : α→List Ent→Prop}: ∀(s:Sem α) {L:List Ent} {w:World},(sev P L s).sat Φ→In L F w→
  ∃v w' L',s.run P w = .ok v w'∧In L' F w'∧Φ v L'
 | .pure a,L,w,h,hi=>⟨a,w,L,rfl,hi,h⟩
 | .program k,_,_,h,hi=>sev_sound (k P) h hi
 | .mark _ k,_,_,h,hi=>sev_sound k h hi
 | .new o k,_,w,h,hi=>sev_sound (k w.heap.size) (h _) (hi.allocE o)
 | .load ..,_,_,h,_=>h.elim
 | .store ..,_,_,h,_=>h.elim
 | .shape ..,_,_,h,_=>h.elim
 | .freeze ..,_,_,h,_=>h.elim
 | .frozen ..,_,_,h,_=>h.elim
 | .getObj ..,_,_,h,_=>h.elim
 | .setObj ..,_,_,h,_=>h.elim
 | .choose ..,_,_,h,_=>h.elim
 | .sys ..,_,_,h,_=>h.elim
 | .halt ..,_,_,h,_=>h.elim
/-! ### memory -/
def jOff(j:Nat): Nat→Nat
 | 1=>j
 | sz=>j*sz
theorem jOff_eq(j sz:Nat): jOff j sz=j*sz:=by unfold jOff; split <;> simp
/-- the address of an element of a slice -/
def slAd(a:Option Addr)(j sz:Nat): Addr:=
 match a with
 | some ad=>⟨ad.block,ad.off+jOff j sz,none⟩
 | none=>⟨0,0,none⟩
def slAt(a:Option Addr)(j sz:Nat): Value:=.pointer (some (slAd a j sz))
/-- is it a type of several cells? -/
def aggT(P:Program)(t:TypeId): Option Bool:=
 match P.underlying t with
 | some (.struct _)=>some true
 | some (.array _ _)=>some true
 | some _=>some false
 | none=>none
def sizeT(P:Program)(t:TypeId): Option Nat:=(P.info? t).map (·.size)
theorem aggT_run{P:Program}{t:TypeId}{b:Bool}(h:aggT P t=some b)(w:World): (isAgg t).run P w = .ok b w:=by
 unfold aggT at h
 unfold isAgg
 split at h
 ·rename_i hu; simp [run_underlying hu]; simpa using h
 ·rename_i hu; simp [run_underlying hu]; simpa using h
 ·rename_i d h1 h2 hu
  simp [run_underlying hu]
  simp only [Option.some.injEq] at h
  subst h
  first | rfl | (split <;> first | rfl | (rename_i x; exact absurd rfl (h1 x)) | (rename_i x y; exact absurd rfl (h2 x y)))
 ·simp at h
theorem sizeT_run{P:Program}{t:TypeId}{n:Nat}(h:sizeT P t=some n)(w:World): (sizeOf t).run P w = .ok n w:=by
 unfold sizeT at h
 cases hi:P.info? t with
 | none=>simp [hi] at h
 | some i=>
  rw [hi] at h
  simp only [Option.map_some,Option.some.injEq] at h
  rw [run_sizeOf w hi]
  simp [Program.cellsOf,hi,h]
def splice(cs:List Value)(off:Nat)(vs:List Value): List Value:=cs.take off++vs++cs.drop (off+vs.length)
/-- the value of a type out of cells -/
def valOf(agg:Bool)(cs:List Value): Value:=match agg with | true=>.agg cs.toArray | false=>cs.headD undef
/-- reading a variable of a block that is told cell by cell -/
def ldE(P:Program)(t:TypeId)(av:Value)(L:List Ent)(i:Nat): SOut Value:=
 match L[i]?,av,aggT P t,sizeT P t with
 | some (.pts b cs _),.pointer (some ⟨b',off,none⟩),some ag,some n=>
  bif Nat.ble (off+n) cs.length&&(ag||Nat.beq n 1) then .obl (b'=b) (.ok (valOf ag ((cs.drop off).take n)) L) else .bad
 | _,_,_,_=>.bad
theorem loadVar_run{P:Program}{t:TypeId}{ag:Bool}{b off:Nat}{vs:List Value}{w:World}(ha:aggT P t=some ag)(hs:sizeT P t=some vs.length)
  (h1:ag=true∨vs.length=1) (hc:∀j v,vs[j]? = some v→w.cell? ⟨b,off+j,none⟩=some v) :
  (loadVar t ⟨b,off,none⟩).run P w = .ok (valOf ag vs) w:=by
 have hadd:∀j,(⟨b,off,none⟩:Addr).add j=⟨b,off+j,none⟩:=by
  intro j; unfold Addr.add; split <;> simp_all
 unfold loadVar
 simp only [Sem.run_bind,aggT_run ha,Result.andThen_ok]
 cases ag with
 | true=>
  simp only [if_true,Sem.run_bind,sizeT_run hs,Result.andThen_ok]
  rw [run_loadCells_list (P:=P) (w:=w) ⟨b,off,none⟩ vs (fun j v hv=>by rw [hadd]; exact hc j v hv)]
  simp [valOf]
 | false=>
  have hl:vs.length=1:=by simpa using h1
  match vs,hl with
  | [v],_=>
   have:=hc 0 v rfl
   simp only [Nat.add_zero] at this
   simp [valOf,load,Sem.run,this]
theorem ldE_sound{P:Program}{F:Fr}{t:TypeId}{av:Value}{L:List Ent}{i:Nat}{Φ : Value→List Ent→Prop}{w:World}
  (h:(ldE P t av L i).sat Φ) (hi:In L F w):∃v,(Instr.loadAt t av).run P w = .ok v w∧Φ v L:=by
 unfold ldE at h
 split at h
 ·rename_i b cs ty b' off ag n hL ha hs
  cases hc:(Nat.ble (off+n) cs.length&&(ag||Nat.beq n 1)) with
  | false=>rw [hc] at h; exact h.elim
  | true=>
   rw [hc] at h
   obtain⟨rfl,hΦ⟩:=h
   simp only [Bool.and_eq_true,Bool.or_eq_true,Nat.ble_eq,Nat.beq_eq] at hc
   obtain⟨hc1,hc2⟩:=hc
   have hlen:((cs.drop off).take n).length=n:=by simp; omega
   obtain⟨hb,_⟩:=hi.one hL (b:=b') (o:=.cells cs.toArray ty (0,0)) (fun g hg=>hg)
   refine⟨_, ?_,hΦ⟩
   simp only [Instr.loadAt,Instr.sureAddr,Sem.run_bind,Sem.run_pure,Result.andThen_ok]
   refine loadVar_run ha (by rw [hlen]; exact hs) (by rw [hlen]; exact hc2) ?_
   intro j v hv
   rw [List.getElem?_take] at hv
   split at hv
   ·simp only [List.getElem?_drop] at hv
    simp [World.cell?,hb,hv]
   ·simp at hv
 ·exact h.elim
theorem cellsOf_get{α : Type}{enc : α→List Value}{sz:Nat}(h:Sized enc sz): ∀(xs:List α) (j k:Nat) (x : α),xs[j]? = some x→k<sz→(cellsOf enc xs)[j*sz+k]? = (enc x)[k]?
 | [],_,_,_,hx,_=>by simp at hx
 | y :: ys,j,k,x,hx,hk=>by
  unfold cellsOf
  rw [List.flatMap_cons]
  cases j with
  | zero=>
   simp only [List.getElem?_cons_zero,Option.some.injEq] at hx
   subst hx
   rw [Nat.zero_mul,Nat.zero_add,List.getElem?_append_left (by rw [h]; exact hk)]
  | succ j=>
   simp only [List.getElem?_cons_succ] at hx
   rw [List.getElem?_append_right (by rw [h,Nat.succ_mul]; omega),h]
   have:(j+1)*sz+k-sz=j*sz+k:=by rw [Nat.succ_mul]; omega
   rw [this]
   exact cellsOf_get h ys j k x hx hk
theorem cellsOf_length{α : Type}{enc : α→List Value}{sz:Nat}(h:Sized enc sz): ∀(xs:List α),(cellsOf enc xs).length=xs.length*sz
 | []=>by simp [cellsOf]
 | y :: ys=>by
  have:=cellsOf_length h ys
  unfold cellsOf at *
  rw [List.flatMap_cons,List.length_append,h,this,List.length_cons,Nat.succ_mul]; omega
theorem cellsOf_set{α : Type}{enc : α→List Value}{sz:Nat}(h:Sized enc sz): ∀(xs:List α) (j:Nat) (x : α),j<xs.length→splice (cellsOf enc xs) (j*sz) (enc x)=cellsOf enc (xs.set j x)
 | [],_,_,hj=>by simp at hj
 | y :: ys,0,x,_=>by
  simp only [splice,cellsOf,List.flatMap_cons,Nat.zero_mul,List.take_zero,List.nil_append,Nat.zero_add,List.set_cons_zero,h x]
  congr 1
  rw [←h y,List.drop_left]
 | y :: ys,j+1,x,hj=>by
  have ih:=cellsOf_set h ys j x (by simpa using hj)
  have e:(j+1)*sz=(enc y).length+j*sz:=by rw [h,Nat.succ_mul]; omega
  simp only [splice,cellsOf,List.flatMap_cons,List.set_cons_succ] at ih ⊢
  rw [e,List.take_length_add_append,Nat.add_assoc,List.drop_length_add_append,List.append_assoc,List.append_assoc,←List.append_assoc (List.take _ _),ih]
/-- reading an element of a row: the element numbered j -/
def ldJ(P:Program)(t:TypeId)(av:Value)(L:List Ent)(i j:Nat): SOut Value:=
 match L[i]?,aggT P t,sizeT P t with
 | some (.arr b enc d sz xs _),some ag,some n=>
  match av with
  | .pointer (some ⟨b',off,none⟩)=>
   bif Nat.beq n sz&&(ag||Nat.beq n 1) then .obl (b'=b∧off=jOff j sz) (.obl (j<xs.length) (.ok (valOf ag (enc (xs.getD j d))) L)) else .bad
  | _=>.bad
 | some (.sl a _ enc d sz xs _),some ag,some n=>
   bif Nat.beq n sz&&(ag||Nat.beq n 1) then .obl (av=slAt a j sz) (.obl (j<xs.length) (.ok (valOf ag (enc (xs.getD j d))) L)) else .bad
 | some (.rd a _ enc d sz xs _ _),some ag,some n=>
   bif Nat.beq n sz&&(ag||Nat.beq n 1) then .obl (av=slAt a j sz) (.obl (j<xs.length) (.ok (valOf ag (enc (xs.getD j d))) L)) else .bad
 | _,_,_=>.bad
theorem loadAt_row{α : Type}{P:Program}{t ty:TypeId}{ag:Bool}{enc : α→List Value}{d : α}{sz n:Nat}{xs:List α}{j b off:Nat}{pre post:List Value}{fz:Nat×Nat}{w:World}
  (hz:Sized enc sz) (ha:aggT P t=some ag) (hs:sizeT P t=some n) (hc:(Nat.beq n sz&&(ag||Nat.beq n 1))=true) (hj:j<xs.length)
  (hb:w.heap[b]? = some (.cells (pre++cellsOf enc xs++post).toArray ty fz)) (ho:off=pre.length+j*sz) :
  (Instr.loadAt t (.pointer (some ⟨b,off,none⟩))).run P w = .ok (valOf ag (enc (xs.getD j d))) w:=by
 simp only [Bool.and_eq_true,Bool.or_eq_true,Nat.beq_eq] at hc
 obtain⟨rfl,hc2⟩:=hc
 have hx:xs[j]? = some (xs.getD j d):=by simp [hj]
 simp only [Instr.loadAt,Instr.sureAddr,Sem.run_bind,Sem.run_pure,Result.andThen_ok]
 refine loadVar_run ha (by rw [hz]; exact hs) (by rw [hz]; exact hc2) ?_
 intro k v hv
 have hk:k<n:=by
  have:=(List.getElem?_eq_some_iff.1 hv).1
  rwa [hz] at this
 have hg:=cellsOf_get hz xs j k _ hx hk
 have hin:j*n+k<(cellsOf enc xs).length:=by
  rw [cellsOf_length hz]
  calc j*n+k<j*n+n:=by omega
   _ = (j+1)*n:=by rw [Nat.succ_mul]
   _≤xs.length*n:=Nat.mul_le_mul_right _ hj
 subst ho
 simp only [World.cell?,hb,Option.isSome_none,Bool.false_eq_true,if_false,List.getElem?_toArray]
 rw [Nat.add_assoc,List.append_assoc,List.getElem?_append_right (by omega),Nat.add_sub_cancel_left,List.getElem?_append_left hin,hg]
 exact hv
theorem ldJ_sound{P:Program}{F:Fr}{t:TypeId}{av:Value}{L:List Ent}{i j:Nat}{Φ : Value→List Ent→Prop}{w:World}
  (h:(ldJ P t av L i j).sat Φ) (hi:In L F w):∃v,(Instr.loadAt t av).run P w = .ok v w∧Φ v L:=by
 have hi0:=hi
 unfold ldJ at h
 split at h
 ·rename_i α b enc d sz xs ty ag n hL ha hs
  split at h
  ·rename_i b' off
   cases hc:(Nat.beq n sz&&(ag||Nat.beq n 1)) with
   | false=>rw [hc] at h; exact h.elim
   | true=>
    rw [hc] at h
    obtain⟨⟨rfl,rfl⟩,hj,hΦ⟩:=h
    obtain⟨f,hf,_⟩:=hi0
    obtain⟨_,g,_,_,⟨hz,_⟩,_⟩:=dens_get hL hf
    obtain⟨hb,_⟩:=hi.one hL (b:=b') (o:=.cells (cellsOf enc xs).toArray ty (0,0)) (fun g hg=>hg.2)
    exact⟨_,loadAt_row (pre:=[]) (post:=[]) hz ha hs hc hj (by simpa using hb) (by simp [jOff_eq]),hΦ⟩
  ·exact h.elim
 ·rename_i α a c enc d sz xs ty ag n hL ha hs
  cases hc:(Nat.beq n sz&&(ag||Nat.beq n 1)) with
  | false=>rw [hc] at h; exact h.elim
  | true=>
   rw [hc] at h
   obtain⟨rfl,hj,hΦ⟩:=h
   obtain⟨f,hf,hfit,_⟩:=hi0
   obtain⟨f1,g,f2,rfl,⟨hz,hg⟩,_⟩:=dens_get hL hf
   rcases hg with ⟨_,_,rfl,_⟩ | ⟨b,off,pre,post,rfl,hp,_,_,_,rfl⟩
   ·simp at hj
   ·have hb:=hfit.2 (b,.cells (pre++cellsOf enc xs++post).toArray ty (0,0)) (by simp)
    exact⟨_,loadAt_row hz ha hs hc hj hb (by simp [jOff_eq,hp]),hΦ⟩
 ·rename_i α a c enc d sz xs ty r ag n hL ha hs
  cases hc:(Nat.beq n sz&&(ag||Nat.beq n 1)) with
  | false=>rw [hc] at h; exact h.elim
  | true=>
   rw [hc] at h
   obtain⟨rfl,hj,hΦ⟩:=h
   obtain⟨f,hf,hfit,_⟩:=hi0
   obtain⟨f1,g,f2,rfl,⟨hz,hg⟩,_⟩:=dens_get hL hf
   rcases hg with ⟨rfl,_⟩ | ⟨b,off,rfl,hp,_,rfl⟩
   ·simp at hj
   ·have hb:=hfit.2 (b,.cells (r.pre++cellsOf enc xs++r.post).toArray ty r.fz) (by simp)
    exact⟨_,loadAt_row hz ha hs hc hj hb (by simp [jOff_eq,hp]),hΦ⟩
 ·exact h.elim
/-- writing a variable of a block that is told cell by cell -/
def stE(P:Program)(t:TypeId)(av v:Value)(L:List Ent)(i:Nat): SOut Unit:=
 match L[i]?,av,sizeT P t with
 | some (.pts b cs ty),.pointer (some ⟨b',off,none⟩),some n=>
  bif Nat.ble (off+n) cs.length&&Nat.beq v.cells.toList.length n&&v.cells.toList.all (·.oneCell') then .obl (b'=b) (.ok () (L.set i (.pts b (splice cs off v.cells.toList) ty))) else .bad
 | _,_,_=>.bad
theorem storeAt_run{P:Program}{t ty:TypeId}{v:Value}{b off:Nat}{cur:List Value}{w:World}(hs:sizeT P t=some v.cells.toList.length)
  (h1:∀u∈v.cells.toList,u.oneCell'=true) (hb:w.heap[b]? = some (.cells cur.toArray ty (0,0))) (hl:off+v.cells.toList.length≤cur.length) :
  (Instr.storeAt t (.pointer (some ⟨b,off,none⟩)) v).run P w = .ok () (w.setRow b (splice cur off v.cells.toList).toArray):=by
 have:=run_storeCells_at (P:=P) b off ty v.cells.toList 0 cur.toArray w hb (by simpa using hl) h1
 simp only [Nat.add_zero] at this
 simp only [Instr.storeAt,Instr.sureAddr,storeVar,Sem.run_bind,Sem.run_pure,Result.andThen_ok,sizeT_run hs]
 rw [if_neg (by simp)]
 exact this
theorem stE_sound{P:Program}{F:Fr}{t:TypeId}{av v:Value}{L:List Ent}{i:Nat}{Φ : Unit→List Ent→Prop}{w:World}
  (h:(stE P t av v L i).sat Φ) (hi:In L F w):∃w' L',(Instr.storeAt t av v).run P w = .ok () w'∧In L' F w'∧Φ () L':=by
 unfold stE at h
 split at h
 ·rename_i b cs ty b' off n hL hs
  cases hc:(Nat.ble (off+n) cs.length&&Nat.beq v.cells.toList.length n&&v.cells.toList.all (·.oneCell')) with
  | false=>rw [hc] at h; exact h.elim
  | true=>
   rw [hc] at h
   obtain⟨rfl,hΦ⟩:=h
   simp only [Bool.and_eq_true,Nat.ble_eq,Nat.beq_eq,List.all_eq_true] at hc
   obtain⟨⟨hc1,hc2⟩,hc3⟩:=hc
   obtain⟨hb,hset⟩:=hi.one hL (b:=b') (o:=.cells cs.toArray ty (0,0)) (fun g hg=>hg)
   have hrun:=storeAt_run (P:=P) (t:=t) (v:=v) (b:=b') (off:=off) (cur:=cs) (w:=w) (by rw [hc2]; exact hs) hc3 hb (by omega)
   exact⟨_,_,hrun,hset (.cells (splice cs off v.cells.toList).toArray ty (0,0)) (.pts b' (splice cs off v.cells.toList) ty) _ rfl (setRow_heap w b' _ _ ty (0,0) hb) (fun k hk=>setRow_other w b' k _ hk) rfl rfl rfl,hΦ⟩
 ·exact h.elim
/-- writing an element of a row -/
def stJ(P:Program)(t:TypeId)(av v:Value)(L:List Ent)(i j:Nat): SOut Unit:=
 match L[i]?,sizeT P t with
 | some (.arr (α := α) b enc d sz xs ty),some n=>
  match av with
  | .pointer (some ⟨b',off,none⟩)=>
   bif Nat.beq n sz&&v.cells.toList.all (·.oneCell') then
    .obl (b'=b∧off=jOff j sz) (.obl (j<xs.length) (.ex fun x : α => .obl (v.cells.toList=enc x) (.ok () (L.set i (.arr b enc d sz (xs.set j x) ty))))) else .bad
  | _=>.bad
 | some (.sl (α := α) a c enc d sz xs ty),some n=>
   bif Nat.beq n sz&&v.cells.toList.all (·.oneCell') then
    .obl (av=slAt a j sz) (.obl (j<xs.length) (.ex fun x : α => .obl (v.cells.toList=enc x) (.ok () (L.set i (.sl a c enc d sz (xs.set j x) ty))))) else .bad
 | _,_=>.bad
theorem splice_mid(pre mid post vs:List Value)(o:Nat)(h:o+vs.length≤mid.length): splice (pre++mid++post) (pre.length+o) vs=pre++splice mid o vs++post:=by
 unfold splice
 rw [List.append_assoc pre mid post,List.take_length_add_append,List.take_append_of_le_length (by omega),Nat.add_assoc,List.drop_length_add_append,List.drop_append_of_le_length h]
 simp [List.append_assoc]
theorem stJ_sound{P:Program}{F:Fr}{t:TypeId}{av v:Value}{L:List Ent}{i j:Nat}{Φ : Unit→List Ent→Prop}{w:World}
  (h:(stJ P t av v L i j).sat Φ) (hi:In L F w):∃w' L',(Instr.storeAt t av v).run P w = .ok () w'∧In L' F w'∧Φ () L':=by
 have hi0:=hi
 unfold stJ at h
 split at h
 ·rename_i α b enc d sz xs ty n hL hs
  split at h
  ·rename_i b' off
   cases hc:(Nat.beq n sz&&v.cells.toList.all (·.oneCell')) with
   | false=>rw [hc] at h; exact h.elim
   | true=>
    rw [hc] at h
    obtain⟨⟨rfl,rfl⟩,hj,x,hv,hΦ⟩:=h
    simp only [Bool.and_eq_true,Nat.beq_eq,List.all_eq_true] at hc
    obtain⟨rfl,hc3⟩:=hc
    obtain⟨f,hf,_⟩:=hi0
    obtain⟨_,g,_,_,⟨hz,_⟩,_⟩:=dens_get hL hf
    have hvl:v.cells.toList.length=n:=by rw [hv,hz]
    obtain⟨hb,hset⟩:=hi.one hL (b:=b') (o:=.cells (cellsOf enc xs).toArray ty (0,0)) (fun g hg=>hg.2)
    have hfit:j*n+n≤(cellsOf enc xs).length:=by
     rw [cellsOf_length hz,←Nat.succ_mul]; exact Nat.mul_le_mul_right _ hj
    have hrun:=storeAt_run (P:=P) (t:=t) (v:=v) (b:=b') (off:=jOff j n) (cur:=cellsOf enc xs) (w:=w) (by rw [hvl]; exact hs) hc3 hb (by rw [jOff_eq,hvl]; exact hfit)
    rw [jOff_eq,hv,cellsOf_set hz xs j x hj] at hrun
    rw [jOff_eq]
    exact⟨_,_,hrun,hset (.cells (cellsOf enc (xs.set j x)).toArray ty (0,0)) (.arr b' enc d n (xs.set j x) ty) _ ⟨hz,rfl⟩ (setRow_heap w b' _ _ ty (0,0) hb) (fun k hk=>setRow_other w b' k _ hk) rfl rfl rfl,hΦ⟩
  ·exact h.elim
 ·rename_i α a c enc d sz xs ty n hL hs
  cases hc:(Nat.beq n sz&&v.cells.toList.all (·.oneCell')) with
  | false=>rw [hc] at h; exact h.elim
  | true=>
   rw [hc] at h
   obtain⟨rfl,hj,x,hv,hΦ⟩:=h
   simp only [Bool.and_eq_true,Nat.beq_eq,List.all_eq_true] at hc
   obtain⟨rfl,hc3⟩:=hc
   obtain⟨f,hf,hfit,h1,h2,h3⟩:=hi0
   obtain⟨f1,g,f2,rfl,⟨hz,hg⟩,hset⟩:=dens_get hL hf
   rcases hg with ⟨_,_,rfl,_⟩ | ⟨b,off,pre,post,rfl,hp,hl1,hl2,hl3,rfl⟩
   ·simp at hj
   ·have hvl:v.cells.toList.length=n:=by rw [hv,hz]
    have hb:=hfit.2 (b,.cells (pre++cellsOf enc xs++post).toArray ty (0,0)) (by simp)
    have hin:j*n+n≤(cellsOf enc xs).length:=by
     rw [cellsOf_length hz,←Nat.succ_mul]; exact Nat.mul_le_mul_right _ hj
    have hrun:=storeAt_run (P:=P) (t:=t) (v:=v) (b:=b) (off:=off+jOff j n) (cur:=pre++cellsOf enc xs++post) (w:=w) (by rw [hvl]; exact hs) hc3 hb
     (by rw [jOff_eq,hvl,List.length_append,List.length_append]; omega)
    rw [jOff_eq,←hp,splice_mid _ _ _ _ _ (by rw [hvl]; exact hin),hv,cellsOf_set hz xs j x hj] at hrun
    refine⟨w.setRow b (pre++cellsOf enc (xs.set j x)++post).toArray,L.set i (.sl (some ⟨b,off,none⟩) c enc d n (xs.set j x) ty), ?_,⟨_,hset (.sl (some ⟨b,off,none⟩) c enc d n (xs.set j x) ty) [(b,.cells (pre++cellsOf enc (xs.set j x)++post).toArray ty (0,0))] ⟨hz,.inr ⟨b,off,pre,post,rfl,hp,by simpa using hl1,by simpa using hl2,hl3,rfl⟩⟩, ?_,h1,h2,h3⟩,hΦ⟩
    ·simp only [slAt,slAd,jOff_eq]
     rw [hp] at hrun
     exact hrun
    ·have hfit':Fits (f1++(b,.cells (pre++cellsOf enc xs++post).toArray ty (0,0)) :: (f2++F.f)) w:=by simpa using hfit
     have:=Fits.turn hfit' (w':=w.setRow b (pre++cellsOf enc (xs.set j x)++post).toArray) (setRow_heap w b _ _ ty (0,0) hb) (fun k hk=>setRow_other w b k _ hk)
     simpa using this
 ·exact h.elim
end Go.Sx
/- The executor over code, and its soundness. -/
namespace Go.Sx
inductive Hn
 | e (i:Nat)
 | j (i j:Nat)
 | n
 | w
 | x
 | t (b:Bool)
 | s (i:Nat)
 | u
 | dead
 | sp (ts:List Nat) (A B:List Hn)
 | z (p:List Nat) (k:Nat) (keep:List Nat)
 | k
/-- a number that its kind holds -/
def InK: IntKind→Int→Prop
 | .i64,r => -9223372036854775808≤r∧r≤9223372036854775807
 | .u64,r=>0≤r∧r≤18446744073709551615
 | .u32,r=>0≤r∧r≤4294967295
 | .u8,r=>0≤r∧r≤255
 | k,r=>k.min≤r∧r≤k.max
theorem wrap_in{k:IntKind}{r:Int}(h:InK k r): k.wrap r=r:=by
 cases k <;> simp [InK,IntKind.min,IntKind.max,IntKind.signed,IntKind.bits] at h <;> simp [IntKind.wrap,IntKind.signed,IntKind.bits] <;> omega
def offAdd: Nat→Nat→Nat
 | 0,x=>x
 | n,x=>n+x
theorem offAdd_eq(n x:Nat): offAdd n x=n+x:=by unfold offAdd; split <;> simp
def elemT(P:Program)(t:TypeId): Option TypeId:=
 match P.underlying t with
 | some (.slice e)=>some e
 | _=>none
def intT(P:Program)(t:TypeId): Option IntKind:=
 match P.underlying t with
 | some (.int k)=>some k
 | _=>none
def bShl(k:IntKind)(x y:Int): Int:=k.wrap (x*2 ^ (min y.toNat k.bits))
def bShr(k:IntKind)(x y:Int): Int:=x.fdiv (2 ^ (min y.toNat k.bits))
def kindEq: IntKind→IntKind→Bool
 | .i8,.i8 | .i16,.i16 | .i32,.i32 | .i64,.i64 | .u8,.u8 | .u16,.u16 | .u32,.u32 | .u64,.u64=>true
 | _,_=>false
theorem kindEq_eq{a b:IntKind}(h:kindEq a b=true): a=b:=by cases a <;> cases b <;> first | rfl | cases h
/-- a reckoning, with what is owed: that it stays within its kind, or that there is such a result -/
def arith(op:BinOp)(k k':IntKind)(a b:Int): Option (Prop×Int):=
 match op,kindEq k k' with
 | .add,true=>some (InK k (a+b),a+b)
 | .sub,true=>some (InK k (a-b),a-b)
 | .mul,true=>some (InK k (a*b),a*b)
 | .quo,true=>some (b≠0∧InK k (a.tdiv b),a.tdiv b)
 | .rem,true=>some (b≠0,a.tmod b)
 | .shl,_=>some (0≤b,bShl k a b)
 | .shr,_=>some (0≤b,bShr k a b)
 | _,_=>none
theorem arith_run{P:Program}{op:BinOp}{k k':IntKind}{a b:Int}{p:Prop}{r:Int}(h:arith op k k' a b=some (p,r))(hp:p)(t:TypeId)(x y:Operand)(w:World):
  (do eqGuard op t x y (.int k a) (.int k' b); binOp op t (.int k a) (.int k' b):Sem Value).run P w = .ok (.int k r) w:=by
 unfold arith at h
 split at h <;> simp only [Option.some.injEq,Prod.mk.injEq,reduceCtorEq] at h <;> obtain⟨rfl,rfl⟩:=h
 ·rename_i hk; obtain rfl:=kindEq_eq hk; simp [eqGuard,binOp,Op.intArith,wrap_in hp]
 ·rename_i hk; obtain rfl:=kindEq_eq hk; simp [eqGuard,binOp,Op.intArith,wrap_in hp]
 ·rename_i hk; obtain rfl:=kindEq_eq hk; simp [eqGuard,binOp,Op.intArith,wrap_in hp]
 ·rename_i hk; obtain rfl:=kindEq_eq hk; simp [eqGuard,binOp,Op.intDiv,hp.1,wrap_in hp.2]
 ·rename_i hk; obtain rfl:=kindEq_eq hk; simp [eqGuard,binOp,Op.intDiv,hp]
 ·have:¬b<0:=by omega
  simp [eqGuard,binOp,Op.shift,this,bShl]
 ·have:¬b<0:=by omega
  simp [eqGuard,binOp,Op.shift,this,bShr]
/-- what one operation comes to -/
def opS(P:Program)(o:Oper)(h:Hn)(tm:TM)(L:List Ent): SOut Next:=
 match o.op,h with
 | .load t a,.e i=>(ldE P t (tm.eval a) L i).bind fun v L=>.ok (.value v) L
 | .load t a,.j i j=>(ldJ P t (tm.eval a) L i j).bind fun v L=>.ok (.value v) L
 | .store t a x,.e i=>(stE P t (tm.eval a) (tm.eval x) L i).bind fun _ L=>.ok .skip L
 | .store t a x,.j i j=>(stJ P t (tm.eval a) (tm.eval x) L i j).bind fun _ L=>.ok .skip L
 | .binOp op _ x y _,.n=>
  match tm.eval x,tm.eval y with
  | .int k a,.int k' b=>
   match arith op k k' a b with
   | some (p,r)=>.obl p (.ok (.value (.int k r)) L)
   | none=>.bad
  | _,_=>.bad
 | .convert s d x,.n=>
  match tm.eval x,intT P s,intT P d with
  | .int _ n,some _,some k=>.obl (InK k n) (.ok (.value (.int k n)) L)
  | _,_,_=>.bad
 | .indexAddr t x ix,.x=>
  match tm.eval x,tm.eval ix,(elemT P t).bind (sizeT P) with
  | .slice (some ⟨b,off,none⟩) len _,.int _ i,some sz=>
   .obl (0≤i∧i<(len:Int)) (.ok (.value (.pointer (some ⟨b,offAdd off (jOff i.toNat sz),none⟩))) L)
  | _,_,_=>.bad
 | .indexAddr t x ix,.s i=>
  match tm.eval x,tm.eval ix,(elemT P t).bind (sizeT P),L[i]? with
  | .slice a' n _,.int _ i,some sz',some (.sl a _ _ _ sz xs _)=>
   bif Nat.beq sz sz' then .obl (a'=a∧n≤xs.length) (.obl (0≤i∧i<(n:Int)) (.ok (.value (slAt a i.toNat sz)) L)) else .bad
  | .slice a' n _,.int _ i,some sz',some (.rd a _ _ _ sz xs _ _)=>
   bif Nat.beq sz sz' then .obl (a'=a∧n≤xs.length) (.obl (0≤i∧i<(n:Int)) (.ok (.value (slAt a i.toNat sz)) L)) else .bad
  | _,_,_,_=>.bad
 | _,.w=>sev P L (execOp tm.eval o)
 | _,_=>.bad
theorem elemT_eq{P:Program}{t e:TypeId}(h:elemT P t=some e): P.underlying t=some (.slice e):=by
 unfold elemT at h
 split at h
 ·simp only [Option.some.injEq] at h; subst h; assumption
 ·simp at h
theorem intT_eq{P:Program}{t:TypeId}{k:IntKind}(h:intT P t=some k): P.underlying t=some (.int k):=by
 unfold intT at h
 split at h
 ·simp only [Option.some.injEq] at h; subst h; assumption
 ·simp at h
theorem indexAt_run{P:Program}{t e:TypeId}{sz b off len c:Nat}{k:IntKind}{i:Int}{w:World}(ht:elemT P t=some e)(hs:sizeT P e=some sz)(h:0≤i∧i<(len:Int)):
  (Instr.indexAt t (.slice (some ⟨b,off,none⟩) len c) (.int k i)).run P w = .ok (.pointer (some ⟨b,off+i.toNat*sz,none⟩)) w:=by
 have hadd:∀j,(⟨b,off,none⟩:Addr).add j=⟨b,off+j,none⟩:=by
  intro j; unfold Addr.add; split <;> simp_all
 simp [Instr.indexAt,asIntOf,run_underlying (elemT_eq ht),h,sizeT_run hs,hadd]
theorem opS_run{P:Program}{F:Fr}{o:Oper}{h:Hn}{tm:TM}{L:List Ent}{w:World}{Φ : Next→List Ent→Prop}
  (hi:In L F w) (hs:(opS P o h tm L).sat Φ) :
  ∃nx w' L',(execOp tm.eval o).run P w = .ok nx w'∧In L' F w'∧Φ nx L':=by
 unfold opS at hs
 split at hs
 ·rename_i t x i hop
  rw [SOut.sat_bind] at hs
  obtain⟨v,hr,hΦ⟩:=ldE_sound hs hi
  exact⟨_,w,L,by simp [execOp,hop,hr],hi,hΦ⟩
 ·rename_i t x i j hop
  rw [SOut.sat_bind] at hs
  obtain⟨v,hr,hΦ⟩:=ldJ_sound hs hi
  exact⟨_,w,L,by simp [execOp,hop,hr],hi,hΦ⟩
 ·rename_i t x y i hop
  rw [SOut.sat_bind] at hs
  obtain⟨w' ,L',hr,hi',hΦ⟩:=stE_sound hs hi
  exact⟨_,w' ,L',by simp [execOp,hop,hr],hi',hΦ⟩
 ·rename_i t x y i j hop
  rw [SOut.sat_bind] at hs
  obtain⟨w' ,L',hr,hi',hΦ⟩:=stJ_sound hs hi
  exact⟨_,w' ,L',by simp [execOp,hop,hr],hi',hΦ⟩
 ·rename_i op t x y t2 hop
  split at hs
  ·rename_i k a' k' b' hx hy
   split at hs
   ·rename_i p r hr
    obtain⟨hin,hΦ⟩:=hs
    refine⟨_,w,L, ?_,hi,hΦ⟩
    have hrun:=arith_run (P:=P) hr hin t x y w
    simp only [execOp,hop,hx,hy]
    rw [Sem.run_bind,hrun]
    simp
   ·exact hs.elim
  ·exact hs.elim
 ·rename_i s d x hop
  split at hs
  ·rename_i k n k1 k2 hx h1 h2
   obtain⟨hin,hΦ⟩:=hs
   refine⟨_,w,L, ?_,hi,hΦ⟩
   simp [execOp,hop,hx,convert,run_underlying (intT_eq h1),run_underlying (intT_eq h2),Conv.intToInt,wrap_in hin]
  ·exact hs.elim
 ·rename_i t x ix hop
  split at hs
  ·rename_i b off len c k i sz hx hix hsz
   obtain⟨hin,hΦ⟩:=hs
   simp only [Option.bind_eq_some_iff] at hsz
   obtain⟨e,he1,he2⟩:=hsz
   refine⟨_,w,L, ?_,hi,hΦ⟩
   simp [execOp,hop,hx,hix,indexAt_run he1 he2 hin,offAdd_eq,jOff_eq]
  ·exact hs.elim
 ·rename_i t x ix i0 hop
  split at hs
  ·rename_i a' n c' k i sz' α a0 c enc d sz xs ty hx hix hsz hL
   cases hb:Nat.beq sz sz' with
   | false=>rw [hb] at hs; exact hs.elim
   | true=>
    rw [hb] at hs
    rw [Nat.beq_eq] at hb
    subst hb
    obtain⟨⟨rfl,hle⟩,hin,hΦ⟩:=hs
    simp only [Option.bind_eq_some_iff] at hsz
    obtain⟨e,he1,he2⟩:=hsz
    obtain⟨f,hf,_⟩:=hi
    obtain⟨f1,g,f2,_,⟨hz,hg⟩,_⟩:=dens_get hL hf
    refine⟨_,w,L, ?_,⟨f,hf,‹_›⟩,hΦ⟩
    rcases hg with ⟨_,_,rfl,_⟩ | ⟨b,off,pre,post,rfl,_⟩
    ·simp at hle; omega
    ·simp [execOp,hop,hx,hix,indexAt_run he1 he2 hin,slAt,slAd,jOff_eq]
  ·rename_i a' n c' k i sz' α a0 c enc d sz xs ty r hx hix hsz hL
   cases hb:Nat.beq sz sz' with
   | false=>rw [hb] at hs; exact hs.elim
   | true=>
    rw [hb] at hs
    rw [Nat.beq_eq] at hb
    subst hb
    obtain⟨⟨rfl,hle⟩,hin,hΦ⟩:=hs
    simp only [Option.bind_eq_some_iff] at hsz
    obtain⟨e,he1,he2⟩:=hsz
    obtain⟨f,hf,_⟩:=hi
    obtain⟨f1,g,f2,_,⟨hz,hg⟩,_⟩:=dens_get hL hf
    refine⟨_,w,L, ?_,⟨f,hf,‹_›⟩,hΦ⟩
    rcases hg with ⟨rfl,_⟩ | ⟨b,off,rfl,_⟩
    ·simp at hle; omega
    ·simp [execOp,hop,hx,hix,indexAt_run he1 he2 hin,slAt,slAd,jOff_eq]
  ·exact hs.elim
 ·exact sev_sound _ hs hi
 ·exact hs.elim
theorem opS_sound{P:Program}{F:Fr}{o:Oper}{h:Hn}{tm:TM}{nt:Nat}{a:Act}{L:List Ent}{w:World}{Φ : Next→List Ent→Prop}
  (hn:∀cs b,o.op≠.select cs b) (hk:o.op.operands.all tm.knows=true) (ht:TRep nt tm a) (hi:In L F w) (hs:(opS P o h tm L).sat Φ) :
  ∃nx w' L',(execOp a.eval o).run P w = .ok nx w'∧In L' F w'∧Φ nx L':=by
 have he:execOp a.eval o=execOp tm.eval o:=execOp_congr o hn fun x hx=>ht.eval (Array.all_eq_true_iff_forall_mem.1 hk x hx)
 rw [he]
 exact opS_run hi hs
/-! ### code -/
def child: Code→Nat→Code
 | .seq a _,0=>a
 | .seq _ b,_=>b
 | .cond _ a _,0=>a
 | .cond _ _ b,_=>b
 | .block _ b,_=>b
 | .loop b,_=>b
 | .scope b,_=>b
 | _,_=>.skip
def look(body:Code): List Nat→Code
 | []=>body
 | i :: p=>child (look body p) i
inductive Kont
 | c (p:List Nat)
 | o (p:List Nat) (k:Nat)
 | b (id:Nat)
 | j (J:Act→World→Prop)
 | r (p:List Nat)
inductive Out:Type 1
 | bad
 | ret (v:Value) (L:List Ent)
 | stop (ks:List Kont) (tm:TM) (L:List Ent)
 | br (b:Bool) (t f:Out)
 | obl (p:Prop) (o:Out)
 | new (k:Nat→Out)
 | newV (k:Option Addr→Nat→Out)
 | ex {β : Type} (k : β→Out)
def SOut.out{α : Type}(f : α→List Ent→Out): SOut α→Out
 | .ok v L=>f v L
 | .new k=>.new fun b=>(k b).out f
 | .newV k=>.newV fun a c=>(k a c).out f
 | .obl p o=>.obl p (o.out f)
 | .ex k=>.ex fun x=>(k x).out f
 | .bad=>.bad
/-- does an operation take a hint? -/
def takes: Op→Bool
 | .load .. | .store .. | .indexAddr .. | .convert .. => true
 | .binOp .add .. | .binOp .sub .. | .binOp .mul .. | .binOp .quo .. | .binOp .rem .. | .binOp .shl .. | .binOp .shr .. => true
 | _=>false
def isSelect: Op→Bool
 | .select .. => true
 | _=>false
/-- is a guarded operation wanted? none: it isn't known -/
def guardOf(ops:Array Oper)(o:Oper)(tm:TM): Option Bool:=
 match o.guard with
 | none=>some true
 | some (j,want)=>
  match ops[j]? with
  | none=>none
  | some oj=>match oj.dst with
   | none=>none
   | some t=>match tm.get t with
    | some (.bool true)=>some want
    | some (.bool false)=>some (!want)
    | some (.tuple _)=>some false
    | _=>none
def guardTmp(ops:Array Oper)(o:Oper): Option Nat:=
 match o.guard with
 | none=>none
 | some (j,_)=>match ops[j]? with
  | none=>none
  | some oj=>oj.dst
def toBlock(id:Nat): List Kont→Option (List Kont)
 | []=>none
 | .b i :: ks=>bif Nat.beq i id then some ks else toBlock id ks
 | .c _ :: ks=>toBlock id ks
 | .o _ _ :: ks=>toBlock id ks
 | .j _ :: ks=>toBlock id ks
 | .r _ :: ks=>toBlock id ks
def hasNat: List Nat→Nat→Bool
 | [],_=>false
 | x :: xs,t=>Nat.beq x t||hasNat xs t
def samePath: List Nat→List Nat→Bool
 | [],[]=>true
 | x :: xs,y :: ys=>Nat.beq x y&&samePath xs ys
 | _,_=>false
def setAll(v:Bool)(tm:TM): List Nat→TM
 | []=>tm
 | t :: ts=>(t,.bool v) :: setAll v tm ts
def dstOk(nt:Nat): Option Nat→Bool
 | none=>true
 | some d=>Nat.blt d nt
def putT(d:Option Nat)(v:Value)(tm:TM): TM:=
 match d with
 | none=>tm
 | some d=>(d,v) :: tm
/-- the temporaries that hold the same truth as the first -/
def sameB(tm:TM)(b:Bool)(o:Out): List Nat→Out
 | []=>o
 | t :: ts=>match tm.get t with
  | some (.bool b')=>.obl (b'=b) (sameB tm b o ts)
  | _=>.bad
def splitB(tm:TM)(ts:List Nat)(A B:TM→Out): Out:=
 match ts with
 | []=>.bad
 | t :: rest=>match tm.get t with
  | some (.bool b)=>sameB tm b (.br b (A (setAll true tm ts)) (B (setAll false tm ts))) rest
  | _=>.bad
def resS(P:Program)(tm:TM)(L:List Ent): List ResultVar→List Hn→SOut (List Value)
 | [],_=>.ok [] L
 | .tmp t :: rs,H=>match tm.get t with
  | some v=>(resS P tm L rs H).bind fun vs L=>.ok (v :: vs) L
  | none=>.bad
 | .cell a t :: rs,.e i :: H=>match tm.get a with
  | some av=>(ldE P t av L i).bind fun v _=>(resS P tm L rs H).bind fun vs L=>.ok (v :: vs) L
  | none=>.bad
 | _,_=>.bad
def tupV: List Value→Value
 | [v]=>v
 | vs=>.tuple vs.toArray
def isDead: List Hn→Bool
 | .dead :: _=>true
 | _=>false
def exec(P:Program)(body:Code)(nt:Nat)(rs:List ResultVar): Nat→List Hn→List Kont→TM→List Ent→Out
 | 0,_,_,_,_=>.bad
 | fuel+1,H,ks,tm,L=>
  bif isDead H then .bad else
  match ks with
  | []=>(resS P tm L rs H).out fun vs L=>.ret (tupV vs) L
  | .b _ :: ks'=>exec P body nt rs fuel H ks' tm L
  | .j _ :: _=>match H with
   | .z _ _ keep :: _=>.stop ks (tm.restrict keep) L
   | _=>.bad
  | .r p :: ks'=>match H with
   | .u :: H'=>exec P body nt rs fuel H' (.c (0 :: p) :: .r p :: ks') tm L
   | _=>.bad
  | .c p :: ks'=>
   match look body p with
   | .skip=>exec P body nt rs fuel H ks' tm L
   | .label _=>exec P body nt rs fuel H ks' tm L
   | .seq _ _=>exec P body nt rs fuel H (.c (0 :: p) :: .c (1 :: p) :: ks') tm L
   | .block id _=>exec P body nt rs fuel H (.c (0 :: p) :: .b id :: ks') tm L
   | .scope _=>exec P body nt rs fuel H (.c (0 :: p) :: ks') tm L
   | .region _ _ false=>exec P body nt rs fuel H (.o p 0 :: ks') tm L
   | .ret=>(resS P tm L rs H).out fun vs L=>.ret (tupV vs) L
   | .exit id=>match toBlock id ks' with
    | some k=>exec P body nt rs fuel H k tm L
    | none=>.bad
   | .cond x _ _=>match x with
    | .tmp t=>match H with
     | .sp ts A B :: _=>bif hasNat ts t then splitB tm ts (fun tm=>exec P body nt rs fuel A ks tm L) (fun tm=>exec P body nt rs fuel B ks tm L) else
      match tm.get t with
      | some (.bool true)=>exec P body nt rs fuel H (.c (0 :: p) :: ks') tm L
      | some (.bool false)=>exec P body nt rs fuel H (.c (1 :: p) :: ks') tm L
      | _=>.bad
     | .k :: H'=>match tm.get t with
      | some (.bool true)=>exec P body nt rs fuel H' (.c (0 :: p) :: ks') tm L
      | some (.bool false)=>exec P body nt rs fuel H' (.c (1 :: p) :: ks') tm L
      | _=>.bad
     | _=>match tm.get t with
      | some (.bool true)=>exec P body nt rs fuel H (.c (0 :: p) :: ks') tm L
      | some (.bool false)=>exec P body nt rs fuel H (.c (1 :: p) :: ks') tm L
      | _=>.bad
    | _=>.bad
   | .loop _=>match H with
    | .u :: H'=>exec P body nt rs fuel H' (.c (0 :: p) :: .r p :: ks') tm L
    | .z _ _ keep :: _=>.stop ks (tm.restrict keep) L
    | _=>.bad
   | .region _ _ true=>match H with
    | .z _ _ keep :: _=>.stop ks (tm.restrict keep) L
    | _=>.bad
   | _=>.bad
  | .o p k :: ks'=>
   match look body p with
   | .region _ ops _=>
    match ops.toList[k]? with
    | none=>exec P body nt rs fuel H ks' tm L
    | some o=>
     match H,guardTmp ops o with
     | .sp ts A B :: H',some t=>
      bif hasNat ts t then splitB tm ts (fun tm=>exec P body nt rs fuel A ks tm L) (fun tm=>exec P body nt rs fuel B ks tm L) else
       execOp1 P o (guardOf ops o tm) nt (.sp ts A B :: H') tm L fun H tm L=>exec P body nt rs fuel H (.o p (k+1) :: ks') tm L
     | .k :: H',some _=>execOp1 P o (guardOf ops o tm) nt H' tm L fun H tm L=>exec P body nt rs fuel H (.o p (k+1) :: ks') tm L
     | .z p' k' keep :: H',_=>
      bif Nat.beq k k'&&samePath p p' then .stop ks (tm.restrict keep) L else
       execOp1 P o (guardOf ops o tm) nt (.z p' k' keep :: H') tm L fun H tm L=>exec P body nt rs fuel H (.o p (k+1) :: ks') tm L
     | H,_=>execOp1 P o (guardOf ops o tm) nt H tm L fun H tm L=>exec P body nt rs fuel H (.o p (k+1) :: ks') tm L
   | _=>.bad
where
 execOp1 (P:Program) (o:Oper) (g:Option Bool) (nt:Nat) (H:List Hn) (tm:TM) (L:List Ent) (k:List Hn→TM→List Ent→Out):Out:=
  bif dstOk nt o.dst && !isSelect o.op then
   match g with
   | none=>.bad
   | some false=>k H (putT o.dst undef tm) L
   | some true=>
    bif o.op.operands.all tm.knows then
     match takes o.op,H with
     | true,h :: H'=>(opS P o h tm L).out fun nx L=>match nx with
      | .value v=>k H' (putT o.dst v tm) L
      | .skip=>k H' (putT o.dst undef tm) L
      | _=>.bad
     | true,[]=>.bad
     | false,H=>(opS P o .w tm L).out fun nx L=>match nx with
      | .value v=>k H (putT o.dst v tm) L
      | .skip=>k H (putT o.dst undef tm) L
      | _=>.bad
    else .bad
  else .bad
/-- from where a round of a loop has come to its end -/
def wpIn(P:Program)(c:Code)(Q:Exit→Act→World→Prop)(a:Act)(w:World): Prop:=
 ∀(b:Frame) (k:List Item) (cs:List Frame),∃e a' w',Q e a' w'∧Arrives P (lone (b.at a (.inLoop c :: k)) cs w) b k cs e a' w'
theorem rounds_arrive{P:Program}{c:Code}{Q:Exit→Act→World→Prop}{a:Act}{w:World}(h:c.wp P (Exit.then (wpIn P c Q) Q) a w)(b:Frame)(k:List Item)(cs:List Frame):
  ∃e a' w',Q e a' w'∧Arrives P (lone (b.at a (.code c :: .inLoop c :: k)) cs w) b k cs e a' w':=by
 obtain⟨e,a₁,w₁,hq,harr⟩:=h b (.inLoop c :: k) cs
 cases e with
 | normal=>
  obtain⟨e₂,a₂,w₂,hq₂,harr₂⟩:=hq b k cs
  exact⟨e₂,a₂,w₂,hq₂,.of_steps harr harr₂⟩
 | exit id=>exact⟨_,a₁,w₁,hq,.pass (x:=.inLoop c) rfl (fun _ _=>.inl (by simp)) harr⟩
 | goto l=>exact⟨_,a₁,w₁,hq,.pass (x:=.inLoop c) rfl (fun _ _=>.inl (by simp)) harr⟩
 | ret=>exact⟨_,a₁,w₁,hq,.pass (x:=.inLoop c) rfl (fun _ _=>.inl (by simp)) harr⟩
 | panic ch=>exact⟨_,a₁,w₁,hq,.pass (x:=.inLoop c) rfl (fun _ _=>.inl (by simp)) harr⟩
 | outgrown=>exact⟨_,a₁,w₁,hq,.pass (x:=.inLoop c) rfl (fun _ _=>.inl (by simp)) harr⟩
theorem loop_once{P:Program}{c:Code}{Q:Exit→Act→World→Prop}{a:Act}{w:World}(h:c.wp P (Exit.then (wpIn P c Q) Q) a w): (Code.loop c).wp P Q a w:=fun b k cs=>
 let ⟨e,a' ,w',hq,harr⟩:=rounds_arrive h b k cs
 ⟨e,a' ,w',hq,.of_steps (.one step_loop) harr⟩
theorem in_once{P:Program}{c:Code}{Q:Exit→Act→World→Prop}{a:Act}{w:World}(h:c.wp P (Exit.then (wpIn P c Q) Q) a w): wpIn P c Q a w:=fun b k cs=>
 let ⟨e,a' ,w',hq,harr⟩:=rounds_arrive h b k cs
 ⟨e,a' ,w',hq,.of_steps (.one step_inLoop) harr⟩
/-! ### what is to be shown of the places where the executor stops -/
section
variable (P:Program) (fn:Func) (body:Code) (nt:Nat) (F:Fr) (R:Ending→World→Prop)
def KQ: List Kont→Exit→Act→World→Prop
 | [],e,a,w=>bodyPost P fn R e a w
 | .c p :: ks,.normal,a,w=>(look body p).wp P (KQ ks) a w
 | .c _ :: ks,e,a,w=>KQ ks e a w
 | .o p k :: ks,.normal,a,w=>match look body p with
  | .region _ ops _=>wpList P ops (KQ ks) (ops.toList.drop k) a w
  | _=>False
 | .o _ _ :: ks,e,a,w=>KQ ks e a w
 | .b _ :: ks,.normal,a,w=>KQ ks .normal a w
 | .b id :: ks,.exit id',a,w=>if id'=id then KQ ks .normal a w else KQ ks (.exit id') a w
 | .b _ :: ks,e,a,w=>KQ ks e a w
 | .j J :: _,.normal,a,w=>J a w
 | .j _ :: ks,e,a,w=>KQ ks e a w
 | .r p :: ks,.normal,a,w=>wpIn P (look body (0 :: p)) (KQ ks) a w
 | .r _ :: ks,e,a,w=>KQ ks e a w
def Go(ks:List Kont)(tm:TM)(L:List Ent): Prop := ∀a w,TRep nt tm a→In L F w→KQ P fn body R ks .normal a w
def Out.ok: Out→Prop
 | .bad=>False
 | .ret v L => ∀w,In L F w→R (.returned v) w
 | .stop ks tm L=>Go P fn body nt F R ks tm L
 | .br b t f=>(b=true→t.ok)∧(b=false→f.ok)
 | .obl p o=>p∧o.ok
 | .new k => ∀b,(k b).ok
 | .newV k => ∀a c,(k a c).ok
 | .ex k => ∃x,(k x).ok
end
section
variable {P:Program} {fn:Func} {body:Code} {nt:Nat} {F:Fr} {R:Ending→World→Prop}
theorem SOut.out_ok{α : Type}(f : α→List Ent→Out): ∀(o:SOut α),(o.out f).ok P fn body nt F R=o.sat fun v L=>(f v L).ok P fn body nt F R
 | .ok _ _=>rfl
 | .new k=>by simp only [SOut.out,Out.ok,SOut.sat,fun b=>SOut.out_ok f (k b)]
 | .newV k=>by simp only [SOut.out,Out.ok,SOut.sat,fun a c=>SOut.out_ok f (k a c)]
 | .obl p o=>by simp only [SOut.out,Out.ok,SOut.sat,SOut.out_ok f o]
 | .ex k=>by simp only [SOut.out,Out.ok,SOut.sat,fun x=>SOut.out_ok f (k x)]
 | .bad=>rfl
theorem putT_rep{tm:TM}{a:Act}(h:TRep nt tm a){d:Option Nat}(hd:dstOk nt d=true)(v:Value): TRep nt (putT d v tm) (a.put d v):=by
 cases d with
 | none=>exact h
 | some d=>exact h.put (by simpa [dstOk] using hd) v
theorem guardOf_wanted'{ops:Array Oper}{o:Oper}{tm:TM}{tmps:Array Value}{g:Bool}(h:∀t v,guardTmp ops o=some t→tm.get t=some v→tmps[t]? = some v)(hg:guardOf ops o tm=some g):
  Region.wanted o (yielded ops tmps)=g:=by
 unfold guardOf at hg
 unfold guardTmp at h
 unfold Region.wanted
 split at hg
 ·rename_i hn; rw [hn]; simpa using hg
 ·rename_i j want hn
  rw [hn] at h ⊢
  simp only at h ⊢
  unfold yielded
  split at hg
  ·simp at hg
  ·rename_i oj hj
   split at hg
   ·simp at hg
   ·rename_i t ht
    simp only [hj,ht] at h
    simp only [hj,Option.bind_some,ht]
    split at hg
    ·rename_i hv; rw [h _ _ rfl hv]; simp only [Option.some.injEq] at hg; subst hg; cases want <;> rfl
    ·rename_i hv; rw [h _ _ rfl hv]; simp only [Option.some.injEq] at hg; subst hg; cases want <;> rfl
    ·rename_i vs hv; rw [h _ _ rfl hv]; simp only [Option.some.injEq] at hg; subst hg; rfl
    ·simp at hg
theorem guardOf_wanted{ops:Array Oper}{o:Oper}{tm:TM}{a:Act}{g:Bool}(h:TRep nt tm a)(hg:guardOf ops o tm=some g):
  Region.wanted o (yielded ops a.tmps)=g:=guardOf_wanted' (fun t v _ hv=>h.get t v hv) hg
theorem KQ_toBlock{id:Nat}: ∀(ks k:List Kont) (a:Act) (w:World),toBlock id ks=some k→KQ P fn body R k .normal a w→KQ P fn body R ks (.exit id) a w
 | [],_,_,_,h,_=>by simp [toBlock] at h
 | .b i :: ks,k,a,w,h,hk=>by
  simp only [toBlock] at h
  by_cases hi:i=id
  ·subst hi
   simp only [Nat.beq_refl,cond_true,Option.some.injEq] at h
   subst h
   simp only [KQ,if_true]
   exact hk
  ·have hb:Nat.beq i id=false:=by simpa [←Nat.beq_eq] using hi
   rw [hb] at h
   simp only [KQ]
   rw [if_neg (fun e=>hi e.symm)]
   exact KQ_toBlock ks k a w h hk
 | .c _ :: ks,k,a,w,h,hk=>KQ_toBlock ks k a w h hk
 | .o _ _ :: ks,k,a,w,h,hk=>KQ_toBlock ks k a w h hk
 | .j _ :: ks,k,a,w,h,hk=>KQ_toBlock ks k a w h hk
 | .r _ :: ks,k,a,w,h,hk=>KQ_toBlock ks k a w h hk
theorem KQ_ret: ∀(ks:List Kont) (a:Act) (w:World),bodyPost P fn R .ret a w→KQ P fn body R ks .ret a w
 | [],_,_,h=>h
 | .b _ :: ks,a,w,h=>KQ_ret ks a w h
 | .c _ :: ks,a,w,h=>KQ_ret ks a w h
 | .o _ _ :: ks,a,w,h=>KQ_ret ks a w h
 | .j _ :: ks,a,w,h=>KQ_ret ks a w h
 | .r _ :: ks,a,w,h=>KQ_ret ks a w h
theorem KQ_goto: ∀(ks:List Kont) (l:Nat) (a:Act) (w:World),KQ P fn body R ks (.goto l) a w→False
 | [],_,_,_,h=>h
 | .b _ :: ks,l,a,w,h=>KQ_goto ks l a w h
 | .c _ :: ks,l,a,w,h=>KQ_goto ks l a w h
 | .o _ _ :: ks,l,a,w,h=>KQ_goto ks l a w h
 | .j _ :: ks,l,a,w,h=>KQ_goto ks l a w h
 | .r _ :: ks,l,a,w,h=>KQ_goto ks l a w h
theorem KQ_noGoto(ks:List Kont): Exit.noGoto (KQ P fn body R ks)=KQ P fn body R ks:=by
 funext e a w
 cases e with
 | goto l=>exact propext ⟨fun h=>h.elim,fun h=>(KQ_goto ks l a w h).elim⟩
 | _=>rfl
theorem KQ_then(p:List Nat)(ks:List Kont): Exit.then (fun a w=>(look body p).wp P (KQ P fn body R ks) a w) (KQ P fn body R ks)=KQ P fn body R (.c p :: ks):=by
 funext e a w; cases e <;> rfl
theorem KQ_inBlock(id:Nat)(ks:List Kont): Exit.inBlock id (KQ P fn body R ks)=KQ P fn body R (.b id :: ks):=by
 funext e a w; cases e <;> rfl
theorem setAll_rep{tm:TM}{a:Act}{v:Bool}: ∀(ts:List Nat),TRep nt tm a→(∀t∈ts,tm.get t=some (.bool v))→TRep nt (setAll v tm ts) a
 | [],h,_=>h
 | t :: ts,h,hv=>by
  have ih:=setAll_rep ts h (fun u hu=>hv u (List.mem_cons_of_mem _ hu))
  refine⟨h.size,fun u x hx => ?_,h.defers⟩
  simp only [setAll,TM.get_cons] at hx
  split at hx
  ·rename_i he; subst he
   simp only [Option.some.injEq] at hx; subst hx
   exact h.get _ _ (hv _ (List.mem_cons_self ..))
  ·exact ih.get u x hx
theorem sameB_ok{tm:TM}{b:Bool}{o:Out}: ∀(ts:List Nat),(sameB tm b o ts).ok P fn body nt F R→o.ok P fn body nt F R∧∀t∈ts,tm.get t=some (.bool b)
 | [],h=>⟨h,by simp⟩
 | t :: ts,h=>by
  simp only [sameB] at h
  split at h
  ·rename_i b' hb
   obtain⟨rfl,h⟩:=h
   obtain⟨h1,h2⟩:=sameB_ok ts h
   refine⟨h1, ?_⟩
   intro u hu
   rcases List.mem_cons.1 hu with rfl | hu
   ·exact hb
   ·exact h2 u hu
  ·exact h.elim
theorem splitB_ok{tm:TM}{a:Act}{ts:List Nat}{A B:TM→Out}{C:Prop}(hr:TRep nt tm a)(h:(splitB tm ts A B).ok P fn body nt F R)
  (hA:∀tm',TRep nt tm' a→(A tm').ok P fn body nt F R→C) (hB:∀tm',TRep nt tm' a→(B tm').ok P fn body nt F R→C):C:=by
 unfold splitB at h
 split at h
 ·exact h.elim
 ·rename_i t rest
  split at h
  ·rename_i b hb
   obtain⟨⟨h1,h2⟩,h3⟩:=sameB_ok rest h
   have hall:∀u∈t :: rest,tm.get u=some (.bool b):=by
    intro u hu
    rcases List.mem_cons.1 hu with rfl | hu
    ·exact hb
    ·exact h3 u hu
   cases b with
   | true=>exact hA _ (setAll_rep _ hr hall) (h1 rfl)
   | false=>exact hB _ (setAll_rep _ hr hall) (h2 rfl)
  ·exact h.elim
theorem resS_sound{tm:TM}{a:Act}{w:World}(f:ResultVar→Sem Value)(hf1:∀t,f (.tmp t)=pure (a.tmps.getD t undef))
  (hf2:∀c t,f (.cell c t)=(do loadVar t (←asAddr (a.tmps.getD c undef)))):∀(rs:List ResultVar) (H:List Hn) {L:List Ent} {Φ : List Value→List Ent→Prop},TRep nt tm a→In L F w→(resS P tm L rs H).sat Φ→
  ∃vs,(rs.mapM f).run P w = .ok vs w∧Φ vs L:=by
 intro rs
 induction rs with
 | nil=>intro H L Φ _ _ h; exact⟨[],by simp,h⟩
 | cons r rs ih=>
  intro H L Φ ht hi h
  cases r with
  | tmp t=>
   simp only [resS] at h
   split at h
   ·rename_i v hv
    rw [SOut.sat_bind] at h
    obtain⟨vs,h1,h3⟩:=ih H ht hi h
    have hg:=ht.get t v hv
    refine⟨v :: vs, ?_,h3⟩
    simp only [List.mapM_cons,Sem.run_bind,hf1,Sem.run_pure,Result.andThen_ok,h1]
    simp [hg]
   ·exact h.elim
  | cell c t=>
   unfold resS at h
   split at h
   ·rename_i heq; simp at heq
   ·rename_i heq; simp at heq
   ·rename_i c' t' rs' i H heq
    simp only [List.cons.injEq,ResultVar.cell.injEq] at heq
    obtain⟨⟨rfl,rfl⟩,rfl⟩:=heq
    split at h
    ·rename_i v hv
     rw [SOut.sat_bind] at h
     obtain⟨x,hx,h⟩:=ldE_sound h hi
     rw [SOut.sat_bind] at h
     obtain⟨vs,h1,h3⟩:=ih H ht hi h
     have hg:=ht.get c v hv
     refine⟨x :: vs, ?_,h3⟩
     have hav:∃ad,v = .pointer (some ad):=by
      cases v <;> try (simp [Instr.loadAt,Instr.sureAddr,stuck,Sem.run] at hx; done)
      rename_i ad
      cases ad with
      | none=>simp [Instr.loadAt,Instr.sureAddr,stuck,Sem.run] at hx
      | some ad=>exact⟨ad,rfl⟩
     obtain⟨ad,rfl⟩:=hav
     simp only [Instr.loadAt,Instr.sureAddr,Sem.run_bind,Sem.run_pure,Result.andThen_ok] at hx
     have hg':a.tmps.getD c undef = .pointer (some ad):=by simp [hg]
     simp only [List.mapM_cons,hf2,hg',asAddr,Sem.run_bind,Sem.run_pure,Result.andThen_ok,hx,h1]
    ·exact h.elim
   ·exact h.elim
theorem res_run{tm:TM}{a:Act}{w:World}{rs:List ResultVar}{H:List Hn}{L:List Ent}(hrs:fn.results=rs.toArray)(ht:TRep nt tm a)(hi:In L F w)
  (h:((resS P tm L rs H).out fun vs L=>.ret (tupV vs) L).ok P fn body nt F R):a.defers=[]∧∃v,(results fn a.tmps).run P w = .ok v w∧R (.returned v) w:=by
 rw [SOut.out_ok] at h
 obtain⟨f,hf1,hf2,hres⟩:∃f:ResultVar→Sem Value,(∀t,f (.tmp t)=pure (a.tmps.getD t undef))∧(∀c t,f (.cell c t)=(do loadVar t (←asAddr (a.tmps.getD c undef))))∧
   results fn a.tmps=(do let vs ←fn.results.mapM f; pure (if h:vs.size=1 then vs[0] else .tuple vs)):=⟨_,fun _=>rfl,fun _ _=>rfl,rfl⟩
 obtain⟨vs,h1,h3⟩:=resS_sound f hf1 hf2 rs H ht hi h
 refine⟨ht.defers,tupV vs, ?_,h3 w hi⟩
 rw [hres,hrs,List.mapM_toArray]
 rw [map_eq_pure_bind]
 simp only [Sem.run_bind,h1,Result.andThen_ok,Sem.run_pure]
 congr 1
 match vs with
 | []=>rfl
 | [v]=>rfl
 | v :: u :: vs=>simp [tupV]
theorem execOp1_sound{o:Oper}{ops:Array Oper}{rest:List Oper}{H:List Hn}{tm:TM}{L:List Ent}{k:List Hn→TM→List Ent→Out}{Q:Exit→Act→World→Prop}{a:Act}{w:World}
  (ht:TRep nt tm a) (hi:In L F w) (h:(exec.execOp1 P o (guardOf ops o tm) nt H tm L k).ok P fn body nt F R)
  (hk:∀H' tm' L' a' w',TRep nt tm' a'→In L' F w'→(k H' tm' L').ok P fn body nt F R→wpList P ops Q rest a' w'):wpList P ops Q (o :: rest) a w:=by
 unfold exec.execOp1 at h
 cases hd:(dstOk nt o.dst && !isSelect o.op) with
 | false=>rw [hd] at h; exact h.elim
 | true=>
  rw [hd] at h
  simp only [cond_true] at h
  simp only [Bool.and_eq_true,Bool.not_eq_true'] at hd
  obtain⟨hd1,hd2⟩:=hd
  split at h
  ·exact h.elim
  ·rename_i hg
   refine wpList_skip (guardOf_wanted ht hg) (hk _ _ _ _ _ (putT_rep ht hd1 _) hi h)
  ·rename_i hg
   cases hkn:o.op.operands.all tm.knows with
   | false=>rw [hkn] at h; exact h.elim
   | true=>
    rw [hkn] at h
    simp only [cond_true] at h
    have hsel:∀cs b,o.op≠.select cs b:=by
     intro cs b he; rw [he] at hd2; simp [isSelect] at hd2
    have main:∀(hh:Hn) (H':List Hn),((opS P o hh tm L).out fun nx L=>match nx with
       | .value v=>k H' (putT o.dst v tm) L
       | .skip=>k H' (putT o.dst undef tm) L
       | _=>.bad).ok P fn body nt F R→wpList P ops Q (o :: rest) a w:=by
     intro hh H' h
     rw [SOut.out_ok] at h
     obtain⟨nx,w' ,L',hr,hi',hΦ⟩:=opS_sound hsel hkn ht hi h
     unfold wpList
     rw [if_pos (guardOf_wanted ht hg)]
     refine .inl ?_
     unfold Oper.wp
     rw [hr]
     cases nx with
     | value v=>exact hk _ _ _ _ _ (putT_rep ht hd1 v) hi' hΦ
     | skip=>exact hk _ _ _ _ _ (putT_rep ht hd1 undef) hi' hΦ
     | _=>exact hΦ.elim
    split at h
    ·exact main _ _ h
    ·exact h.elim
    ·exact main _ _ h
theorem wpList_mono{ops:Array Oper}{Q Q':Exit→Act→World→Prop}: ∀ {l:List Oper} {a:Act} {w:World},wpList P ops Q l a w→Q=Q'→wpList P ops Q' l a w:=by
 rintro l a w h rfl; exact h
theorem exec_sound{rs:List ResultVar}(hrs:fn.results=rs.toArray): ∀(fuel:Nat) (H:List Hn) (ks:List Kont) (tm:TM) (L:List Ent) (a:Act) (w:World),
  (exec P body nt rs fuel H ks tm L).ok P fn body nt F R→TRep nt tm a→In L F w→KQ P fn body R ks .normal a w:=by
 intro fuel
 induction fuel with
 | zero=>intro H ks tm L a w h; exact h.elim
 | succ fuel ih=>
  intro H ks tm L a w h ht hi
  have stopC:∀ {H:List Hn},((match H with
    | .z _ _ keep :: _=>.stop ks (tm.restrict keep) L
    | _=>.bad:Out).ok P fn body nt F R)→KQ P fn body R ks .normal a w:=by
   intro H h
   split at h
   ·exact h a w (ht.restrict _) hi
   ·exact h.elim
  unfold exec at h
  cases hdead:isDead H with
  | true=>rw [hdead] at h; exact h.elim
  | false=>
  rw [hdead] at h
  simp only [cond_false] at h
  cases ks with
  | nil=>
   simp only at h
   exact res_run hrs ht hi h
  | cons kt ks'=>
   cases kt with
   | b id=>simp only at h; exact ih _ ks' _ _ _ _ h ht hi
   | j J=>simp only at h; exact stopC h
   | r p=>
    simp only at h
    split at h
    ·refine in_once ?_
     have:=ih _ (.c (0 :: p) :: .r p :: ks') _ _ _ _ h ht hi
     simp only [KQ] at this
     refine wp_mono this ?_
     intro e a w hq; cases e <;> exact hq
    ·exact h.elim
   | c p=>
    simp only at h
    simp only [KQ]
    split at h
    ·rename_i hl; rw [hl]; exact wp_skip (ih _ ks' _ _ _ _ h ht hi)
    ·rename_i hl; rw [hl]; exact wp_label (ih _ ks' _ _ _ _ h ht hi)
    ·rename_i x y hl
     rw [hl]
     refine wp_seq ?_
     have:=ih _ (.c (0 :: p) :: .c (1 :: p) :: ks') _ _ _ _ h ht hi
     simp only [KQ,look,hl,child] at this
     refine wp_mono this ?_
     intro e a w hq
     cases e <;> first | exact hq | (simp only [KQ,look,hl,child] at hq; exact hq)
    ·rename_i id c hl
     rw [hl]
     refine wp_block ?_
     have:=ih _ (.c (0 :: p) :: .b id :: ks') _ _ _ _ h ht hi
     simp only [KQ,look,hl,child] at this
     refine wp_mono this ?_
     intro e a w hq; cases e <;> exact hq
    ·rename_i c hl
     rw [hl]
     refine wp_scope_straight ?_
     rw [KQ_noGoto]
     have:=ih _ (.c (0 :: p) :: ks') _ _ _ _ h ht hi
     simp only [KQ,look,hl,child] at this
     exact this
    ·rename_i id ops hl
     rw [hl]
     refine wp_region_list ?_
     have:=ih _ (.o p 0 :: ks') _ _ _ _ h ht hi
     simp only [KQ,hl,List.drop_zero] at this
     exact this
    ·rename_i hl; rw [hl]; exact wp_ret (KQ_ret ks' a w (res_run hrs ht hi h))
    ·rename_i id hl
     rw [hl]
     split at h
     ·rename_i k hk; exact wp_exit (KQ_toBlock ks' k a w hk (ih _ k _ _ _ _ h ht hi))
     ·exact h.elim
    ·rename_i x c1 c2 hl
     have dec:∀t {H:List Hn},x = .tmp t→((match tm.get t with
       | some (.bool true)=>exec P body nt rs fuel H (.c (0 :: p) :: ks') tm L
       | some (.bool false)=>exec P body nt rs fuel H (.c (1 :: p) :: ks') tm L
       | _=>.bad).ok P fn body nt F R)→(look body p).wp P (KQ P fn body R ks') a w:=by
      rintro t H rfl h
      rw [hl]
      split at h
      ·rename_i hv
       have hg:=ht.get _ _ hv
       refine wp_cond_true (by simp [Act.eval,hg]) ?_
       have:=ih _ (.c (0 :: p) :: ks') _ _ _ _ h ht hi
       simp only [KQ,look,hl,child] at this
       exact this
      ·rename_i hv
       have hg:=ht.get _ _ hv
       refine wp_cond_false (by simp [Act.eval,hg]) ?_
       have:=ih _ (.c (1 :: p) :: ks') _ _ _ _ h ht hi
       simp only [KQ,look,hl,child] at this
       exact this
      ·exact h.elim
     split at h
     ·rename_i t
      split at h
      ·rename_i ts A B H'
       cases hb:hasNat ts t with
       | true=>
        rw [hb] at h
        simp only [cond_true] at h
        refine splitB_ok ht h ?_ ?_
        ·intro tm' ht' h'; have:=ih _ (.c p :: ks') _ _ _ _ h' ht' hi; simpa only [KQ] using this
        ·intro tm' ht' h'; have:=ih _ (.c p :: ks') _ _ _ _ h' ht' hi; simpa only [KQ] using this
       | false=>rw [hb] at h; simp only [cond_false] at h; exact dec t rfl h
      ·exact dec t rfl h
      ·exact dec t rfl h
     ·exact h.elim
    ·rename_i c hl
     split at h
     ·rw [hl]
      refine loop_once ?_
      have:=ih _ (.c (0 :: p) :: .r p :: ks') _ _ _ _ h ht hi
      simp only [KQ,look,hl,child] at this
      refine wp_mono this ?_
      intro e a w hq
      cases e <;> first | exact hq | (simp only [KQ,look,hl,child] at hq; exact hq)
     ·exact h a w (ht.restrict _) hi
     ·exact h.elim
    ·rename_i hl; exact stopC h
    ·exact h.elim
   | o p k=>
    simp only at h
    simp only [KQ]
    split at h
    ·rename_i id ops dr hl
     split at h
     ·rename_i hk
      have hdrop:ops.toList.drop k=[]:=by
       rw [List.drop_eq_nil_iff]; exact List.getElem?_eq_none_iff.1 hk
      rw [hdrop]
      exact wpList_nil (ih _ ks' _ _ _ _ h ht hi)
     ·rename_i o hk
      have hdrop:ops.toList.drop k=o :: ops.toList.drop (k+1):=by
       obtain⟨hlt,hget⟩:=List.getElem?_eq_some_iff.1 hk
       rw [List.drop_eq_getElem_cons hlt,hget]
      have one:∀ {H:List Hn},((exec.execOp1 P o (guardOf ops o tm) nt H tm L fun H tm L=>exec P body nt rs fuel H (.o p (k+1) :: ks') tm L).ok P fn body nt F R)→
        wpList P ops (KQ P fn body R ks') (ops.toList.drop k) a w:=by
       intro H h
       rw [hdrop]
       refine execOp1_sound ht hi h ?_
       intro H' tm' L' a' w' ht' hi' h'
       have:=ih _ (.o p (k+1) :: ks') _ _ _ _ h' ht' hi'
       simpa only [KQ,hl] using this
      split at h
      ·rename_i ts A B H' t hgt
       cases hb:hasNat ts t with
       | true=>
        rw [hb] at h
        simp only [cond_true] at h
        refine splitB_ok ht h ?_ ?_
        ·intro tm' ht' h'; have:=ih _ (.o p k :: ks') _ _ _ _ h' ht' hi; simpa only [KQ,hl] using this
        ·intro tm' ht' h'; have:=ih _ (.o p k :: ks') _ _ _ _ h' ht' hi; simpa only [KQ,hl] using this
       | false=>rw [hb] at h; simp only [cond_false] at h; exact one h
      ·exact one h
      ·rename_i _ p' k' keep H'
       cases hb:(Nat.beq k k'&&samePath p p') with
       | true=>
        rw [hb] at h
        have:=h a w (ht.restrict _) hi
        simpa only [KQ,hl] using this
       | false=>rw [hb] at h; simp only [cond_false] at h; exact one h
      ·exact one h
    ·exact h.elim
end
end Go.Sx
/- Contracts, and the rules for calls, loops and single operations. -/
namespace Go.Sx
/-- the contract of a function: what it owns ahead of the call, and what may be told of its value and of what it owns behind it -/
def Ctr(P:Program)(f:FuncId)(args:Array Value)(pre:List Ent)(Ψ : Value→List Ent→Prop): Prop:=
 ∀F w,In pre F w→Calls P f args w fun e w' => ∃v post,e = .returned v∧Ψ v post∧In post F w'
/-- what a body is to come to -/
def RetR(F:Fr)(Ψ : Value→List Ent→Prop)(e:Ending)(w':World): Prop := ∃v post,e = .returned v∧Ψ v post∧In post F w'
def argTM: Nat→List Value→TM
 | _,[]=>[]
 | k,v :: vs=>(k,v) :: argTM (k+1) vs
theorem argTM_get: ∀(vs:List Value) (k t:Nat) (v:Value),(argTM k vs).get t=some v→k≤t∧vs[t-k]? = some v
 | [],_,_,_,h=>by simp [argTM,TM.get] at h
 | u :: vs,k,t,v,h=>by
  simp only [argTM,TM.get_cons] at h
  split at h
  ·rename_i he; subst he; exact⟨Nat.le_refl _,by simpa using h⟩
  ·rename_i he
   obtain⟨h1,h2⟩:=argTM_get vs (k+1) t v h
   refine⟨by omega, ?_⟩
   have:t-k=(t-(k+1))+1:=by omega
   rw [this,List.getElem?_cons_succ]; exact h2
section
variable {P:Program} {fn:Func} {body:Code} {nt:Nat} {F:Fr} {R:Ending→World→Prop}
theorem ctr_of{f:FuncId}{args:List Value}{pre:List Ent}{Ψ : Value→List Ent→Prop}(hf:P.funcs[f]? = some fn)(hb:fn.body=some body)
  (hnt:args.length+(fn.ntmps-args.length)=nt)
  (h:∀F,Go P fn body nt F (RetR F Ψ) [.c []] (argTM 0 args) pre):Ctr P f args.toArray pre Ψ := by
 intro F w hi
 refine calls_of_wp hf hb ?_
 have hg:=h F {tmps:=args.toArray++Array.replicate (fn.ntmps-args.toArray.size) undef,defers:=[]} w ?_ hi
 ·simp only [KQ,look] at hg
  refine wp_mono hg ?_
  intro e a w hq
  exact hq
 ·refine⟨by simpa using hnt, ?_,rfl⟩
  intro t v hv
  obtain⟨_,h2⟩:=argTM_get _ _ _ _ hv
  simp only [Nat.sub_zero] at h2
  have hlt:=(List.getElem?_eq_some_iff.1 h2).1
  rw [Array.getElem?_append_left (by simpa using hlt)]
  simpa using h2
theorem Ctr.mono{f:FuncId}{args:Array Value}{pre:List Ent}{Ψ Ψ':Value→List Ent→Prop}(h:Ctr P f args pre Ψ)(hm:∀v L,Ψ v L→Ψ' v L): Ctr P f args pre Ψ':=
 fun F w hi=>(h F w hi).mono fun _ _ ⟨v,post,he,hp,hw⟩=>⟨v,post,he,hm v post hp,hw⟩
theorem go_exec{rs:List ResultVar}{ks:List Kont}{tm:TM}{L:List Ent}(hrs:fn.results=rs.toArray)(fuel:Nat)(H:List Hn){o:Out}
  (he:exec P body nt rs fuel H ks tm L=o) (ho:o.ok P fn body nt F R):Go P fn body nt F R ks tm L:=
 fun a w ht hi=>exec_sound hrs fuel H ks tm L a w (by rw [he]; exact ho) ht hi
theorem ret_ok{Ψ : Value→List Ent→Prop}{v:Value}{L:List Ent}(idx:List Nat){post:List Ent}(h:(pick L idx,places L.length idx)=(post,true))(hΨ : Ψ v post):
  (Out.ret v L).ok P fn body nt F (RetR F Ψ):=by
 simp only [Prod.mk.injEq] at h
 exact fun w hi=>⟨v,post,rfl,hΨ,h.1▸hi.pick idx h.2⟩
theorem ok_obl{p:Prop}{o:Out}(hp:p)(h:o.ok P fn body nt F R): (Out.obl p o).ok P fn body nt F R:=⟨hp,h⟩
theorem ok_br{b:Bool}{t f:Out}(ht:b=true→t.ok P fn body nt F R)(hf:b=false→f.ok P fn body nt F R): (Out.br b t f).ok P fn body nt F R:=⟨ht,hf⟩
theorem ok_new{k:Nat→Out}(h:∀b,(k b).ok P fn body nt F R): (Out.new k).ok P fn body nt F R:=h
theorem ok_newV{k:Option Addr→Nat→Out}(h:∀a c,(k a c).ok P fn body nt F R): (Out.newV k).ok P fn body nt F R:=h
theorem ok_ex{β : Type}{k : β→Out}(x : β)(h:(k x).ok P fn body nt F R): (Out.ex k).ok P fn body nt F R:=⟨x,h⟩
theorem ok_stop{ks:List Kont}{tm:TM}{L:List Ent}(h:Go P fn body nt F R ks tm L): (Out.stop ks tm L).ok P fn body nt F R:=h
/-- a known value, and what is owned -/
abbrev Ret(x:Value)(post:List Ent): Value→List Ent→Prop:=fun v L=>v=x∧L=post
theorem go_weak{ks:List Kont}{tm tm':TM}{L L':List Ent}(keep:List Nat)(idx:List Nat)(h:(tm.restrict keep,pick L idx,places L.length idx)=(tm' ,L',true))
  (hg:Go P fn body nt F R ks tm' L'):Go P fn body nt F R ks tm L:=by
 simp only [Prod.mk.injEq] at h
 obtain⟨rfl,rfl,h⟩:=h
 exact fun a w ht hi=>hg a w (ht.restrict _) (hi.pick idx h)
/-! ### one operation by a law of its own -/
/-- what an operation, its operands known, comes to -/
def Runs(P:Program)(F:Fr)(o:Oper)(s:Sem Next)(L:List Ent)(Ψ : Value→List Ent→Prop): Prop:=
 ∀(a:Act) (w:World) (K:Act→World→Prop) (Q:Exit→Act→World→Prop),In L F w→(∀v L' w',Ψ v L'→In L' F w'→K (a.put o.dst v) w')→o.upon P a K Q (s.run P w)
/-- the operation at a place, if its operands are known and it is wanted -/
def opAt(body:Code)(nt:Nat)(p:List Nat)(k:Nat)(tm:TM): Option Oper:=
 match look body p with
 | .region _ ops _=>
  match ops.toList[k]? with
  | none=>none
  | some o=>match guardOf ops o tm with
   | some true=>bif dstOk nt o.dst && !isSelect o.op&&o.op.operands.all tm.knows then some o else none
   | _=>none
 | _=>none
theorem go_run{p:List Nat}{k:Nat}{ks:List Kont}{tm:TM}{L:List Ent}{o:Oper}{Ψ : Value→List Ent→Prop}(ho:opAt body nt p k tm=some o)
  (hr:Runs P F o (execOp tm.eval o) L Ψ) (hk:∀v L',Ψ v L'→Go P fn body nt F R (.o p (k+1) :: ks) (putT o.dst v tm) L'):Go P fn body nt F R (.o p k :: ks) tm L:=by
 intro a w ht hi
 unfold opAt at ho
 split at ho
 ·rename_i id ops dr hl
  split at ho
  ·simp at ho
  ·rename_i o' hk'
   split at ho
   ·rename_i hg
    cases hc:(dstOk nt o'.dst && !isSelect o'.op&&o'.op.operands.all tm.knows) with
    | false=>rw [hc] at ho; simp at ho
    | true=>
     rw [hc] at ho
     simp only [cond_true,Option.some.injEq] at ho
     subst ho
     simp only [Bool.and_eq_true,Bool.not_eq_true'] at hc
     obtain⟨⟨hc1,hc2⟩,hc3⟩:=hc
     have hsel:∀cs b,o'.op≠.select cs b:=by
      intro cs b he; rw [he] at hc2; simp [isSelect] at hc2
     have hdrop:ops.toList.drop k=o' :: ops.toList.drop (k+1):=by
      obtain⟨hlt,hget⟩:=List.getElem?_eq_some_iff.1 hk'
      rw [List.drop_eq_getElem_cons hlt,hget]
     simp only [KQ,hl]
     rw [hdrop]
     unfold wpList
     rw [if_pos (guardOf_wanted ht hg)]
     refine .inl ?_
     unfold Oper.wp
     have he:execOp a.eval o'=execOp tm.eval o':=execOp_congr o' hsel fun x hx=>ht.eval (Array.all_eq_true_iff_forall_mem.1 hc3 x hx)
     rw [he]
     refine hr a w _ _ hi ?_
     intro v L' w' hΨ hi'
     have:=hk v L' hΨ _ w' (putT_rep ht hc1 v) hi'
     simpa only [KQ,hl] using this
   ·simp at ho
 ·simp at ho
/-- whom an operation calls, with what -/
def calleeOf(tm:TM)(o:Oper): Option (FuncId×Array Value):=
 match o.op with
 | .call c=>match c.callee with
  | .value x=>match tm.eval x with
   | .func (.func f) first captured=>some (f,(first++c.args.map tm.eval)++captured)
   | _=>none
  | _=>none
 | _=>none
/-- a program's function has a body -/
def Enters(P:Program)(f:FuncId): Prop := ∀(args:Array Value) (w:World),(callFunc f args).run P w = .ok (.enter f args) w
theorem runs_call{o:Oper}{tm:TM}{f:FuncId}{args:Array Value}{pre:List Ent}{L:List Ent}{Ψ : Value→List Ent→Prop}(idx:List Nat)
  (hen:Enters P f) (hS:Ctr P f args pre Ψ) (hc:calleeOf tm o=some (f,args)) (hp:pick L idx=pre) (hi:places L.length idx=true) :
  Runs P F o (execOp tm.eval o) L (fun v L' => ∃post,Ψ v post∧L'=dropAt L idx++post):=by
 intro a w K Q hin hk
 unfold calleeOf at hc
 split at hc
 ·rename_i c hop
  split at hc
  ·rename_i x hx
   split at hc
   ·rename_i f' first captured hv
    simp only [Option.some.injEq,Prod.mk.injEq] at hc
    obtain⟨rfl,rfl⟩:=hc
    have hrun:(execOp tm.eval o).run P w = .ok (.enter f' ((first++c.args.map tm.eval)++captured)) w:=by
     simp only [execOp,hop,resolve,hx,hv,Deferred.ofValue,Sem.run_bind,Sem.run_pure,Result.andThen_ok,invoke]
     exact hen _ _
    rw [hrun]
    obtain⟨F',h1,h2⟩:=hin.take idx hi
    rw [hp] at h1
    refine(hS F' w h1).mono ?_
    rintro e w' ⟨v,post,rfl,hΨ,hw⟩
    exact hk v _ w' ⟨post,hΨ,rfl⟩ (h2 post w' hw)
   ·simp at hc
  ·simp at hc
 ·simp at hc
/-- a call, by the callee's contract -/
theorem go_call{p:List Nat}{k:Nat}{ks:List Kont}{tm:TM}{L:List Ent}{f:FuncId}{args:Array Value}{pre:List Ent}{Ψ : Value→List Ent→Prop}(dst:Option Nat)(idx:List Nat)
  (hen:Enters P f) (hS:Ctr P f args pre Ψ)
  (h:((opAt body nt p k tm).map (fun o=>(calleeOf tm o,o.dst)),pick L idx,places L.length idx)=(some (some (f,args),dst),pre,true))
  (hk:∀v post,Ψ v post→Go P fn body nt F R (.o p (k+1) :: ks) (putT dst v tm) (dropAt L idx++post)):Go P fn body nt F R (.o p k :: ks) tm L:=by
 simp only [Prod.mk.injEq,Option.map_eq_some_iff] at h
 obtain⟨⟨o,ho,hc,rfl⟩,hp,hi⟩:=h
 refine go_run ho (runs_call idx hen hS hc hp hi) ?_
 rintro v L' ⟨post,hΨ,rfl⟩
 exact hk v post hΨ
/-! ### loops -/
def isLoop(body:Code)(p:List Nat): Bool:=
 match look body p with
 | .loop _=>true
 | _=>false
theorem go_loop{ι : Type}{p:List Nat}{ks:List Kont}{tm:TM}{L:List Ent}(T : ι→TM)(LL : ι→List Ent)(I : ι→Prop)(μ : ι→Nat)(i0 : ι)(keep idx:List Nat)
  (hl:isLoop body p=true) (hT:tm.restrict keep=T i0) (hL:pick L idx=LL i0) (hi:places L.length idx=true) (h0:I i0)
  (round:∀(i : ι) (J:Act→World→Prop),I i→(∀i' a w,μ i' < μ i→I i'→TRep nt (T i') a→In (LL i') F w→J a w)→Go P fn body nt F R (.c (0 :: p) :: .j J :: ks) (T i) (LL i)) :
  Go P fn body nt F R (.c p :: ks) tm L:=by
 intro a w ht hin
 unfold isLoop at hl
 split at hl
 ·rename_i c hc
  simp only [KQ,hc]
  refine wp_loop_ghost (fun n a w => ∃i,μ i=n∧I i∧TRep nt (T i) a∧In (LL i) F w) (μ i0) ⟨i0,rfl,h0,hT▸ht.restrict keep,hL▸hin.pick idx hi⟩ ?_
  rintro n a w ⟨i,rfl,hI,ht,hin⟩
  have:=round i (fun a w => ∃n' ,n' < μ i∧∃i',μ i' =n'∧I i'∧TRep nt (T i') a∧In (LL i') F w) hI (fun i' a w hlt hI' ht' hin'=>⟨μ i',hlt,i',rfl,hI',ht',hin'⟩) a w ht hin
  simp only [KQ,look,hc,child] at this
  refine wp_mono this ?_
  intro e a w hq
  cases e <;> exact hq
 ·simp at hl
/-- the round's end -/
theorem go_back{ι : Type}{T : ι→TM}{LL : ι→List Ent}{I : ι→Prop}{μ : ι→Nat}{i : ι}{J:Act→World→Prop}{ks:List Kont}{tm:TM}{L:List Ent}
  (hJ:∀i' a w,μ i' < μ i→I i'→TRep nt (T i') a→In (LL i') F w→J a w) (i' : ι) (idx:List Nat) (hi:places L.length idx=true) (hT:tm=T i') (hL:pick L idx=LL i') (hI:I i') (hlt : μ i' < μ i) :
  Go P fn body nt F R (.j J :: ks) tm L:=by
 intro a w ht hin
 simp only [KQ]
 exact hJ i' a w hlt hI (hT▸ht) (hL▸hin.pick idx hi)
end
end Go.Sx
/- The executor's outcome, looked at part by part, without writing it down. -/
namespace Go.Sx
def Out.nx: Out→Out
 | .obl _ o=>o
 | _=>.bad
def Out.nn: Out→Nat→Out
 | .new k,b=>k b
 | _,_=>.bad
def Out.nv: Out→Option Addr→Nat→Out
 | .newV k,a,c=>k a c
 | _,_,_=>.bad
def Out.bt: Out→Out
 | .br _ t _=>t
 | _=>.bad
def Out.bf: Out→Out
 | .br _ _ f=>f
 | _=>.bad
def Out.sk: Out→List Kont
 | .stop ks _ _=>ks
 | _=>[]
def Out.st: Out→TM
 | .stop _ tm _=>tm
 | _=>[]
def Out.sL: Out→List Ent
 | .stop _ _ L=>L
 | _=>[]
def Out.rL: Out→List Ent
 | .ret _ L=>L
 | _=>[]
section
variable {P:Program} {fn:Func} {body:Code} {nt:Nat} {F:Fr} {R:Ending→World→Prop} {o:Out}
structure OK (P:Program) (fn:Func) (body:Code) (nt:Nat) (F:Fr) (R:Ending→World→Prop) (o:Out):Prop where
 h:o.ok P fn body nt F R
theorem gX{ks:List Kont}{tm:TM}{L:List Ent}(H:List Hn)(h:OK P fn body nt F R (exec P body nt fn.results.toList 4000 H ks tm L)): Go P fn body nt F R ks tm L:=
 fun a w ht hi=>exec_sound (by simp) 4000 H ks tm L a w h.h ht hi
theorem gO(p:Prop)(hp:p)(hk:OK P fn body nt F R o.nx)(h:o = .obl p o.nx:=by kernel_rfl): OK P fn body nt F R o:=⟨by rw [h]; exact⟨hp,hk.h⟩⟩
theorem gQ{α : Type}(a : α)(hk:OK P fn body nt F R o.nx)(h:o = .obl (a=a) o.nx:=by kernel_rfl): OK P fn body nt F R o:=⟨by rw [h]; exact⟨rfl,hk.h⟩⟩
theorem gN(hk:∀b,OK P fn body nt F R (o.nn b))(h:o = .new o.nn:=by kernel_rfl): OK P fn body nt F R o:=⟨by rw [h]; exact fun b=>(hk b).h⟩
theorem gV(hk:∀a c,OK P fn body nt F R (o.nv a c))(h:o = .newV o.nv:=by kernel_rfl): OK P fn body nt F R o:=⟨by rw [h]; exact fun a c=>(hk a c).h⟩
theorem gB(b:Bool)(ht:b=true→OK P fn body nt F R o.bt)(hf:b=false→OK P fn body nt F R o.bf)(h:o = .br b o.bt o.bf:=by kernel_rfl): OK P fn body nt F R o:=⟨by rw [h]; exact⟨fun x=>(ht x).h,fun x=>(hf x).h⟩⟩
theorem gT(b:Bool)(hb:b=true)(ht:OK P fn body nt F R o.bt)(h:o = .br b o.bt o.bf:=by kernel_rfl): OK P fn body nt F R o:=
 ⟨by rw [h]; exact⟨fun _=>ht.h,fun hx=>absurd (hb.symm.trans hx) (by decide)⟩⟩
theorem gF(b:Bool)(hb:b=false)(ht:OK P fn body nt F R o.bf)(h:o = .br b o.bt o.bf:=by kernel_rfl): OK P fn body nt F R o:=
 ⟨by rw [h]; exact⟨fun hx=>absurd (hb.symm.trans hx) (by decide),fun _=>ht.h⟩⟩
theorem gS(ks:List Kont)(hk:Go P fn body nt F R ks o.st o.sL)(h:o = .stop ks o.st o.sL:=by kernel_rfl): OK P fn body nt F R o:=⟨by rw [h]; exact hk⟩
/-- a stop, where what is known is written down -/
theorem gW{ks:List Kont}(tm:TM)(L:List Ent)(hk:Go P fn body nt F R ks tm L)(h:o = .stop ks tm L:=by kernel_rfl): OK P fn body nt F R o:=⟨by rw [h]; exact hk⟩
theorem gW0(v:Value)(L:List Ent)(hk:(Out.ret v L).ok P fn body nt F R)(h:o = .ret v L:=by kernel_rfl): OK P fn body nt F R o:=⟨by rw [h]; exact hk⟩
theorem gP{Ψ : Value→List Ent→Prop}(v:Value)(post:List Ent)(idx:List Nat)(hΨ : Ψ v post)(h:(o,pick o.rL idx,places o.rL.length idx)=(.ret v o.rL,post,true):=by kernel_rfl): OK P fn body nt F (RetR F Ψ) o:=by
 simp only [Prod.mk.injEq] at h
 refine⟨?_⟩
 rw [h.1]
 exact fun w hi=>⟨v,_,rfl,hΨ,h.2.1▸hi.pick idx h.2.2⟩
theorem gR{Ψ : Value→List Ent→Prop}(v:Value)(idx:List Nat)(hΨ : Ψ v (pick o.rL idx))(h:(o,places o.rL.length idx)=(.ret v o.rL,true):=by kernel_rfl): OK P fn body nt F (RetR F Ψ) o:=by
 simp only [Prod.mk.injEq] at h
 refine⟨?_⟩
 rw [h.1]
 exact fun w hi=>⟨v,_,rfl,hΨ,hi.pick idx h.2⟩
/-- a call of a contract that tells a known value -/
theorem gC{p:List Nat}{k:Nat}{ks:List Kont}{tm:TM}{L:List Ent}{f:FuncId}{args:Array Value}{pre:List Ent}{v:Value}{post:List Ent}(dst:Option Nat)(idx:List Nat)
  (hen:Enters P f) (hS:Ctr P f args pre (Ret v post)) (hk:Go P fn body nt F R (.o p (k+1) :: ks) (putT dst v tm) (dropAt L idx++post))
  (h:((opAt body nt p k tm).map (fun o=>(calleeOf tm o,o.dst)),pick L idx,places L.length idx)=(some (some (f,args),dst),pre,true):=by kernel_rfl):Go P fn body nt F R (.o p k :: ks) tm L:=by
 refine go_call dst idx hen hS h ?_
 rintro v' post' ⟨rfl,rfl⟩
 exact hk
end
end Go.Sx
/- Regions whose order is drawn: operations that leave what is owned as it is (and perhaps one that all of these come ahead of), in whatever order. -/
namespace Go.Sx
/-- which operations must have come ahead -/
def depsOf(o:Oper): List Nat:=(o.after.toList.filter (Region.binds .any)).map (·.on)
theorem mem_ready{ops:Array Oper}{listed:Array Bool}{i:Nat}: i∈Region.ready .any ops listed↔i<ops.size∧listed.getD i true=false∧∃o,ops[i]? = some o∧∀j∈depsOf o,listed.getD j false=true:=by
 unfold Region.ready
 simp only [List.mem_filter,List.mem_range,Bool.and_eq_true,Bool.not_eq_true']
 constructor
 ·rintro⟨h1,h2,h3⟩
  have ho:ops[i]? = some ops[i]:=by simp [h1]
  refine⟨h1,h2,_,ho, ?_⟩
  rw [ho] at h3
  simp only [Option.map_some,Option.getD_some,Array.all_eq_true_iff_forall_mem,Bool.or_eq_true,Bool.not_eq_true'] at h3
  intro j hj
  simp only [depsOf,List.mem_map,List.mem_filter,Array.mem_toList_iff] at hj
  obtain⟨e,⟨he,hb⟩,rfl⟩:=hj
  rcases h3 e he with h | h
  ·rw [hb] at h; cases h
  ·exact h
 ·rintro⟨h1,h2,o,ho,h3⟩
  refine⟨h1,h2, ?_⟩
  rw [ho]
  simp only [Option.map_some,Option.getD_some,Array.all_eq_true_iff_forall_mem,Bool.or_eq_true,Bool.not_eq_true']
  intro e he
  cases hb:Region.binds .any e with
  | false=>exact .inl rfl
  | true=>exact .inr (h3 e.on (by simp only [depsOf,List.mem_map,List.mem_filter,Array.mem_toList_iff]; exact⟨e,⟨he,hb⟩,rfl⟩))
/-- each operation comes behind those that it waits for -/
def acyclic(ops:Array Oper): Bool:=(List.range ops.size).all fun i=>match ops[i]? with | some o=>(depsOf o).all (fun j=>Nat.blt j i) | none=>true
def countNo(l:Array Bool): Nat:=l.toList.countP (fun b => !b)
theorem countNo_set(l:Array Bool)(i:Nat)(h:l.getD i true=false): countNo (l.setIfInBounds i true)+1=countNo l:=by
 have hi:i<l.size:=by
  rcases Nat.lt_or_ge i l.size with h' | h'
  ·exact h'
  ·simp [Array.getD,Nat.not_lt.2 h'] at h
 have hv:l.toList[i]? = some false:=by
  simp only [Array.getD_eq_getD_getElem?,Array.getElem?_eq_getElem hi,Option.getD_some] at h
  simp [hi,h]
 unfold countNo
 rw [Array.toList_setIfInBounds]
 generalize l.toList=xs at hv
 clear h hi
 induction xs generalizing i with
 | nil=>simp at hv
 | cons x xs ih=>
  cases i with
  | zero=>
   simp only [List.getElem?_cons_zero,Option.some.injEq] at hv
   subst hv
   simp
  | succ i=>
   simp only [List.getElem?_cons_succ] at hv
   have:=ih i hv
   simp only [List.set_cons_succ,List.countP_cons]
   omega
theorem ready_nil{ops:Array Oper}(hac:acyclic ops=true){listed:Array Bool}(hs:listed.size=ops.size)(h:Region.ready .any ops listed=[]): ∀i,i<ops.size→listed.getD i false=true:=by
 intro i
 induction i using Nat.strongRecOn with
 | _ i ih=>
  intro hi
  cases hl:listed.getD i false with
  | true=>rfl
  | false=>
   exfalso
   have ho:ops[i]? = some ops[i]:=by simp [hi]
   have hm:i∈Region.ready .any ops listed:=by
    rw [mem_ready]
    refine⟨hi, ?_,_,ho, ?_⟩
    ·have:i<listed.size:=by omega
     simp only [Array.getD_eq_getD_getElem?,Array.getElem?_eq_getElem this,Option.getD_some] at hl ⊢
     exact hl
    ·intro j hj
     have h1:=hac
     simp only [acyclic,List.all_eq_true,List.mem_range] at h1
     have h2:=h1 i hi
     rw [ho] at h2
     simp only [List.all_eq_true,Nat.blt_eq] at h2
     exact ih j (h2 j hj) (by have:=h2 j hj; omega)
   rw [h] at hm
   cases hm
section
variable {P:Program} {ops:Array Oper} {Q:Exit→Act→World→Prop}
theorem wpAny_inv(hac:acyclic ops=true)(Inv:Array Bool→Act→World→Prop)
  (step:∀listed a w i,listed.size=ops.size→i∈Region.ready .any ops listed→Inv listed a w→wpOp P ops Q i (Inv (listed.setIfInBounds i true)) a w)
  (done:∀listed a w,(∀i,i<ops.size→listed.getD i false=true)→Inv listed a w→Q .normal a w) :
  ∀(fuel:Nat) (listed:Array Bool) (a:Act) (w:World),listed.size=ops.size→countNo listed≤fuel→Inv listed a w→wpAny P .any ops Q fuel listed a w:=by
 intro fuel
 induction fuel with
 | zero=>
  intro listed a w hs hc hI
  have hr:Region.ready .any ops listed=[]:=by
   rw [List.eq_nil_iff_forall_not_mem]
   intro i hi
   rw [mem_ready] at hi
   have:=countNo_set listed i hi.2.1
   omega
  exact⟨hr,done listed a w (ready_nil hac hs hr) hI⟩
 | succ fuel ih=>
  intro listed a w hs hc hI
  refine⟨fun hr=>done listed a w (ready_nil hac hs hr) hI,fun i hi => ?_⟩
  have hi':=(mem_ready.1 hi).2.1
  have:=countNo_set listed i hi'
  exact wpOp_mono (fun a w h=>ih _ a w (by simpa using hs) (by omega) h) (step listed a w i hs hi hI)
end
/-! ### the operations of such a region -/
inductive Kq
 | h (h:Hn)
 | q (v:Value)
 | w
def sevQ{α : Type}(P:Program): Sem α→Option α
 | .pure a=>some a
 | .program k=>sevQ P (k P)
 | .mark _ k=>sevQ P k
 | _=>none
theorem sevQ_run{α : Type}{P:Program}{v : α}: ∀(s:Sem α),sevQ P s=some v→∀w,s.run P w = .ok v w
 | .pure a,h,w=>by simp only [sevQ,Option.some.injEq] at h; subst h; rfl
 | .program k,h,w=>sevQ_run (k P) h w
 | .mark _ k,h,w=>sevQ_run k h w
 | .new ..,h,_=>by simp [sevQ] at h
 | .load ..,h,_=>by simp [sevQ] at h
 | .store ..,h,_=>by simp [sevQ] at h
 | .shape ..,h,_=>by simp [sevQ] at h
 | .freeze ..,h,_=>by simp [sevQ] at h
 | .frozen ..,h,_=>by simp [sevQ] at h
 | .getObj ..,h,_=>by simp [sevQ] at h
 | .setObj ..,h,_=>by simp [sevQ] at h
 | .choose ..,h,_=>by simp [sevQ] at h
 | .sys ..,h,_=>by simp [sevQ] at h
 | .halt ..,h,_=>by simp [sevQ] at h
/-- obligations, and a value, of an operation that leaves all as it is -/
def flatQ: SOut Next→Option (List Prop×Value)
 | .ok (.value v) _=>some ([],v)
 | .obl p o=>match flatQ o with
  | some (ps,v)=>some (p :: ps,v)
  | none=>none
 | _=>none
def allP: List Prop→Prop
 | []=>True
 | p :: ps=>p∧allP ps
theorem allP_append: ∀(l m:List Prop),allP (l++m)↔allP l∧allP m
 | [],m=>by simp [allP]
 | p :: l,m=>by simp [allP,allP_append l m,and_assoc]
theorem flatQ_sat: ∀(o:SOut Next) {ps:List Prop} {v:Value},flatQ o=some (ps,v)→allP ps→o.sat (fun nx _=>nx = .value v)
 | .ok nx L,ps,v,h,_=>by
  cases nx <;> simp only [flatQ,Option.some.injEq,Prod.mk.injEq,reduceCtorEq] at h
  obtain⟨_,rfl⟩:=h
  exact rfl
 | .obl p o,ps,v,h,hp=>by
  simp only [flatQ] at h
  split at h
  ·rename_i ps' v' ho
   simp only [Option.some.injEq,Prod.mk.injEq] at h
   obtain⟨rfl,rfl⟩:=h
   exact⟨hp.1,flatQ_sat o ho hp.2⟩
  ·simp at h
 | .new _,_,_,h,_=>by simp [flatQ] at h
 | .newV _,_,_,h,_=>by simp [flatQ] at h
 | .ex _,_,_,h,_=>by simp [flatQ] at h
 | .bad,_,_,h,_=>by simp [flatQ] at h
/-- of a load: what is owned is looked at, and stays the same -/
def readOnly(o:Oper)(h:Hn): Bool:=
 match o.op,h with
 | .load ..,.e _=>true
 | .load ..,.j _ _=>true
 | .indexAddr ..,.s _=>true
 | _,_=>false
/-- a reckoning -/
def opP(P:Program)(o:Oper)(h:Hn)(tm:TM): Option (List Prop×Value):=
 match o.op,h with
 | .binOp op _ x y _,.n=>
  match tm.eval x,tm.eval y with
  | .int k a,.int k' b=>
   match arith op k k' a b with
   | some (p,r)=>some ([p],.int k r)
   | none=>none
  | _,_=>none
 | .convert s d x,.n=>
  match tm.eval x,intT P s,intT P d with
  | .int _ n,some _,some k=>some ([InK k n],.int k n)
  | _,_,_=>none
 | .indexAddr t x ix,.x=>
  match tm.eval x,tm.eval ix,(elemT P t).bind (sizeT P) with
  | .slice (some ⟨b,off,none⟩) len _,.int _ i,some sz=>
   some ([0≤i∧i<(len:Int)],.pointer (some ⟨b,offAdd off (jOff i.toNat sz),none⟩))
  | _,_,_=>none
 | _,.w=>
  match sevQ P (execOp tm.eval o) with
  | some (.value v)=>some ([],v)
  | _=>none
 | _,.t b=>
  match sevQ P (execOp tm.eval o) with
  | some (.value (.bool x))=>some ([x=b],.bool b)
  | _=>none
 | _,_=>none
theorem opP_run{P:Program}{o:Oper}{h:Hn}{tm:TM}{ps:List Prop}{v:Value}(hq:opP P o h tm=some (ps,v))(hp:allP ps)(w:World): (execOp tm.eval o).run P w = .ok (.value v) w:=by
 unfold opP at hq
 split at hq
 ·rename_i op t x y t2 hop
  split at hq
  ·rename_i k a' k' b' hx hy
   split at hq
   ·rename_i p r hr
    simp only [Option.some.injEq,Prod.mk.injEq] at hq
    obtain⟨rfl,rfl⟩:=hq
    have hrun:=arith_run (P:=P) hr hp.1 t x y w
    simp only [execOp,hop,hx,hy]
    rw [Sem.run_bind,hrun]
    simp
   ·simp at hq
  ·simp at hq
 ·rename_i s d x hop
  split at hq
  ·rename_i k n k1 k2 hx h1 h2
   simp only [Option.some.injEq,Prod.mk.injEq] at hq
   obtain⟨rfl,rfl⟩:=hq
   have hin:=hp.1
   simp [execOp,hop,hx,convert,run_underlying (intT_eq h1),run_underlying (intT_eq h2),Conv.intToInt,wrap_in hin]
  ·simp at hq
 ·rename_i t x ix hop
  split at hq
  ·rename_i b off len c k i sz hx hix hsz
   simp only [Option.some.injEq,Prod.mk.injEq] at hq
   obtain⟨rfl,rfl⟩:=hq
   have hin:=hp.1
   simp only [Option.bind_eq_some_iff] at hsz
   obtain⟨e,he1,he2⟩:=hsz
   simp [execOp,hop,hx,hix,indexAt_run he1 he2 hin,offAdd_eq,jOff_eq]
  ·simp at hq
 ·split at hq
  ·rename_i u hu
   simp only [Option.some.injEq,Prod.mk.injEq] at hq
   obtain⟨_,rfl⟩:=hq
   exact sevQ_run _ hu w
  ·simp at hq
 ·split at hq
  ·rename_i x hu
   simp only [Option.some.injEq,Prod.mk.injEq] at hq
   obtain⟨rfl,rfl⟩:=hq
   have hx:=hp.1
   subst hx
   exact sevQ_run _ hu w
  ·simp at hq
 ·simp at hq
def SOut.keep{α : Type}(L:List Ent): SOut α→Prop
 | .ok _ L'=>L'=L
 | .obl _ o=>o.keep L
 | .bad=>True
 | _=>False
theorem keep_sat{α : Type}{L:List Ent}{Φ : α→Prop}: ∀(o:SOut α),o.keep L→o.sat (fun v _ => Φ v)→o.sat (fun v L' => Φ v∧L'=L)
 | .ok _ _,h,hs=>⟨hs,h⟩
 | .obl _ o,h,hs=>⟨hs.1,keep_sat o h hs.2⟩
 | .bad,_,hs=>hs
 | .new _,h,_=>h.elim
 | .newV _,h,_=>h.elim
 | .ex _,h,_=>h.elim
theorem keep_bind{α β : Type}{L:List Ent}{f : α→List Ent→SOut β}(hf:∀v,(f v L).keep L): ∀(o:SOut α),o.keep L→(o.bind f).keep L
 | .ok v _,h=>by subst h; exact hf v
 | .obl _ o,h=>keep_bind hf o h
 | .bad,_=>trivial
 | .new _,h=>h.elim
 | .newV _,h=>h.elim
 | .ex _,h=>h.elim
theorem ldE_keep(P:Program)(t:TypeId)(av:Value)(L:List Ent)(i:Nat): (ldE P t av L i).keep L:=by
 unfold ldE
 split
 ·rename_i b cs ty b' off ag n hL ha hs
  cases (Nat.ble (off+n) cs.length&&(ag||Nat.beq n 1)) <;> simp [SOut.keep]
 ·trivial
theorem ldJ_keep(P:Program)(t:TypeId)(av:Value)(L:List Ent)(i j:Nat): (ldJ P t av L i j).keep L:=by
 unfold ldJ
 split
 ·rename_i α b enc d sz xs ty ag n hL ha hs
  split
  ·cases (Nat.beq n sz&&(ag||Nat.beq n 1)) <;> simp [SOut.keep]
  ·trivial
 ·rename_i α a c enc d sz xs ty ag n hL ha hs
  cases (Nat.beq n sz&&(ag||Nat.beq n 1)) <;> simp [SOut.keep]
 ·rename_i α a c enc d sz xs ty r ag n hL ha hs
  cases (Nat.beq n sz&&(ag||Nat.beq n 1)) <;> simp [SOut.keep]
 ·trivial
theorem readOnly_keep{P:Program}{o:Oper}{h:Hn}{tm:TM}{L:List Ent}(hr:readOnly o h=true): (opS P o h tm L).keep L:=by
 unfold readOnly at hr
 unfold opS
 split at hr
 ·rename_i hop; simp only [hop]; exact keep_bind (L:=L) (f:=fun v L=>.ok (Next.value v) L) (fun _=>rfl) _ (ldE_keep ..)
 ·rename_i hop; simp only [hop]; exact keep_bind (L:=L) (f:=fun v L=>.ok (Next.value v) L) (fun _=>rfl) _ (ldJ_keep ..)
 ·rename_i hop
  simp only [hop]
  split
  ·generalize Nat.beq _ _ = b
   cases b <;> simp [SOut.keep]
  ·generalize Nat.beq _ _ = b
   cases b <;> simp [SOut.keep]
  ·trivial
 ·simp at hr
theorem opL_run{P:Program}{F:Fr}{o:Oper}{h:Hn}{tm:TM}{L:List Ent}{w:World}{ps:List Prop}{v:Value}(hr:readOnly o h=true)
  (hi:In L F w) (hq:flatQ (opS P o h tm L)=some (ps,v)) (hp:allP ps):∃w',(execOp tm.eval o).run P w = .ok (.value v) w'∧In L F w':=by
 have hs:=keep_sat (Φ := fun nx=>nx = .value v) _ (readOnly_keep hr) (flatQ_sat _ hq hp)
 obtain⟨nx,w' ,L',h1,h2,rfl,rfl⟩:=opS_run hi hs
 exact⟨w',h1,h2⟩
/-! ### the region -/
/-- all temporaries that are made in the region are waited for -/
def madeAhead(ops:Array Oper)(o:Oper)(t:Nat): Bool:=
 (List.range ops.size).all fun j=>match ops[j]? with
  | some oj=>match oj.dst with
   | some d => !Nat.beq d t||hasNat (depsOf o) j
   | none=>true
  | none=>true
def waits(ops:Array Oper)(o:Oper): Bool:=
 (o.op.operands.toList.all fun x=>match x with | .tmp t=>madeAhead ops o t | _=>true) &&
 (match guardTmp ops o with | some t=>madeAhead ops o t | none=>true)
/-- a quiet call: it hands back a known value, and leaves what is owned as it is -/
def QuietCall(P:Program)(F:Fr)(L:List Ent)(f:FuncId)(args:Array Value)(v:Value): Prop:=
 ∀w,In L F w→Calls P f args w fun e w'=>e = .returned v∧In L F w'
def fresh(T:TM)(d:Option Nat): Bool:=match d with | some d => !(T.get d).isSome | none=>true
/-- the operations that are chosen, in the order of the text: the temporaries that they make, what is owed, and the quiet calls among them -/
def runQ(P:Program)(ops:Array Oper)(nt:Nat)(L:List Ent): List (Nat×Kq)→TM→Option (TM×List Prop×List (FuncId×Array Value×Value))
 | [],T=>some (T,[],[])
 | (i,k) :: r,T=>
  match ops[i]? with
  | none=>none
  | some o=>
   bif dstOk nt o.dst && !isSelect o.op&&waits ops o&&fresh T o.dst then
    match guardOf ops o T with
    | none=>none
    | some false=>runQ P ops nt L r (putT o.dst undef T)
    | some true=>bif o.op.operands.all T.knows then
      match k with
      | .h h=>match (bif readOnly o h then flatQ (opS P o h T L) else opP P o h T) with
       | some (ps,v)=>match runQ P ops nt L r (putT o.dst v T) with
        | some (T',qs,cs)=>some (T',ps++qs,cs)
        | none=>none
       | none=>none
      | .q v=>match calleeOf T o with
       | some (f,args)=>match runQ P ops nt L r (putT o.dst v T) with
        | some (T',qs,cs)=>some (T',qs,(f,args,v) :: cs)
        | none=>none
       | none=>none
      | .w=>none
     else none
   else none
theorem putT_get{d:Option Nat}{v:Value}{T:TM}{t:Nat}: (putT d v T).get t=if d=some t then some v else T.get t:=by
 cases d with
 | none=>simp [putT]
 | some d=>simp only [putT,TM.get_cons,Option.some.injEq]
theorem putT_mono{d:Option Nat}{v:Value}{T:TM}(hf:fresh T d=true){t:Nat}{u:Value}(h:T.get t=some u): (putT d v T).get t=some u:=by
 rw [putT_get]
 split
 ·rename_i he; subst he; simp [fresh,h] at hf
 ·exact h
/-- what is known of an operation that was run -/
structure Did (P:Program) (ops:Array Oper) (nt:Nat) (L:List Ent) (ps:List Prop) (cs:List (FuncId×Array Value×Value)) (T':TM) (i:Nat) (k:Kq) (o:Oper) (T:TM):Prop where
 op:ops[i]? = some o
 dst:dstOk nt o.dst=true
 sel:isSelect o.op=false
 waits:waits ops o=true
 mono:∀t v,T.get t=some v→T'.get t=some v
 how:(guardOf ops o T=some false∧∀d,o.dst=some d→T'.get d=some undef)∨
  (guardOf ops o T=some true∧o.op.operands.all T.knows=true∧∃v,(∀d,o.dst=some d→T'.get d=some v)∧
   ((∃h ps',k = .h h∧readOnly o h=true∧flatQ (opS P o h T L)=some (ps',v)∧(allP ps→allP ps'))∨
   (∃h ps',k = .h h∧readOnly o h=false∧opP P o h T=some (ps',v)∧(allP ps→allP ps'))∨
   (∃f args,k = .q v∧calleeOf T o=some (f,args)∧(f,args,v)∈cs)))
theorem Did.weak{P:Program}{ops:Array Oper}{nt:Nat}{L:List Ent}{ps ps':List Prop}{cs cs':List (FuncId×Array Value×Value)}{T':TM}{i:Nat}{k:Kq}{o:Oper}{T:TM}
  (h:Did P ops nt L ps cs T' i k o T) (h1:allP ps'→allP ps) (h2:∀c∈cs,c∈cs'):Did P ops nt L ps' cs' T' i k o T:=by
 refine⟨h.op,h.dst,h.sel,h.waits,h.mono,h.how.imp id ?_⟩
 rintro⟨hg,hk,v,hd,hx⟩
 refine⟨hg,hk,v,hd, ?_⟩
 rcases hx with ⟨h,qs,a,b,c,d⟩ | ⟨h,qs,a,b,c,d⟩ | ⟨f,args,a,b,c⟩
 ·exact .inl ⟨h,qs,a,b,c,fun x=>d (h1 x)⟩
 ·exact .inr (.inl ⟨h,qs,a,b,c,fun x=>d (h1 x)⟩)
 ·exact .inr (.inr ⟨f,args,a,b,h2 _ c⟩)
theorem runQ_spec{P:Program}{ops:Array Oper}{nt:Nat}{L:List Ent}: ∀(r:List (Nat×Kq)) (T:TM) {T':TM} {ps:List Prop} {cs:List (FuncId×Array Value×Value)},runQ P ops nt L r T=some (T',ps,cs)→
  (∀t v,T.get t=some v→T'.get t=some v)∧(∀t,(∀i k o,(i,k)∈r→ops[i]? = some o→o.dst≠some t)→T'.get t=T.get t)∧
  (∀i k,(i,k)∈r→∃o T0,Did P ops nt L ps cs T' i k o T0)
 | [],T,T',ps,cs,h=>by
  simp only [runQ,Option.some.injEq,Prod.mk.injEq] at h
  obtain⟨rfl,rfl,rfl⟩:=h
  exact⟨fun _ _ h=>h,fun _ _=>rfl,fun _ _ h=>by cases h⟩
 | (i,k) :: r,T,T',ps,cs,h=>by
  simp only [runQ] at h
  split at h
  ·simp at h
  ·rename_i o ho
   cases hc:(dstOk nt o.dst && !isSelect o.op&&waits ops o&&fresh T o.dst) with
   | false=>rw [hc] at h; simp at h
   | true=>
    rw [hc] at h
    simp only [cond_true] at h
    simp only [Bool.and_eq_true,Bool.not_eq_true'] at hc
    obtain⟨⟨⟨hc1,hc2⟩,hc3⟩,hc4⟩:=hc
    -- the rest, run from where the operation has put a value
    have rest:∀ {v:Value} {T':TM} {qs:List Prop} {ds:List (FuncId×Array Value×Value)} {ps:List Prop} {cs:List (FuncId×Array Value×Value)},runQ P ops nt L r (putT o.dst v T)=some (T',qs,ds)→
      (allP ps→allP qs)→(∀c∈ds,c∈cs)→
      ((∀d,o.dst=some d→T'.get d=some v)→(∀t v,T.get t=some v→T'.get t=some v)→∃o T0,Did P ops nt L ps cs T' i k o T0)→
      (∀t v,T.get t=some v→T'.get t=some v)∧(∀t,(∀j k' o,(j,k')∈(i,k) :: r→ops[j]? = some o→o.dst≠some t)→T'.get t=T.get t)∧
      (∀j k',(j,k')∈(i,k) :: r→∃o T0,Did P ops nt L ps cs T' j k' o T0):=by
     intro v T' qs ds ps cs hr hps hcs hd
     obtain⟨h1,h2,h3⟩:=runQ_spec r _ hr
     have hm:∀t u,T.get t=some u→T'.get t=some u:=fun t u hu=>h1 t u (putT_mono hc4 hu)
     refine⟨hm, ?_, ?_⟩
     ·intro t ht
      rw [h2 t (fun j k' o' hj=>ht j k' o' (List.mem_cons_of_mem _ hj)),putT_get,if_neg (ht i k o (List.mem_cons_self ..) ho)]
     ·intro j k' hj
      rcases List.mem_cons.1 hj with he | hj
      ·simp only [Prod.mk.injEq] at he
       obtain⟨rfl,rfl⟩:=he
       refine hd ?_ hm
       intro d hd'
       exact h1 d v (by rw [putT_get,if_pos hd'])
      ·obtain⟨o',T0,hD⟩:=h3 j k' hj
       exact⟨o',T0,hD.weak hps hcs⟩
    split at h
    ·simp at h
    ·rename_i hg
     exact rest h (fun x=>x) (fun c hc=>hc) fun hd hm=>⟨o,T,ho,hc1,hc2,hc3,hm,.inl ⟨hg,hd⟩⟩
    ·rename_i hg
     cases hkn:o.op.operands.all T.knows with
     | false=>rw [hkn] at h; simp at h
     | true=>
      rw [hkn] at h
      simp only [cond_true] at h
      split at h
      ·rename_i hh
       split at h
       ·rename_i qs v hq
        split at h
        ·rename_i T'' qs' cs' hr
         simp only [Option.some.injEq,Prod.mk.injEq] at h
         obtain⟨rfl,rfl,rfl⟩:=h
         refine rest hr (fun x=>((allP_append _ _).1 x).2) (fun c hc=>hc) fun hd hm=>⟨o,T,ho,hc1,hc2,hc3,hm,.inr ⟨hg,hkn,v,hd, ?_⟩⟩
         cases hro:readOnly o hh with
         | true=>rw [hro] at hq; exact .inl ⟨hh,qs,rfl,hro,hq,fun x=>((allP_append _ _).1 x).1⟩
         | false=>rw [hro] at hq; exact .inr (.inl ⟨hh,qs,rfl,hro,hq,fun x=>((allP_append _ _).1 x).1⟩)
        ·simp at h
       ·simp at h
      ·rename_i v
       split at h
       ·rename_i f args hcal
        split at h
        ·rename_i T'' qs' cs' hr
         simp only [Option.some.injEq,Prod.mk.injEq] at h
         obtain⟨rfl,rfl,rfl⟩:=h
         exact rest hr (fun x=>x) (fun c hc=>List.mem_cons_of_mem _ hc) fun hd hm=>⟨o,T,ho,hc1,hc2,hc3,hm,.inr ⟨hg,hkn,v,hd,.inr (.inr ⟨f,args,rfl,hcal,List.mem_cons_self ..⟩)⟩⟩
        ·simp at h
       ·simp at h
      ·simp at h
end Go.Sx
/- The rules for regions whose order is drawn. -/
namespace Go.Sx
def TLs(nt:Nat)(ops:Array Oper)(T:TM)(listed:Array Bool)(a:Act): Prop:=
 a.tmps.size=nt∧a.defers=[]∧∀t v,T.get t=some v→(∀j o,ops[j]? = some o→o.dst=some t→listed.getD j false=true)→a.tmps[t]? = some v
def loudK(k:Kq)(o:Oper): Bool:=match k with | .h h=>readOnly o h | .q _=>true | .w=>true
theorem hasNat_mem: ∀ {l:List Nat} {t:Nat},hasNat l t=true→t∈l
 | [],_,h=>by simp [hasNat] at h
 | x :: l,t,h=>by
  simp only [hasNat,Bool.or_eq_true,Nat.beq_eq] at h
  rcases h with h | h
  ·subst h; exact List.mem_cons_self ..
  ·exact List.mem_cons_of_mem _ (hasNat_mem h)
section
variable {P:Program} {ops:Array Oper} {nt:Nat} {L:List Ent} {ps:List Prop} {cs:List (FuncId×Array Value×Value)} {T':TM} {i:Nat} {k:Kq} {o:Oper} {T0:TM} {F:Fr} {listed:Array Bool} {a:Act} {w:World}
theorem made_known(hTL:TLs nt ops T' listed a)(hd:∀j∈depsOf o,listed.getD j false=true){t:Nat}{v:Value}(hm:madeAhead ops o t=true)(hv:T'.get t=some v): a.tmps[t]? = some v:=by
 refine hTL.2.2 t v hv ?_
 intro j oj hj hdj
 simp only [madeAhead,List.all_eq_true,List.mem_range] at hm
 have hlt:j<ops.size:=(Array.getElem?_eq_some_iff.1 hj).1
 have:=hm j hlt
 rw [hj] at this
 simp only [hdj,Bool.or_eq_true,Bool.not_eq_true'] at this
 rcases this with h | h
 ·simp at h
 ·exact hd j (hasNat_mem h)
theorem did_eval(hD:Did P ops nt L ps cs T' i k o T0)(hTL:TLs nt ops T' listed a)(hd:∀j∈depsOf o,listed.getD j false=true)(hk:o.op.operands.all T0.knows=true): execOp a.eval o=execOp T0.eval o:=by
 refine execOp_congr o (fun cs b he=>by have:=hD.sel; rw [he] at this; simp [isSelect] at this) fun x hx => ?_
 have hkx:=Array.all_eq_true_iff_forall_mem.1 hk x hx
 cases x with
 | tmp t=>
  simp only [TM.knows,Option.isSome_iff_exists] at hkx
  obtain⟨v,hv⟩:=hkx
  have hw:=hD.waits
  simp only [waits,Bool.and_eq_true,List.all_eq_true] at hw
  have hm:=hw.1 (.tmp t) (by simpa using hx)
  have:=made_known hTL hd hm (hD.mono t v hv)
  simp [Act.eval,TM.eval,hv,this]
 | _=>rfl
theorem did_wanted(hD:Did P ops nt L ps cs T' i k o T0)(hTL:TLs nt ops T' listed a)(hd:∀j∈depsOf o,listed.getD j false=true){g:Bool}(hg:guardOf ops o T0=some g): Region.wanted o (yielded ops a.tmps)=g:=by
 refine guardOf_wanted' ?_ hg
 intro t v ht hv
 have hw:=hD.waits
 simp only [waits,Bool.and_eq_true,ht] at hw
 exact made_known hTL hd hw.2 (hD.mono t v hv)
theorem did_step{Q:Exit→Act→World→Prop}{K:Act→World→Prop}{Ln:List Ent}(hD:Did P ops nt L ps cs T' i k o T0)(hps:allP ps)(hcs:∀c∈cs,QuietCall P F L c.1 c.2.1 c.2.2)
  (hen:∀c∈cs,Enters P c.1) (hTL:TLs nt ops T' listed a) (hd:∀j∈depsOf o,listed.getD j false=true) (hin:In Ln F w) (hl:Ln=L∨loudK k o=false)
  (hK:∀v w',(∀d,o.dst=some d→T'.get d=some v)→In Ln F w'→K (a.put o.dst v) w'):wpOp P ops Q i K a w:=by
 unfold wpOp
 rw [hD.op]
 simp only
 rcases hD.how with ⟨hg,hv⟩ | ⟨hg,hk,v,hv,hhow⟩
 ·rw [did_wanted hD hTL hd hg]
  simp only [Bool.false_eq_true,if_false]
  exact hK undef w hv hin
 ·rw [did_wanted hD hTL hd hg]
  simp only [if_true]
  refine .inl ?_
  unfold Oper.wp
  rw [did_eval hD hTL hd hk]
  rcases hhow with ⟨h,qs,rfl,hro,hq,hp⟩ | ⟨h,qs,rfl,hro,hq,hp⟩ | ⟨f,args,rfl,hcal,hm⟩
  ·rcases hl with rfl | hl
   ·obtain⟨w',hr,hi'⟩:=opL_run hro hin hq (hp hps)
    rw [hr]
    exact hK v w' hv hi'
   ·simp [loudK,hro] at hl
  ·rw [opP_run hq (hp hps) w]
   exact hK v w hv hin
  ·rcases hl with rfl | hl
   ·have hrun:=runs_call (P:=P) (F:=F) (o:=o) (tm:=T0) (L:=Ln) (Ψ := fun u L'=>u=v∧L'=Ln) (pre:=Ln) (List.range Ln.length) (hen _ hm)
     (f:=f) (args:=args)
    unfold calleeOf at hcal
    split at hcal
    ·rename_i c hop
     split at hcal
     ·rename_i x hx
      split at hcal
      ·rename_i f' first captured hfv
       simp only [Option.some.injEq,Prod.mk.injEq] at hcal
       obtain⟨rfl,rfl⟩:=hcal
       have hr:(execOp T0.eval o).run P w = .ok (.enter f' ((first++c.args.map T0.eval)++captured)) w:=by
        simp only [execOp,hop,resolve,hx,hfv,Deferred.ofValue,Sem.run_bind,Sem.run_pure,Result.andThen_ok,invoke]
        exact hen _ hm _ _
       rw [hr]
       refine(hcs _ hm w hin).mono ?_
       rintro e w' ⟨rfl,hi'⟩
       exact hK _ w' hv hi'
      ·simp at hcal
     ·simp at hcal
    ·simp at hcal
   ·simp [loudK] at hl
theorem TLs_put(hTL:TLs nt ops T' listed a)(ho:ops[i]? = some o)(hdst:dstOk nt o.dst=true){v:Value}(hv:∀d,o.dst=some d→T'.get d=some v):
  TLs nt ops T' (listed.setIfInBounds i true) (a.put o.dst v):=by
 obtain⟨h1,h2,h3⟩:=hTL
 cases hd:o.dst with
 | none=>
  refine⟨h1,h2,fun t u hu hw=>h3 t u hu fun j oj hj hdj => ?_⟩
  have:=hw j oj hj hdj
  by_cases he:i=j
  ·subst he
   rw [ho] at hj
   simp only [Option.some.injEq] at hj
   subst hj
   rw [hd] at hdj; cases hdj
  ·simpa only [Array.getD_eq_getD_getElem?,Array.getElem?_setIfInBounds_ne he] using this
 | some d=>
  rw [hd] at hdst hv
  have hv':=hv d rfl
  simp only [dstOk,Nat.blt_eq] at hdst
  refine⟨by simp [Act.put,h1],h2,fun t u hu hw => ?_⟩
  by_cases ht:d=t
  ·subst ht
   rw [hv'] at hu
   simp only [Option.some.injEq] at hu
   subst hu
   simp [Act.put,h1,hdst]
  ·simp only [Act.put]
   rw [Array.getElem?_setIfInBounds_ne ht]
   refine h3 t u hu fun j oj hj hdj => ?_
   have:=hw j oj hj hdj
   by_cases he:i=j
   ·subst he
    rw [ho] at hj
    simp only [Option.some.injEq] at hj
    subst hj
    rw [hd] at hdj
    simp only [Option.some.injEq] at hdj
    exact absurd hdj ht
   ·simpa only [Array.getD_eq_getD_getElem?,Array.getElem?_setIfInBounds_ne he] using this
theorem listed_set{j:Nat}: (listed.setIfInBounds i true).getD j false=true↔(i=j∧i<listed.size)∨listed.getD j false=true:=by
 by_cases he:i=j
 ·subst he
  by_cases hi:i<listed.size
  ·simp [Array.getD_eq_getD_getElem?,hi]
  ·simp [Array.getD_eq_getD_getElem?,hi]
 ·simp [Array.getD_eq_getD_getElem?,Array.getElem?_setIfInBounds_ne he,he]
theorem replicate_no(n j:Nat): (Array.replicate n false).getD j false=false:=by
 simp only [Array.getD_eq_getD_getElem?,Array.getElem?_replicate]
 split <;> rfl
end
/-- a region of operations that leave all as it is -/
def quietAt(P:Program)(body:Code)(nt:Nat)(p:List Nat)(KA:List (Nat×Kq))(tm:TM)(L:List Ent)(keep:List Nat): Option (TM×List Prop×List (FuncId×Array Value×Value)):=
 match look body p with
 | .region _ ops true=>
  bif acyclic ops&&(List.range ops.size).all (fun i=>hasNat (KA.map (·.1)) i) then
   match runQ P ops nt L KA tm with
   | some (T,ps,cs)=>some (T.restrict keep,ps,cs)
   | none=>none
  else none
 | _=>none
section
variable {P:Program} {fn:Func} {body:Code} {nt:Nat} {F:Fr} {R:Ending→World→Prop}
def allQ(P:Program)(F:Fr)(L:List Ent): List (FuncId×Array Value×Value)→Prop
 | []=>True
 | c :: cs=>(Enters P c.1∧QuietCall P F L c.1 c.2.1 c.2.2)∧allQ P F L cs
theorem allQ_mem{L:List Ent}: ∀ {cs:List (FuncId×Array Value×Value)},allQ P F L cs→∀c∈cs,Enters P c.1∧QuietCall P F L c.1 c.2.1 c.2.2
 | [],_,_,h=>by cases h
 | _ :: _,h,c,hc=>by
  rcases List.mem_cons.1 hc with rfl | hc
  ·exact h.1
  ·exact allQ_mem h.2 c hc
theorem go_quiet{p:List Nat}{ks:List Kont}{tm tm':TM}{L:List Ent}{ps:List Prop}{cs:List (FuncId×Array Value×Value)}(KA:List (Nat×Kq))(keep:List Nat)
  (hmix:P.follows .mixedOrders=true) (h:quietAt P body nt p KA tm L keep=some (tm',ps,cs)) (hps:allP ps) (hcs:allQ P F L cs)
  (hk:Go P fn body nt F R ks tm' L):Go P fn body nt F R (.c p :: ks) tm L:=by
 intro a w ht hi
 unfold quietAt at h
 split at h
 ·rename_i id ops hl
  cases hc:(acyclic ops&&(List.range ops.size).all (fun i=>hasNat (KA.map (·.1)) i)) with
  | false=>rw [hc] at h; simp at h
  | true=>
   rw [hc] at h
   simp only [cond_true] at h
   simp only [Bool.and_eq_true,List.all_eq_true,List.mem_range] at hc
   obtain⟨hac,hall⟩:=hc
   split at h
   ·rename_i T ps' cs' hr
    simp only [Option.some.injEq,Prod.mk.injEq] at h
    obtain⟨rfl,rfl,rfl⟩:=h
    obtain⟨h1,h2,h3⟩:=runQ_spec _ _ hr
    have hq:=allQ_mem hcs
    have hmem:∀i,i<ops.size→∃k,(i,k)∈KA:=by
     intro i hi'
     have:=hasNat_mem (hall i hi')
     obtain⟨⟨j,k⟩,hm,rfl⟩:=List.mem_map.1 this
     exact⟨k,hm⟩
    simp only [KQ,hl]
    refine wp_region_any hmix ?_
    refine wpAny_inv hac (fun listed a w=>TLs nt ops T listed a∧In L F w) ?_ ?_ _ _ _ _ (by simp) ?_ ⟨⟨ht.size,ht.defers, ?_⟩,hi.drew⟩
    ·rintro listed a w i hs hm ⟨hTL,hin⟩
     rw [mem_ready] at hm
     obtain⟨hlt,_,o',ho',hdeps⟩:=hm
     obtain⟨k,hmk⟩:=hmem i hlt
     obtain⟨o,T0,hD⟩:=h3 i k hmk
     have heq:o'=o:=by have:=hD.op; rw [ho'] at this; exact Option.some.inj this
     subst heq
     refine did_step hD hps (fun c hc=>(hq c hc).2) (fun c hc=>(hq c hc).1) hTL hdeps hin (.inl rfl) ?_
     intro v w' hv hi'
     exact⟨TLs_put hTL hD.op hD.dst hv,hi'⟩
    ·rintro listed a w hd ⟨hTL,hin⟩
     refine hk a w ?_ hin
     refine TRep.restrict ⟨hTL.1, ?_,hTL.2.1⟩ keep
     intro t v hv
     refine hTL.2.2 t v hv fun j oj hj _=>hd j (Array.getElem?_eq_some_iff.1 hj).1
    ·simp only [countNo]; exact Nat.le_trans List.countP_le_length (by simp)
    ·intro t v hv hw
     rw [h2 t] at hv
     ·exact ht.get t v hv
     ·intro i k o hm ho hd
      have:=hw i o ho hd
      rw [replicate_no] at this
      cases this
   ·simp at h
 ·simp at h
theorem quiet_of{f:FuncId}{args:Array Value}{pre L:List Ent}{v0:Value}{Ψ : Value→List Ent→Prop}(idx:List Nat)(hS:Ctr P f args pre Ψ)(hp:(pick L idx,places L.length idx)=(pre,true))
  (hΨ : ∀v post,Ψ v post→v=v0∧post=pre):QuietCall P F L f args v0:=by
 simp only [Prod.mk.injEq] at hp
 obtain⟨hp,hi⟩:=hp
 intro w hin
 obtain⟨F',h1,h2⟩:=hin.take idx hi
 rw [hp] at h1
 refine(hS F' w h1).mono ?_
 rintro e w' ⟨v,post,rfl,hΨ',hw⟩
 obtain⟨rfl,rfl⟩:=hΨ v post hΨ'
 refine⟨rfl,(h2 _ w' hw).perm ?_⟩
 subst hp
 exact(List.perm_append_comm).trans (pick_drop_perm L idx hi).symm
/-! ### one operation that all that look at what is owned come ahead of -/
/-- the operations that come ahead of one, near and far -/
def ancs(ops:Array Oper): Nat→List Nat→List Nat
 | 0,S=>S
 | n+1,S=>ancs ops n (S++(S.flatMap fun i=>match ops[i]? with | some o=>depsOf o | none=>[]).filter (fun j => !hasNat S j))
def covers(ops:Array Oper)(KA:List (Nat×Kq))(W:Nat)(KB:List (Nat×Kq)): Bool:=
 (List.range ops.size).all fun i=>hasNat (KA.map (·.1)) i||Nat.beq i W||hasNat (KB.map (·.1)) i
def tailOk(ops:Array Oper)(KA:List (Nat×Kq))(W:Nat)(KB:List (Nat×Kq))(ow:Oper): Bool:=
 acyclic ops&&waits ops ow&&covers ops KA W KB &&
 KA.all (fun x => !Nat.beq x.1 W && !hasNat (KB.map (·.1)) x.1&&match ops[x.1]? with | some o => !loudK x.2 o||hasNat (ancs ops 8 (depsOf ow)) x.1 | none=>false) &&
 KB.all (fun x=>match ops[x.1]? with | some o => !loudK x.2 o&&(depsOf o).any (fun d=>Nat.beq d W||hasNat (KB.map (·.1)) d) | none=>false)
/-- the operation that all that look at what is owned come ahead of; what is known when it is done -/
def tailAt(P:Program)(body:Code)(nt:Nat)(p:List Nat)(KA:List (Nat×Kq))(W:Nat)(KB:List (Nat×Kq))(tm:TM)(L:List Ent): Option (Array Oper×Oper×TM×List Prop×List (FuncId×Array Value×Value)):=
 match look body p with
 | .region _ ops true=>
  match ops[W]? with
  | none=>none
  | some ow=>
   bif tailOk ops KA W KB ow&&dstOk nt ow.dst && !isSelect ow.op then
    match runQ P ops nt L KA tm with
    | some (T,ps,cs)=>match guardOf ops ow T with
     | some true=>bif ow.op.operands.all T.knows&&fresh T ow.dst then some (ops,ow,T,ps,cs) else none
     | _=>none
    | none=>none
   else none
 | _=>none
def tailEnd(P:Program)(ops:Array Oper)(nt:Nat)(KB:List (Nat×Kq))(T:TM): Option (TM×List Prop):=
 match runQ P ops nt [] KB T with
 | some (T2,ps2,[])=>some (T2,ps2)
 | _=>none
theorem ancs_listed{ops:Array Oper}{listed:Array Bool}(hc:∀i o,ops[i]? = some o→listed.getD i false=true→∀j∈depsOf o,listed.getD j false=true):
  ∀(n:Nat) (S:List Nat),(∀i∈S,listed.getD i false=true)→∀i∈ancs ops n S,listed.getD i false=true
 | 0,_,h,i,hi=>h i hi
 | n+1,S,h,i,hi=>by
  refine ancs_listed hc n _ ?_ i hi
  intro j hj
  rcases List.mem_append.1 hj with hj | hj
  ·exact h j hj
  ·have hj:=(List.mem_filter.1 hj).1
   obtain⟨k,hk,hjk⟩:=List.mem_flatMap.1 hj
   split at hjk
   ·rename_i o ho; exact hc k o ho (h k hk) j hjk
   ·cases hjk
theorem Did.more{ops:Array Oper}{L:List Ent}{ps:List Prop}{cs:List (FuncId×Array Value×Value)}{T1 T2:TM}{i:Nat}{k:Kq}{o:Oper}{T0:TM}(h:Did P ops nt L ps cs T1 i k o T0)(hm:∀t v,T1.get t=some v→T2.get t=some v): Did P ops nt L ps cs T2 i k o T0:=by
 refine⟨h.op,h.dst,h.sel,h.waits,fun t v hv=>hm t v (h.mono t v hv), ?_⟩
 rcases h.how with ⟨hg,hv⟩ | ⟨hg,hk,v,hv,hx⟩
 ·exact .inl ⟨hg,fun d hd=>hm d _ (hv d hd)⟩
 ·exact .inr ⟨hg,hk,v,fun d hd=>hm d _ (hv d hd),hx⟩
theorem go_tail{p:List Nat}{ks:List Kont}{tm:TM}{L:List Ent}{ops:Array Oper}{ow:Oper}{T1:TM}{ps:List Prop}{cs:List (FuncId×Array Value×Value)}{Ψ : Value→List Ent→Prop}
  (KA:List (Nat×Kq)) (W:Nat) (KB:List (Nat×Kq)) (keep:List Nat) (hmix:P.follows .mixedOrders=true) (h:tailAt P body nt p KA W KB tm L=some (ops,ow,T1,ps,cs))
  (hps:allP ps) (hcs:allQ P F L cs) (hR:Runs P F ow (execOp T1.eval ow) L Ψ)
  (hk:∀v L',Ψ v L'→∃T2 ps2,tailEnd P ops nt KB (putT ow.dst v T1)=some (T2,ps2)∧allP ps2∧Go P fn body nt F R ks (T2.restrict keep) L'):Go P fn body nt F R (.c p :: ks) tm L:=by
 intro a w ht hi
 unfold tailAt at h
 split at h
 ·rename_i id ops' hl
  split at h
  ·simp at h
  ·rename_i ow' how
   cases hc:(tailOk ops' KA W KB ow'&&dstOk nt ow'.dst && !isSelect ow'.op) with
   | false=>rw [hc] at h; simp at h
   | true=>
    rw [hc] at h
    simp only [cond_true] at h
    split at h
    ·rename_i T ps' cs' hr
     split at h
     ·rename_i hg
      cases hc2:(ow'.op.operands.all T.knows&&fresh T ow'.dst) with
      | false=>rw [hc2] at h; simp at h
      | true=>
       rw [hc2] at h
       simp only [cond_true,Option.some.injEq,Prod.mk.injEq] at h
       obtain⟨rfl,rfl,rfl,rfl,rfl⟩:=h
       simp only [Bool.and_eq_true,Bool.not_eq_true'] at hc hc2
       obtain⟨⟨hok,hdst⟩,hsel⟩:=hc
       obtain⟨hkn,hfr⟩:=hc2
       simp only [tailOk,Bool.and_eq_true,List.all_eq_true,Bool.not_eq_true'] at hok
       obtain⟨⟨⟨⟨hac,hww⟩,hcov⟩,hKA⟩,hKB⟩:=hok
       obtain⟨h1,h2,h3⟩:=runQ_spec _ _ hr
       have hq:=allQ_mem hcs
       have memOf:∀ {M:List (Nat×Kq)} {i:Nat},hasNat (M.map (·.1)) i=true→∃k,(i,k)∈M:=by
        intro M i hm
        obtain⟨⟨j,k⟩,hm',rfl⟩:=List.mem_map.1 (hasNat_mem hm)
        exact⟨k,hm'⟩
       have hWlt:W<ops'.size:=(Array.getElem?_eq_some_iff.1 how).1
       simp only [KQ,hl]
       refine wp_region_any hmix ?_
       refine wpAny_inv hac (fun listed a w=>listed.size=ops'.size∧(∀i o,ops'[i]? = some o→listed.getD i false=true→∀j∈depsOf o,listed.getD j false=true)∧
        ((listed.getD W false=false∧(∀j k,(j,k)∈KB→listed.getD j false=false)∧TLs nt ops' T listed a∧In L F w)∨
        (listed.getD W false=true∧(∀j k o,(j,k)∈KA→ops'[j]? = some o→loudK k o=true→listed.getD j false=true)∧∃v L' T2 ps2,Ψ v L'∧In L' F w∧runQ P ops' nt [] KB (putT ow'.dst v T)=some (T2,ps2,[])∧allP ps2∧
          Go P fn body nt F R ks (T2.restrict keep) L'∧TLs nt ops' T2 listed a))) ?_ ?_ _ _ _ _ (by simp) ?_ ?_
       ·rintro listed a w i hs hm ⟨_,hcl,hph⟩
        rw [mem_ready] at hm
        obtain⟨hlt,hno,o',ho',hdeps⟩:=hm
        have hno':listed.getD i false=false:=by
         have:i<listed.size:=by omega
         simpa [Array.getD_eq_getD_getElem?,this] using hno
        have hcl':∀j o,ops'[j]? = some o→(listed.setIfInBounds i true).getD j false=true→∀d∈depsOf o,(listed.setIfInBounds i true).getD d false=true:=by
         intro j o hj hlj d hd
         rw [listed_set] at hlj ⊢
         rcases hlj with ⟨rfl,_⟩ | hlj
         ·rw [ho'] at hj
          simp only [Option.some.injEq] at hj
          subst hj
          exact .inr (hdeps d hd)
         ·exact .inr (hcl j o hj hlj d hd)
        have hcv:=hcov
        simp only [covers,List.all_eq_true,List.mem_range,Bool.or_eq_true,Nat.beq_eq] at hcv
        rcases hph with ⟨hWn,hBn,hTL,hin⟩ | ⟨hWy,hloud,v,L',T2,ps2,hΨ,hin,hrun,hp2,hgo,hTL⟩
        ·rcases hcv i hlt with (hA | rfl) | hB
         ·obtain⟨k,hmk⟩:=memOf hA
          obtain⟨o,T0,hD⟩:=h3 i k hmk
          have hne:=hKA _ hmk
          refine did_step hD hps (fun c hc=>(hq c hc).2) (fun c hc=>(hq c hc).1) hTL (by have:=hD.op; rw [ho'] at this; obtain rfl:=Option.some.inj this; exact hdeps) hin (.inl rfl) ?_
          intro v w' hv hi'
          refine⟨by simpa using hs,hcl',.inl ⟨?_, ?_,TLs_put hTL hD.op hD.dst hv,hi'⟩⟩
          ·rw [Bool.eq_false_iff,ne_eq,listed_set]
           rintro(⟨rfl,_⟩ | h)
           ·have:=hne.1.1; simp at this
           ·rw [hWn] at h; cases h
          ·intro j kk hj
           rw [Bool.eq_false_iff,ne_eq,listed_set]
           rintro(⟨rfl,_⟩ | h)
           ·have h':=hne.1.2
            have:hasNat (KB.map (·.1)) i=true:=by
             have hgen:∀ {l:List Nat} {t:Nat},t∈l→hasNat l t=true:=by
              intro l t
              induction l with
              | nil=>intro h; cases h
              | cons x l ih=>intro h; rcases List.mem_cons.1 h with rfl | h <;> simp [hasNat, *]
             exact hgen (List.mem_map.2 ⟨(i,kk),hj,rfl⟩)
            rw [this] at h'; cases h'
           ·rw [hBn j kk hj] at h; cases h
         ·-- the operation itself
          have heq:o'=ow':=by rw [ho'] at how; exact Option.some.inj how
          subst heq
          unfold wpOp
          rw [ho']
          simp only
          have hwt:Region.wanted o' (yielded ops' a.tmps)=true:=by
           refine guardOf_wanted' ?_ hg
           intro t v ht' hv
           simp only [waits,Bool.and_eq_true,ht'] at hww
           exact made_known hTL hdeps hww.2 hv
          rw [hwt]
          simp only [if_true]
          refine .inl ?_
          unfold Oper.wp
          have he:execOp a.eval o'=execOp T.eval o':=by
           refine execOp_congr o' (fun cs b he=>by rw [he] at hsel; simp [isSelect] at hsel) fun x hx => ?_
           have hkx:=Array.all_eq_true_iff_forall_mem.1 hkn x hx
           cases x with
           | tmp t=>
            simp only [TM.knows,Option.isSome_iff_exists] at hkx
            obtain⟨v,hv⟩:=hkx
            simp only [waits,Bool.and_eq_true,List.all_eq_true] at hww
            have hm:=hww.1 (.tmp t) (by simpa using hx)
            have:=made_known hTL hdeps hm hv
            simp [Act.eval,TM.eval,hv,this]
           | _=>rfl
          rw [he]
          refine hR a w _ _ hin ?_
          intro v L' w' hΨ hi'
          obtain⟨T2,ps2,hend,hp2,hgo⟩:=hk v L' hΨ
          have hrun:runQ P ops' nt [] KB (putT o'.dst v T)=some (T2,ps2,[]):=by
           unfold tailEnd at hend
           split at hend
           ·rename_i hrr
            simp only [Option.some.injEq,Prod.mk.injEq] at hend
            obtain⟨rfl,rfl⟩:=hend
            exact hrr
           ·simp at hend
          obtain⟨g1,g2,g3⟩:=runQ_spec _ _ hrun
          refine⟨by simpa using hs,hcl',.inr ⟨?_, ?_,v,L',T2,ps2,hΨ,hi',hrun,hp2,hgo, ?_⟩⟩
          ·rw [listed_set]; exact .inl ⟨rfl,by omega⟩
          ·intro j k o hj hoj hlk
           rw [listed_set]
           have hne:=(hKA _ hj).2
           simp only [hoj,Bool.or_eq_true,Bool.not_eq_true',hlk] at hne
           rcases hne with h | h
           ·cases h
           ·exact .inr (ancs_listed hcl 8 _ hdeps j (hasNat_mem h))
          ·refine⟨?_, ?_, ?_⟩
           ·cases hd:o'.dst <;> simp [Act.put,hTL.1]
           ·cases hd:o'.dst <;> simp [Act.put,hTL.2.1]
           ·intro t u hu hwr
            by_cases hdt:o'.dst=some t
            ·have hv':T2.get t=some v:=g1 t v (by rw [putT_get,if_pos hdt])
             rw [hv'] at hu
             simp only [Option.some.injEq] at hu
             subst hu
             rw [hdt] at hdst ⊢
             simp only [dstOk,Nat.blt_eq] at hdst
             simp [Act.put,hTL.1,hdst]
            ·have hnb:∀j k o,(j,k)∈KB→ops'[j]? = some o→o.dst≠some t:=by
              intro j k o hj hoj hd
              have:=hwr j o hoj hd
              rw [listed_set] at this
              rcases this with ⟨rfl,_⟩ | h
              ·rw [ho'] at hoj
               simp only [Option.some.injEq] at hoj
               subst hoj
               exact hdt hd
              ·rw [hBn j k hj] at h; cases h
             rw [g2 t hnb,putT_get,if_neg hdt] at hu
             have hx:=hTL.2.2 t u hu (fun j oj hj hdj=>by
              have:=hwr j oj hj hdj
              rw [listed_set] at this
              rcases this with ⟨rfl,_⟩ | h
              ·rw [ho'] at hj
               simp only [Option.some.injEq] at hj
               subst hj
               exact absurd hdj hdt
              ·exact h)
             cases hd:o'.dst with
             | none=>exact hx
             | some d=>
              simp only [Act.put]
              rw [Array.getElem?_setIfInBounds_ne (fun e=>hdt (by rw [hd,e]))]
              exact hx
         ·exfalso
          obtain⟨k,hmk⟩:=memOf hB
          have hb:=hKB _ hmk
          rw [ho'] at hb
          simp only [Bool.and_eq_true,List.any_eq_true,Bool.or_eq_true,Nat.beq_eq] at hb
          obtain⟨_,d,hd,hdw⟩:=hb
          have hld:=hdeps d hd
          rcases hdw with rfl | hdw
          ·rw [hWn] at hld; cases hld
          ·obtain⟨k',hmk'⟩:=memOf hdw
           rw [hBn d k' hmk'] at hld; cases hld
        ·obtain⟨g1,g2,g3⟩:=runQ_spec _ _ hrun
         have hmono:∀t u,T.get t=some u→T2.get t=some u:=fun t u hu=>g1 t u (putT_mono hfr hu)
         have keepLoud:∀j k o,(j,k)∈KA→ops'[j]? = some o→loudK k o=true→(listed.setIfInBounds i true).getD j false=true:=by
          intro j k o hj hoj hlk
          rw [listed_set]; exact .inr (hloud j k o hj hoj hlk)
         rcases hcv i hlt with (hA | rfl) | hB
         ·obtain⟨k,hmk⟩:=memOf hA
          obtain⟨o,T0,hD⟩:=h3 i k hmk
          have heq:o'=o:=by have:=hD.op; rw [ho'] at this; exact Option.some.inj this
          subst heq
          have hq':loudK k o'=false:=by
           cases hlk:loudK k o' with
           | false=>rfl
           | true=>rw [hloud i k o' hmk ho' hlk] at hno'; cases hno'
          have hD2:=hD.more hmono
          refine did_step hD2 hps (fun c hc=>(hq c hc).2) (fun c hc=>(hq c hc).1) hTL hdeps hin (.inr hq') ?_
          intro u w' hv hi'
          exact⟨by simpa using hs,hcl',.inr ⟨by rw [listed_set]; exact .inr hWy,keepLoud,v,L',T2,ps2,hΨ,hi',hrun,hp2,hgo,TLs_put hTL hD.op hD.dst hv⟩⟩
         ·rw [hWy] at hno'; cases hno'
         ·obtain⟨k,hmk⟩:=memOf hB
          obtain⟨o,T0,hD⟩:=g3 i k hmk
          have heq:o'=o:=by have:=hD.op; rw [ho'] at this; exact Option.some.inj this
          subst heq
          have hb:=hKB _ hmk
          rw [ho'] at hb
          simp only [Bool.and_eq_true,Bool.not_eq_true'] at hb
          refine did_step (F:=F) (Ln:=L') hD hp2 (fun c hc=>by cases hc) (fun c hc=>by cases hc) hTL hdeps hin (.inr hb.1) ?_
          intro u w' hv hi'
          exact⟨by simpa using hs,hcl',.inr ⟨by rw [listed_set]; exact .inr hWy,keepLoud,v,L',T2,ps2,hΨ,hi',hrun,hp2,hgo,TLs_put hTL hD.op hD.dst hv⟩⟩
       ·rintro listed a w hd ⟨_,_,hph⟩
        rcases hph with ⟨hWn,_⟩ | ⟨_,_,v,L',T2,ps2,hΨ,hin,hrun,hp2,hgo,hTL⟩
        ·rw [hd W hWlt] at hWn; cases hWn
        ·refine hgo a w ?_ hin
         refine TRep.restrict ⟨hTL.1, ?_,hTL.2.1⟩ keep
         intro t v hv
         exact hTL.2.2 t v hv fun j oj hj _=>hd j (Array.getElem?_eq_some_iff.1 hj).1
       ·simp only [countNo]; exact Nat.le_trans List.countP_le_length (by simp)
       ·refine⟨by simp, ?_,.inl ⟨replicate_no _ _,fun j _ _=>replicate_no _ _,⟨ht.size,ht.defers, ?_⟩,hi.drew⟩⟩
        ·intro i o _ h
         rw [replicate_no] at h; cases h
        ·intro t v hv hw
         rw [h2 t] at hv
         ·exact ht.get t v hv
         ·intro i k o hm ho hd
          have:=hw i o ho hd
          rw [replicate_no] at this
          cases this
     ·simp at h
    ·simp at h
 ·simp at h
end
end Go.Sx
/- The tail rule for a call; small words for values. -/
namespace Go.Sx
def bAnd(k:IntKind)(x y:Int): Int:=k.wrap ((BitVec.ofInt k.bits x &&& BitVec.ofInt k.bits y).toNat:Int)
def bOr(k:IntKind)(x y:Int): Int:=k.wrap ((BitVec.ofInt k.bits x ||| BitVec.ofInt k.bits y).toNat:Int)
def bXor(k:IntKind)(x y:Int): Int:=k.wrap ((BitVec.ofInt k.bits x ^^^ BitVec.ofInt k.bits y).toNat:Int)
def bAndNot(k:IntKind)(x y:Int): Int:=k.wrap ((BitVec.ofInt k.bits x &&& ~~~ BitVec.ofInt k.bits y).toNat:Int)
def encI(k:IntKind)(n:Int): List Value:=[.int k n]
theorem sizedI(k:IntKind): Sized (encI k) 1:=fun _=>rfl
section
variable {P:Program} {fn:Func} {body:Code} {nt:Nat} {F:Fr} {R:Ending→World→Prop}
def tailGo(P:Program)(body:Code)(nt:Nat)(p:List Nat)(KA:List (Nat×Kq))(W:Nat)(KB:List (Nat×Kq))(tm:TM)(L:List Ent)(v:Value): Option (TM×List Prop):=
 match tailAt P body nt p KA W KB tm L with
 | some (ops,ow,T1,_,_)=>tailEnd P ops nt KB (putT ow.dst v T1)
 | none=>none
def TailNext(P:Program)(fn:Func)(body:Code)(nt:Nat)(F:Fr)(R:Ending→World→Prop)(p:List Nat)(KA:List (Nat×Kq))(W:Nat)(KB:List (Nat×Kq))(tm:TM)(L:List Ent)(keep:List Nat)(v:Value)(ks:List Kont)(L':List Ent): Prop:=
 ∃T2 ps2,tailGo P body nt p KA W KB tm L v=some (T2,ps2)∧allP ps2∧Go P fn body nt F R ks (T2.restrict keep) L'
theorem tail_next{p:List Nat}{KA:List (Nat×Kq)}{W:Nat}{KB:List (Nat×Kq)}{tm tm':TM}{L L':List Ent}{keep:List Nat}{v:Value}{ks:List Kont}{ps2:List Prop}
  (h:(tailGo P body nt p KA W KB tm L v).map (fun r=>(TM.restrict r.1 keep,r.2))=some (tm',ps2)) (hps:allP ps2) (hgo:Go P fn body nt F R ks tm' L') :
  TailNext P fn body nt F R p KA W KB tm L keep v ks L':=by
 simp only [Option.map_eq_some_iff,Prod.mk.injEq] at h
 obtain⟨⟨T2,qs⟩,h1,rfl,rfl⟩:=h
 exact⟨T2,qs,h1,hps,hgo⟩
theorem go_tail_call{p:List Nat}{ks:List Kont}{tm:TM}{L:List Ent}{f:FuncId}{args:Array Value}{pre:List Ent}{Ψ : Value→List Ent→Prop}{dst:Option Nat}{ps:List Prop}{cs:List (FuncId×Array Value×Value)}
  (KA:List (Nat×Kq)) (W:Nat) (KB:List (Nat×Kq)) (idx keep:List Nat) (hmix:P.follows .mixedOrders=true) (hen:Enters P f) (hS:Ctr P f args pre Ψ)
  (h:((tailAt P body nt p KA W KB tm L).map (fun x=>(calleeOf x.2.2.1 x.2.1,x.2.1.dst,x.2.2.2)),pick L idx,places L.length idx)=(some (some (f,args),dst,ps,cs),pre,true))
  (hps:allP ps) (hcs:allQ P F L cs)
  (hk:∀v post,Ψ v post→TailNext P fn body nt F R p KA W KB tm L keep v ks (dropAt L idx++post)):Go P fn body nt F R (.c p :: ks) tm L:=by
 simp only [Prod.mk.injEq,Option.map_eq_some_iff] at h
 obtain⟨⟨⟨ops,ow,T1,ps',cs'⟩,ht,hc,_,rfl,rfl⟩,hp,hi⟩:=h
 refine go_tail KA W KB keep hmix ht hps hcs (runs_call idx hen hS hc hp hi) ?_
 rintro v L' ⟨post,hΨ,rfl⟩
 obtain⟨T2,ps2,h1,h2,h3⟩:=hk v post hΨ
 refine⟨T2,ps2, ?_,h2,h3⟩
 unfold tailGo at h1
 rw [ht] at h1
 exact h1
end
end Go.Sx
/- Laws for append, make and slices of slices, for rows that are owned. -/
namespace Go.Sx
/-- a row's element type: its number, its cells, its bytes -/
def rowT(P:Program)(t:TypeId): Option (TypeId×Nat×Nat):=
 match elemT P t with
 | none=>none
 | some e=>match P.info? e with
  | none=>none
  | some i=>match i.zero with
   | none=>none
   | some z=>bif Nat.beq z.cells.size i.size&&Nat.blt 0 i.size then some (e,i.size,i.bytes) else none
theorem rowT_spec{P:Program}{t e:TypeId}{sz by':Nat}(h:rowT P t=some (e,sz,by')):
  P.underlying t=some (.slice e)∧∃i z,P.info? e=some i∧i.zero=some z∧i.size=sz∧i.bytes=by'∧z.cells.size=sz∧0<sz:=by
 unfold rowT at h
 split at h
 ·simp at h
 ·rename_i e' he
  split at h
  ·simp at h
  ·rename_i i hi
   split at h
   ·simp at h
   ·rename_i z hz
    cases hc:(Nat.beq z.cells.size i.size&&Nat.blt 0 i.size) with
    | false=>rw [hc] at h; simp at h
    | true=>
     rw [hc] at h
     simp only [cond_true,Option.some.injEq,Prod.mk.injEq] at h
     obtain⟨rfl,rfl,rfl⟩:=h
     simp only [Bool.and_eq_true,Nat.beq_eq,Nat.blt_eq] at hc
     exact⟨elemT_eq he,i,z,hi,hz,rfl,rfl,hc.1,hc.2⟩
/-- where the cells that are appended stand -/
def Src(L:List Ent)(F:Fr)(x:Value)(cs:List Value)(n:Nat): Prop:=
 ∀w,In L F w→(x = .slice none 0 0∧cs=[]∧n=0)∨∃ad c,x = .slice (some ad) n c∧∀j u,cs[j]? = some u→w.cell? (ad.add j)=some u
theorem addr_add(b off j:Nat): (⟨b,off,none⟩:Addr).add j=⟨b,off+j,none⟩:=by unfold Addr.add; split <;> simp_all
theorem src_pts{L:List Ent}{F:Fr}{i b n c:Nat}{cs:List Value}{t:TypeId}(hL:L[i]? = some (.pts b cs t)): Src L F (.slice (some ⟨b,0,none⟩) n c) cs n:=by
 intro w hi
 obtain⟨hb,_⟩:=hi.one hL (b:=b) (o:=.cells cs.toArray t (0,0)) (fun g hg=>hg)
 refine .inr ⟨_,_,rfl,fun j u hu => ?_⟩
 rw [addr_add,Nat.zero_add]
 simp [World.cell?,hb,hu]
theorem src_arr{α : Type}{enc : α→List Value}{d : α}{sz:Nat}{xs:List α}{L:List Ent}{F:Fr}{i b c:Nat}{t:TypeId}(hL:L[i]? = some (.arr b enc d sz xs t)):
  Src L F (.slice (some ⟨b,0,none⟩) xs.length c) (cellsOf enc xs) xs.length:=by
 intro w hi
 obtain⟨hb,_⟩:=hi.one hL (b:=b) (o:=.cells (cellsOf enc xs).toArray t (0,0)) (fun g hg=>hg.2)
 refine .inr ⟨_,_,rfl,fun j u hu => ?_⟩
 rw [addr_add,Nat.zero_add]
 simp [World.cell?,hb,hu]
theorem src_sl{α : Type}{a:Option Addr}{enc : α→List Value}{d : α}{sz:Nat}{xs:List α}{L:List Ent}{F:Fr}{i c:Nat}{t:TypeId}(hL:L[i]? = some (.sl a c enc d sz xs t)):
  Src L F (.slice a xs.length c) (cellsOf enc xs) xs.length:=by
 intro w hi
 obtain⟨f,hf,hfit,_⟩:=hi
 obtain⟨f1,g,f2,rfl,⟨hz,hg⟩,_⟩:=dens_get hL hf
 rcases hg with ⟨rfl,rfl,rfl,rfl⟩ | ⟨b,off,pre,post,rfl,hp,_,_,_,rfl⟩
 ·exact .inl ⟨rfl,rfl,rfl⟩
 ·have hb:=hfit.2 (b,.cells (pre++cellsOf enc xs++post).toArray t (0,0)) (by simp)
  refine .inr ⟨_,_,rfl,fun j u hu => ?_⟩
  have hlt:=(List.getElem?_eq_some_iff.1 hu).1
  rw [addr_add]
  simp only [World.cell?,hb,Option.isSome_none,Bool.false_eq_true,if_false,List.getElem?_toArray]
  rw [List.append_assoc,List.getElem?_append_right (by omega),←hp,Nat.add_sub_cancel_left,List.getElem?_append_left hlt,hu]
theorem src_rd{α : Type}{a:Option Addr}{enc : α→List Value}{d : α}{sz:Nat}{xs:List α}{L:List Ent}{F:Fr}{i c:Nat}{t:TypeId}{r:Rest}(hL:L[i]? = some (.rd a c enc d sz xs t r)):
  Src L F (.slice a xs.length c) (cellsOf enc xs) xs.length:=by
 intro w hi
 obtain⟨f,hf,hfit,_⟩:=hi
 obtain⟨f1,g,f2,rfl,⟨hz,hg⟩,_⟩:=dens_get hL hf
 rcases hg with ⟨rfl,rfl,hn⟩ | ⟨b,off,rfl,hp,_,rfl⟩
 ·cases a with
  | none=>rw [hn rfl]; exact .inl ⟨rfl,rfl,rfl⟩
  | some ad=>exact .inr ⟨ad,c,rfl,fun j u hu=>by simp [cellsOf] at hu⟩
 ·have hb:=hfit.2 (b,.cells (r.pre++cellsOf enc xs++r.post).toArray t r.fz) (by simp)
  refine .inr ⟨_,_,rfl,fun j u hu => ?_⟩
  have hlt:=(List.getElem?_eq_some_iff.1 hu).1
  rw [addr_add]
  simp only [World.cell?,hb,Option.isSome_none,Bool.false_eq_true,if_false,List.getElem?_toArray]
  rw [List.append_assoc,List.getElem?_append_right (by omega),←hp,Nat.add_sub_cancel_left,List.getElem?_append_left hlt,hu]
theorem Fits.anew{f1 g f2:Ft}{w:World}(h:Fits (f1++g++f2) w)(o:Obj): Fits (f1++[(w.heap.size,o)]++f2) {w with heap:=w.heap.push o}:=by
 have h0:Fits (f1++f2) w:=by
  have hp:(f1++g++f2).Perm (g++(f1++f2)):=by
   rw [←List.append_assoc]; exact(List.perm_append_comm).append_right _
  exact(h.perm hp).right
 have hp:((w.heap.size,o) :: (f1++f2)).Perm (f1++[(w.heap.size,o)]++f2):=by
  rw [List.append_assoc]; exact(List.perm_middle (l₁ := f1) (l₂ := f2) (a:=(w.heap.size,o))).symm
 refine Fits.perm hp ⟨?_, ?_⟩
 ·simp only [List.map_cons,List.nodup_cons]
  refine⟨?_,h0.1⟩
  intro hm
  obtain⟨p,hp,he⟩:=List.mem_map.1 hm
  have:=h0.lt hp
  omega
 ·intro p hp
  rcases List.mem_cons.1 hp with rfl | hp
  ·simp
  ·have:=h0.lt hp
   have hx:=h0.2 p hp
   simp only [Array.getElem?_push]
   rw [if_neg (by omega)]
   exact hx
theorem append_room{P:Program}{t ty e:TypeId}{i:TypeInfo}{w:World}(ht:P.underlying t=some (.slice e))(hi:P.info? e=some i){g off n c:Nat}{cur:List Value}{te:TypeId}(hg:w.heap[g]? = some (.cells cur.toArray te (0,0)))
  {a:Addr} {m k:Nat} {news:List Value} (hl:news.length=m*i.size) (hn:∀j u,news[j]? = some u→w.cell? (a.add j)=some u) (h1:∀u∈news,u.oneCell'=true) (hroom:n+m≤c)
  (hfit:off+n*i.size+news.length≤cur.length) :
  (Builtin.append_ #[t,t] ty #[.slice (some ⟨g,off,none⟩) n c,.slice (some a) m k]).run P w = .ok (.slice (some ⟨g,off,none⟩) (n+m) c) (w.setRow g (splice cur (off+n*i.size) news).toArray):=by
 have hf:=run_firstCells_some (P:=P) w i.size m a m k news hl hn
 have hst:=run_storeCells_at P g (off+n*i.size) te news 0 cur.toArray w hg (by simpa using hfit) h1
 simp only [Nat.add_zero] at hst
 simp [Builtin.append_,run_underlying ht,sizeOf,typeInfo,hi,Builtin.lenOf,hroom,hf,addr_add,hst,splice]
section
variable {P:Program} {F:Fr}
theorem runs_append{o:Oper}{tm:TM}{s x:Operand}{t e:TypeId}{sz by':Nat}{L:List Ent}{k:Nat}{α : Type}{a:Option Addr}{c:Nat}{enc : α→List Value}{d : α}{xs ys:List α}{xv:Value}{te:TypeId}
  (hop:o.op = .call {callee:=.builtin .append,args := #[s,x],argTypes := #[t,t]}) (hs:tm.eval s = .slice a xs.length c) (hx:tm.eval x=xv)
  (ht:rowT P t=some (e,sz,by')) (hte:te=e) (hL:L[k]? = some (.sl a c enc d sz xs te)) (hsrc:Src L F xv (cellsOf enc ys) ys.length) (h1:∀y,∀u∈enc y,u.oneCell'=true)
  (hlen:xs.length+ys.length≤9223372036854775807) (hby:(xs.length+ys.length)*by'≤140737488355328) :
  Runs P F o (execOp tm.eval o) L (fun v L' => ∃a' c',v = .slice a' (xs++ys).length c' ∧L'=L.set k (.sl a' c' enc d sz (xs++ys) te)):=by
 intro ac w K Q hin hk
 subst hte
 obtain⟨hu,i,z,hi,hz,hsize,hbytes,hzs,hpos⟩:=rowT_spec ht
 have hrun0:execOp tm.eval o=(do pure (.value (←Builtin.append_ #[t,t] o.type #[.slice a xs.length c,xv])):Sem Next):=by
  simp only [execOp,hop,resolve,invoke,builtin,List.map_toArray,List.map_cons,List.map_nil,hs,hx]
  rfl
 obtain⟨f,hf,hfit,g1,g2,g3⟩:=hin
 obtain⟨f1,g,f2,rfl,⟨hsd,hg⟩,hset⟩:=dens_get hL hf
 have hsrc':=hsrc w ⟨_,hf,hfit,g1,g2,g3⟩
 have hcl:(cellsOf enc ys).length=ys.length*i.size:=by rw [cellsOf_length hsd,hsize]
 have hcx:(cellsOf enc xs).length=xs.length*i.size:=by rw [cellsOf_length hsd,hsize]
 have hone:∀u∈cellsOf enc ys,u.oneCell'=true:=by
  intro u hu
  obtain⟨y,_,hy⟩:=List.mem_flatMap.1 hu
  exact h1 y u hy
 have fin:∀(v:Value) (w':World) (a':Option Addr) (c':Nat),(Builtin.append_ #[t,t] o.type #[.slice a xs.length c,xv]).run P w = .ok v w'→v = .slice a' (xs++ys).length c'→
   In (L.set k (.sl a' c' enc d sz (xs++ys) te)) F w'→o.upon P ac K Q ((execOp tm.eval o).run P w):=by
  intro v w' a' c' hr hv hi'
  rw [hrun0]
  simp only [Sem.run_bind,hr,Result.andThen_ok,Sem.run_pure,Oper.upon_value]
  exact hk v _ w' ⟨a' ,c',hv,rfl⟩ hi'
 -- a new block
 have grown:∀(cap:Nat) (rest:List Value),(xs++ys).length≤cap→cap≤maxLen→cap*sz≤(xs++ys).length*sz+rest.length→∀(ob:Obj),ob = .cells (cellsOf enc (xs++ys)++rest).toArray te (0,0)→
   In (L.set k (.sl (some ⟨w.heap.size,0,none⟩) cap enc d sz (xs++ys) te)) F (w.drew.alloc ob):=by
  intro cap rest hc1 hc2 hc3 ob hob
  refine⟨f1++[(w.heap.size,ob)]++f2,hset _ _ ⟨hsd,.inr ⟨w.heap.size,0,[],rest,rfl,rfl,hc3,hc1,hc2,by simp [hob]⟩⟩, ?_,g1,g2,g3⟩
  have h0:Fits (f1++g++(f2++F.f)) w:=by simpa using hfit
  have h2:Fits (f1++[(w.heap.size,ob)]++(f2++F.f)) (w.drew.alloc ob):=h0.anew ob
  simpa using h2
 have capOk:∀(need old:Nat),need≤maxLen→need≤grownCap w need old te∧grownCap w need old te≤maxLen:=fun need old h=>⟨grownCap_ge w need old te,grownCap_le_maxLen w need old te h⟩
 have hmax:xs.length+ys.length≤maxLen:=by simp only [maxLen]; omega
 have hlen':(xs++ys).length=xs.length+ys.length:=List.length_append
 have hzc:∀n,(Builtin.zeroCells z.cells n).toList.length=n*sz:=by intro n; simp [size_zeroCells,hzs]
 rcases hg with ⟨rfl,rfl,rfl,rfl⟩ | ⟨b,off,pre,post,rfl,hp,hc3,hc1,hc2,rfl⟩
 ·-- the nil row
  rcases hsrc' with ⟨rfl,hcs,hn⟩ | ⟨ad,c',rfl,hcells⟩
  ·have hy:ys=[]:=List.eq_nil_of_length_eq_zero hn
   subst hy
   refine fin (.slice none 0 0) w none 0 ?_ rfl ⟨_,hset (.sl none 0 enc d sz ([]++[]) te) [] ⟨hsd,.inl ⟨rfl,rfl,rfl,rfl⟩⟩,by simpa using hfit,g1,g2,g3⟩
   simp [Builtin.append_,run_underlying hu,sizeOf,typeInfo,hi,Builtin.lenOf,Builtin.firstCells]
  ·by_cases h0:ys.length=0
   ·have hy:ys=[]:=List.eq_nil_of_length_eq_zero h0
    subst hy
    refine fin (.slice none 0 0) w none 0 ?_ rfl ⟨_,hset (.sl none 0 enc d sz ([]++[]) te) [] ⟨hsd,.inl ⟨rfl,rfl,rfl,rfl⟩⟩,by simpa using hfit,g1,g2,g3⟩
    simp [Builtin.append_,run_underlying hu,sizeOf,typeInfo,hi,Builtin.lenOf,Builtin.firstCells,loadCells,loadCellsFrom]
   ·have hr:=run_append_nil (P:=P) w t o.type te i z hu hi hz ad ys.length c' (cellsOf enc ys) hcl hcells (by omega) (by simp at hlen; omega) (by rw [hbytes]; simp at hby; omega)
    simp only [List.length_nil,Nat.zero_add] at hmax
    obtain⟨q1,q2⟩:=capOk ys.length 0 hmax
    refine fin _ _ (some ⟨w.heap.size,0,none⟩) (grownCap w ys.length 0 te) hr (by simp) (grown _ (Builtin.zeroCells z.cells (grownCap w ys.length 0 te-ys.length)).toList (by simpa using q1) q2 ?_ _ ?_)
    ·rw [hzc,List.nil_append,←Nat.add_mul]; exact Nat.mul_le_mul_right _ (by omega)
    ·simp
 ·have hb:=hfit.2 (b,.cells (pre++cellsOf enc xs++post).toArray te (0,0)) (by simp)
  have hold:∀j u,(cellsOf enc xs)[j]? = some u→w.cell? ((⟨b,off,none⟩:Addr).add j)=some u:=by
   intro j u hu
   have hlt:=(List.getElem?_eq_some_iff.1 hu).1
   rw [addr_add]
   simp only [World.cell?,hb,Option.isSome_none,Bool.false_eq_true,if_false,List.getElem?_toArray]
   rw [List.append_assoc,List.getElem?_append_right (by omega),←hp,Nat.add_sub_cancel_left,List.getElem?_append_left hlt,hu]
  by_cases hroom:xs.length+ys.length≤c
  ·-- there is room
   have hcur:(pre++cellsOf enc xs++post).length=off+xs.length*i.size+post.length:=by simp [hp,hcx]; omega
   have hpost:ys.length*sz≤post.length:=by
    have:(xs.length+ys.length)*sz≤c*sz:=Nat.mul_le_mul_right _ hroom
    rw [Nat.add_mul] at this
    omega
   rcases hsrc' with ⟨rfl,hcs,hn⟩ | ⟨ad,c',rfl,hcells⟩
   ·have hy:ys=[]:=List.eq_nil_of_length_eq_zero hn
    subst hy
    refine fin (.slice (some ⟨b,off,none⟩) xs.length c) w (some ⟨b,off,none⟩) c ?_ (by simp) ⟨_,hset (.sl (some ⟨b,off,none⟩) c enc d sz (xs++[]) te) [(b,.cells (pre++cellsOf enc xs++post).toArray te (0,0))] ⟨hsd,.inr ⟨b,off,pre,post,rfl,hp,by simpa using hc3,by simpa using hc1,hc2,by simp⟩⟩,by simpa using hfit,g1,g2,g3⟩
    simp [Builtin.append_,run_underlying hu,sizeOf,typeInfo,hi,Builtin.lenOf,Builtin.firstCells,hc1,storeCells]
   ·have hfr:off+xs.length*i.size+(cellsOf enc ys).length≤(pre++cellsOf enc xs++post).length:=by rw [hcur,hcl,hsize]; omega
    have hr:=append_room (P:=P) (ty:=o.type) hu hi hb (c:=c) hcl hcells hone hroom hfr (k:=c')
    have hsp:splice (pre++cellsOf enc xs++post) (off+xs.length*i.size) (cellsOf enc ys)=pre++cellsOf enc (xs++ys)++post.drop (ys.length*sz):=by
     have e1:pre.length+(cellsOf enc xs).length=off+xs.length*i.size:=by rw [hp,hcx]
     unfold splice
     rw [←e1,←List.length_append,List.take_left,←List.length_append,List.append_assoc (pre++cellsOf enc xs)]
     have:(pre++cellsOf enc xs++post).drop ((pre++cellsOf enc xs)++cellsOf enc ys).length=post.drop (ys.length*sz):=by
      rw [List.length_append (as:=pre++cellsOf enc xs),List.drop_length_add_append,hcl,hsize]
     rw [this]
     simp [cellsOf,List.flatMap_append,List.append_assoc]
    rw [hsp] at hr
    refine fin _ _ (some ⟨b,off,none⟩) c hr (by simp) ⟨_,hset (.sl (some ⟨b,off,none⟩) c enc d sz (xs++ys) te) [(b,.cells (pre++cellsOf enc (xs++ys)++post.drop (ys.length*sz)).toArray te (0,0))] ⟨hsd,.inr ⟨b,off,pre,_,rfl,hp, ?_,by simpa using hroom,hc2,rfl⟩⟩, ?_,g1,g2,g3⟩
    ·rw [List.length_drop,hlen',Nat.add_mul]; omega
    ·have hfit':Fits (f1++(b,.cells (pre++cellsOf enc xs++post).toArray te (0,0)) :: (f2++F.f)) w:=by simpa using hfit
     have:=Fits.turn hfit' (w':=w.setRow b (pre++cellsOf enc (xs++ys)++post.drop (ys.length*sz)).toArray) (setRow_heap w b _ _ te (0,0) hb) (fun k hk=>setRow_other w b k _ hk)
     simpa using this
  ·-- there is none
   rcases hsrc' with ⟨rfl,hcs,hn⟩ | ⟨ad,c',rfl,hcells⟩
   ·omega
   ·have hr:=run_append_grow (P:=P) w t o.type te i z hu hi hz ⟨b,off,none⟩ xs.length c (cellsOf enc xs) hcx hold ad ys.length c' (cellsOf enc ys) hcl hcells (by omega) (by omega)
     (growslice_fits (by omega) (by rw [hbytes]; exact hby))
    obtain⟨q1,q2⟩:=capOk (xs.length+ys.length) c hmax
    refine fin _ _ (some ⟨w.heap.size,0,none⟩) (grownCap w (xs.length+ys.length) c te) hr (by simp) (grown _ (Builtin.zeroCells z.cells (grownCap w (xs.length+ys.length) c te-(xs.length+ys.length))).toList (by rw [hlen']; exact q1) q2 ?_ _ ?_)
    ·rw [hzc,hlen',←Nat.add_mul]; exact Nat.mul_le_mul_right _ (by omega)
    ·simp [cellsOf,List.flatMap_append]
end
end Go.Sx
/- Rules for append, slices and make, as a walk uses them. -/
namespace Go.Sx
section
variable {P:Program} {fn:Func} {body:Code} {nt:Nat} {F:Fr} {R:Ending→World→Prop}
/-- a nil row is owned by whoever names it -/
theorem go_nil{α : Type}{ks:List Kont}{tm:TM}{L:List Ent}(enc : α→List Value)(d : α)(sz:Nat)(t:TypeId)(hs:Sized enc sz)
  (h:Go P fn body nt F R ks tm (L++[.sl none 0 enc d sz [] t])):Go P fn body nt F R ks tm L:=by
 intro a w ht hi
 refine h a w ht ?_
 obtain⟨f,hf,hfit,h1⟩:=hi
 exact⟨f++[],dens_append.2 ⟨f,[],rfl,hf,[],[],rfl,⟨hs,.inl ⟨rfl,rfl,rfl,rfl⟩⟩,rfl⟩,by simpa using hfit,h1⟩
def appArgs(P:Program)(body:Code)(nt:Nat)(p:List Nat)(k:Nat)(tm:TM): Option (Value×Value×(TypeId×Nat×Nat)×Option Nat):=
 match opAt body nt p k tm with
 | none=>none
 | some o=>match o.op with
  | .call {callee:=.builtin .append,args:=⟨[s,x]⟩,argTypes:=⟨[t,t']⟩}=>
   bif Nat.beq t t' then match rowT P t with
    | some r=>some (tm.eval s,tm.eval x,r,o.dst)
    | none=>none
   else none
  | _=>none
theorem go_append{α : Type}{p:List Nat}{k:Nat}{ks:List Kont}{tm:TM}{L:List Ent}(i:Nat)(dst:Option Nat){a:Option Addr}{c:Nat}{enc : α→List Value}{d : α}{sz:Nat}{xs:List α}{te:TypeId}
  (hL:L[i]? = some (.sl a c enc d sz xs te)) {xv:Value} (ys:List α) (hsrc:Src L F xv (cellsOf enc ys) ys.length) (h1:∀y,∀u∈enc y,u.oneCell'=true) (by':Nat)
  (h:appArgs P body nt p k tm=some (.slice a xs.length c,xv,(te,sz,by'),dst)) (hlen:xs.length+ys.length≤9223372036854775807) (hby:(xs.length+ys.length)*by'≤140737488355328)
  (hk:∀a' c',Go P fn body nt F R (.o p (k+1) :: ks) (putT dst (.slice a' (xs++ys).length c') tm) (L.set i (.sl a' c' enc d sz (xs++ys) te))):Go P fn body nt F R (.o p k :: ks) tm L:=by
 unfold appArgs at h
 split at h
 ·simp at h
 ·rename_i o ho
  split at h
  ·rename_i s x t t' hop
   cases hb:Nat.beq t t' with
   | false=>rw [hb] at h; simp at h
   | true=>
    rw [hb] at h
    rw [Nat.beq_eq] at hb
    subst hb
    simp only [cond_true] at h
    split at h
    ·rename_i r hr
     simp only [Option.some.injEq,Prod.mk.injEq] at h
     obtain⟨hs,hx,rfl,rfl⟩:=h
     refine go_run ho (runs_append hop hs hx hr rfl hL hsrc h1 hlen hby) ?_
     rintro v L' ⟨a' ,c',rfl,rfl⟩
     exact hk a' c'
    ·simp at h
  ·simp at h
/-! ### slices of slices -/
def intV: Value→Option Int
 | .int _ n=>some n
 | _=>none
/-- the slice, where it begins and ends, how many cells an element has, where the result goes -/
def cutArgs(P:Program)(body:Code)(nt:Nat)(p:List Nat)(k:Nat)(tm:TM): Option (Value×Option Value×Option Value×Nat×Option Nat):=
 match opAt body nt p k tm with
 | none=>none
 | some o=>match o.op with
  | .slice t x lo hi none=>match elemT P t with
   | none=>none
   | some e=>match sizeT P e with
    | none=>none
    | some sz=>some (tm.eval x,lo.map tm.eval,hi.map tm.eval,sz,o.dst)
  | _=>none
theorem sliceBound_run{P:Program}{k:IntKind}{i:Int}{y:Nat}{code:BoundsCode}{w:World}(h:0≤i∧i≤(y:Int)): (Instr.sliceBound (.int k i) y code).run P w = .ok i.toNat w:=by
 simp [Instr.sliceBound,asIntOf,h]
/-- where a slice begins; where it ends -/
def loOf: Option Value→Nat
 | some (.int _ n)=>n.toNat
 | _=>0
def hiOf: Option Value→Nat→Nat
 | some (.int _ n),_=>n.toNat
 | _,n=>n
def loOk: Option Value→Nat→Prop
 | none,_=>True
 | some (.int _ n),h=>0≤n∧n≤(h:Int)
 | _,_=>False
def hiOk: Option Value→Nat→Prop
 | none,_=>True
 | some (.int _ n),h=>0≤n∧n≤(h:Int)
 | _,_=>False
theorem sliceBounds_run{P:Program}{lo hi:Option Value}{len cap:Nat}{w:World}(hc:len≤cap)(h1:hiOk hi len)(h2:loOk lo (hiOf hi len)):
  (Instr.sliceBounds true len cap lo hi none).run P w = .ok (loOf lo,hiOf hi len,cap) w:=by
 have hh:∀ {k:IntKind} {n:Int},0≤n∧n≤(len:Int)→(Instr.sliceBound (.int k n) cap .sliceAcap).run P w = .ok n.toNat w:=fun h=>sliceBound_run ⟨h.1,by omega⟩
 cases hi with
 | none=>
  cases lo with
  | none=>simp [Instr.sliceBounds,loOf,hiOf]
  | some v=>
   cases v with
   | int k n=>simp only [loOk,hiOf] at h2; simp [Instr.sliceBounds,loOf,hiOf,sliceBound_run h2]
   | _=>exact h2.elim
 | some u=>
  cases u with
  | int k n=>
   simp only [hiOk] at h1
   cases lo with
   | none=>simp [Instr.sliceBounds,loOf,hiOf,hh h1]
   | some v=>
    cases v with
    | int k' n'=>simp only [loOk,hiOf] at h2; simp [Instr.sliceBounds,loOf,hiOf,hh h1,sliceBound_run h2]
    | _=>exact h2.elim
  | _=>exact h1.elim
theorem runs_cut{α : Type}{o:Oper}{tm:TM}{L:List Ent}(i:Nat){t e:TypeId}{x:Operand}{lo' hi':Option Operand}{a:Option Addr}{c:Nat}{enc : α→List Value}{d : α}{sz':Nat}{xs:List α}{te:TypeId}
  (hop:o.op = .slice t x lo' hi' none) (he:elemT P t=some e) (hsz:sizeT P e=some sz') (hL:L[i]? = some (.sl a c enc d sz' xs te)) (lo hi:Option Value)
  (hx:tm.eval x = .slice a xs.length c) (hlo:lo'.map tm.eval=lo) (hhi:hi'.map tm.eval=hi) (h1:hiOk hi xs.length) (h2:loOk lo (hiOf hi xs.length)) :
  Runs P F o (execOp tm.eval o) L (fun v L' => ∃a' c',v = .slice a' ((xs.take (hiOf hi xs.length)).drop (loOf lo)).length c' ∧L'=L.set i (.sl a' c' enc d sz' ((xs.take (hiOf hi xs.length)).drop (loOf lo)) te)):=by
 have hll:loOf lo≤hiOf hi xs.length:=by
  cases lo with
  | none=>simp [loOf]
  | some v=>cases v <;> first | (simp [loOf]; done) | (simp only [loOk] at h2; simp only [loOf]; omega)
 have hhl:hiOf hi xs.length≤xs.length:=by
  cases hi with
  | none=>simp [hiOf]
  | some v=>cases v <;> first | (simp [hiOf]; done) | (simp only [hiOk] at h1; simp only [hiOf]; omega)
 have hlen:((xs.take (hiOf hi xs.length)).drop (loOf lo)).length=hiOf hi xs.length-loOf lo:=by simp; omega
 intro ac w K Q hin hkk
 obtain⟨f,hf,hfit,g1,g2,g3⟩:=hin
 obtain⟨f1,g,f2,rfl,⟨hsd,hg⟩,hset⟩:=dens_get hL hf
 have hcc:xs.length≤c:=by
  rcases hg with ⟨_,rfl,rfl,_⟩ | ⟨_,_,_,_,_,_,_,h,_⟩
  ·simp
  ·exact h
 have hrun:(execOp tm.eval o).run P w = .ok (.value (.slice (if c=loOf lo then a else a.map (·.add (loOf lo*sz'))) (hiOf hi xs.length-loOf lo) (c-loOf lo))) w:=by
  simp only [execOp,hop,hx,hlo,hhi,Instr.sliceAt,Sem.run_bind,run_underlying (elemT_eq he),Result.andThen_ok]
  simp only [Instr.slice,Sem.run_bind,run_underlying (elemT_eq he),Result.andThen_ok,sliceBounds_run hcc h1 h2,sizeT_run hsz,Option.map_none,Sem.run_pure]
 rw [hrun]
 rw [←hlen]
 rcases hg with ⟨rfl,rfl,rfl,rfl⟩ | ⟨b,off,pre,post,rfl,hp,hc3,hc1,hc2,rfl⟩
 ·have:loOf lo=0:=by simp only [List.length_nil] at hll hhl; omega
  refine hkk _ _ w ⟨none,0, ?_,rfl⟩ ⟨f1++[]++f2, ?_,hfit,g1,g2,g3⟩
  ·simp [this]
  ·exact hset _ _ ⟨hsd,.inl ⟨rfl,rfl,by simp,rfl⟩⟩
 ·by_cases hcl:c=loOf lo
  ·refine hkk _ _ w ⟨some ⟨b,off,none⟩,0, ?_,rfl⟩ ⟨_,hset _ [(b,.cells (pre++cellsOf enc xs++post).toArray te (0,0))] ⟨hsd,.inr ⟨b,off,pre,cellsOf enc xs++post,rfl,hp,by simp,by rw [hlen]; omega,by simp, ?_⟩⟩,hfit,g1,g2,g3⟩
   ·rw [if_pos hcl]; simp [hcl]
   ·have:(xs.take (hiOf hi xs.length)).drop (loOf lo)=[]:=List.eq_nil_of_length_eq_zero (by rw [hlen]; omega)
    rw [this]; simp [cellsOf]
  ·refine hkk _ _ w ⟨some ⟨b,off+loOf lo*sz',none⟩,c-loOf lo, ?_,rfl⟩ ⟨_,hset _ [(b,.cells (pre++cellsOf enc xs++post).toArray te (0,0))] ⟨hsd,.inr ⟨b,off+loOf lo*sz',pre++cellsOf enc (xs.take (loOf lo)),cellsOf enc (xs.drop (hiOf hi xs.length))++post,rfl, ?_, ?_,by rw [hlen]; omega,by omega, ?_⟩⟩,hfit,g1,g2,g3⟩
   ·rw [if_neg hcl]; simp [addr_add]
   ·rw [List.length_append,cellsOf_length hsd,hp,List.length_take]
    rw [Nat.min_eq_left (by omega)]
   ·rw [hlen,List.length_append,cellsOf_length hsd,List.length_drop]
    have e1:(hiOf hi xs.length-loOf lo)*sz'+(xs.length-hiOf hi xs.length)*sz'=(xs.length-loOf lo)*sz':=by rw [←Nat.add_mul]; congr 1; omega
    have e2:(c-loOf lo)*sz'+loOf lo*sz'=c*sz':=by rw [←Nat.add_mul]; congr 1; omega
    have e3:(xs.length-loOf lo)*sz'+loOf lo*sz'=xs.length*sz':=by rw [←Nat.add_mul]; congr 1; omega
    omega
   ·have e:xs=xs.take (loOf lo)++((xs.take (hiOf hi xs.length)).drop (loOf lo))++xs.drop (hiOf hi xs.length):=by
     have e0:xs.take (loOf lo)=(xs.take (hiOf hi xs.length)).take (loOf lo):=by rw [List.take_take,Nat.min_eq_left hll]
     rw [e0,List.take_append_drop,List.take_append_drop]
    congr 2
    have:cellsOf enc xs=cellsOf enc (xs.take (loOf lo))++cellsOf enc ((xs.take (hiOf hi xs.length)).drop (loOf lo))++cellsOf enc (xs.drop (hiOf hi xs.length)):=by
     conv=>lhs; rw [e]
     simp [cellsOf,List.flatMap_append]
    rw [this]
    simp [List.append_assoc]
theorem go_cut{α : Type}{p:List Nat}{k:Nat}{ks:List Kont}{tm:TM}{L:List Ent}(i:Nat)(dst:Option Nat){a:Option Addr}{c:Nat}{enc : α→List Value}{d : α}{sz:Nat}{xs:List α}{te:TypeId}
  (hL:L[i]? = some (.sl a c enc d sz xs te)) (lo hi:Option Value) (h:cutArgs P body nt p k tm=some (.slice a xs.length c,lo,hi,sz,dst)) (h1:hiOk hi xs.length) (h2:loOk lo (hiOf hi xs.length))
  (hk:∀a' c',Go P fn body nt F R (.o p (k+1) :: ks) (putT dst (.slice a' ((xs.take (hiOf hi xs.length)).drop (loOf lo)).length c') tm) (L.set i (.sl a' c' enc d sz ((xs.take (hiOf hi xs.length)).drop (loOf lo)) te))) :
  Go P fn body nt F R (.o p k :: ks) tm L:=by
 unfold cutArgs at h
 split at h
 ·simp at h
 ·rename_i o ho
  split at h
  ·rename_i t x lo' hi' hop
   split at h
   ·simp at h
   ·rename_i e he
    split at h
    ·simp at h
    ·rename_i sz' hsz
     simp only [Option.some.injEq,Prod.mk.injEq] at h
     obtain⟨hx,hlo,hhi,rfl,rfl⟩:=h
     refine go_run ho (runs_cut i hop he hsz hL lo hi hx hlo hhi h1 h2) ?_
     rintro v L' ⟨a' ,c',rfl,rfl⟩
     exact hk a' c'
  ·simp at h
/-! ### make -/
def makeArgs(P:Program)(body:Code)(nt:Nat)(p:List Nat)(k:Nat)(tm:TM): Option (Value×Value×(TypeId×Nat×Nat)×Option (List Value)×Option Nat):=
 match opAt body nt p k tm with
 | none=>none
 | some o=>match o.op with
  | .makeSlice t l c=>match rowT P t with
   | none=>none
   | some r=>some (tm.eval l,tm.eval c,r,(P.info? r.1).bind (fun i=>i.zero.map (fun z=>z.cells.toList)),o.dst)
  | _=>none
theorem cellsOf_replicate{α : Type}{enc : α→List Value}{sz:Nat}(hs:Sized enc sz)(z : α)(h0:0<sz): ∀n,(madeCells (enc z).toArray (n*sz)).toList=cellsOf enc (List.replicate n z):=by
 intro n
 apply List.ext_getElem?
 intro j
 by_cases hj:j<n*sz
 ·have hdiv:j / sz<n:=by rw [Nat.div_lt_iff_lt_mul h0]; exact hj
  have hx:(List.replicate n z)[j / sz]? = some z:=by simp [hdiv]
  have:=cellsOf_get hs (List.replicate n z) (j / sz) (j % sz) z hx (Nat.mod_lt _ h0)
  rw [Nat.div_add_mod'] at this
  rw [this]
  have hm:=Nat.mod_lt j h0
  simp [madeCells,hj,hs z,hm]
 ·have h1:(cellsOf enc (List.replicate n z)).length=n*sz:=by rw [cellsOf_length hs]; simp
  have h2:(madeCells (enc z).toArray (n*sz)).toList.length=n*sz:=by simp [madeCells]
  rw [List.getElem?_eq_none (by rw [h2]; omega),List.getElem?_eq_none (by rw [h1]; omega)]
theorem go_make{α : Type}{p:List Nat}{k:Nat}{ks:List Kont}{tm:TM}{L:List Ent}(enc : α→List Value)(d z : α)(sz:Nat)(hs:Sized enc sz)(te by':Nat)(dst:Option Nat)(n c:Int){kl kc:IntKind}
  (h:makeArgs P body nt p k tm=some (.int kl n,.int kc c,(te,sz,by'),some (enc z),dst)) (h0:0≤n) (hnc:n≤c) (hb:(by':Int)*c≤281474976710656) (h63:c≤9223372036854775807)
  (hk:∀a' c',Go P fn body nt F R (.o p (k+1) :: ks) (putT dst (.slice a' (List.replicate n.toNat z).length c') tm) (L++[.sl a' c' enc d sz (List.replicate n.toNat z) te])) :
  Go P fn body nt F R (.o p k :: ks) tm L:=by
 unfold makeArgs at h
 split at h
 ·simp at h
 ·rename_i o ho
  split at h
  ·rename_i t l c' hop
   split at h
   ·simp at h
   ·rename_i r hr
    simp only [Option.some.injEq,Prod.mk.injEq] at h
    obtain⟨hl,hc,rfl,hz,rfl⟩:=h
    obtain⟨hu,i,zv,hi,hzz,hsize,hbytes,hzs,hpos⟩:=rowT_spec hr
    have hzc:zv.cells.toList=enc z:=by simpa [hi,hzz] using hz
    refine go_run (Ψ := fun v L' => ∃a' c',v = .slice a' (List.replicate n.toNat z).length c' ∧L'=L++[.sl a' c' enc d sz (List.replicate n.toNat z) te]) ho ?_ ?_
    ·intro ac w K Q hin hkk
     have hrun:=run_make w t te i zv hu hi hzz kl kc n c h0 hnc (by rw [hbytes]; exact hb) h63 (P:=P)
     have he:(execOp tm.eval o).run P w = .ok (.value (.slice (some ⟨w.heap.size,0,none⟩) n.toNat c.toNat)) (w.alloc (.cells (madeCells zv.cells (c.toNat*i.size)) te)):=by
      simp [execOp,hop,hl,hc,hrun]
     rw [he]
     refine hkk _ _ _ ⟨some ⟨w.heap.size,0,none⟩,c.toNat,by simp,rfl⟩ ?_
     obtain⟨f,hf,hfit,h1⟩:=hin.alloc (.cells (madeCells zv.cells (c.toNat*i.size)) te)
     obtain⟨f1,f2,rfl,h2,g1,g2,rfl,h3,h4⟩:=dens_append.1 hf
     cases h3; cases h4
     refine⟨_,dens_append.2 ⟨f1,_,rfl,h2,_,[],rfl,⟨hs,.inr ⟨w.heap.size,0,[],cellsOf enc (List.replicate (c.toNat-n.toNat) z),rfl,rfl, ?_, ?_, ?_, ?_⟩⟩,rfl⟩,hfit,h1⟩
     ·rw [cellsOf_length hs,←Nat.add_mul]
      simp only [List.length_replicate]
      exact Nat.mul_le_mul_right _ (by omega)
     ·simp only [List.length_replicate]; omega
     ·simp only [maxLen]; omega
     ·have e1:zv.cells=(enc z).toArray:=by rw [←hzc]
      have e2:madeCells zv.cells (c.toNat*i.size)=(cellsOf enc (List.replicate c.toNat z)).toArray:=by
       rw [e1,hsize,←cellsOf_replicate hs z hpos]
      have e3:List.replicate c.toNat z=List.replicate n.toNat z++List.replicate (c.toNat-n.toNat) z:=by
       rw [List.replicate_append_replicate]; congr 1; omega
      rw [e2,e3]
      simp only [cellsOf,List.flatMap_append,List.nil_append]
    ·rintro v L' ⟨a' ,c'',rfl,rfl⟩
     exact hk a' c''
  ·simp at h
end
end Go.Sx
/- Calls of functions that have no body: atomic numbers. Small rules for slices. -/
namespace Go.Sx
section
variable {P:Program} {fn:Func} {body:Code} {nt:Nat} {F:Fr} {R:Ending→World→Prop}
theorem go_extern{p:List Nat}{k:Nat}{ks:List Kont}{tm:TM}{L:List Ent}{f:FuncId}{args:Array Value}{Ψ : Value→List Ent→Prop}(dst:Option Nat)
  (h:(opAt body nt p k tm).map (fun o=>(calleeOf tm o,o.dst))=some (some (f,args),dst))
  (hx:∀w,In L F w→∃v L' w',(callFunc f args).run P w = .ok (.value v) w'∧In L' F w'∧Ψ v L')
  (hk:∀v L',Ψ v L'→Go P fn body nt F R (.o p (k+1) :: ks) (putT dst v tm) L'):Go P fn body nt F R (.o p k :: ks) tm L:=by
 simp only [Prod.mk.injEq,Option.map_eq_some_iff] at h
 obtain⟨o,ho,hc,rfl⟩:=h
 refine go_run ho ?_ hk
 intro a w K Q hin hkk
 unfold calleeOf at hc
 split at hc
 ·rename_i c hop
  split at hc
  ·rename_i x hcx
   split at hc
   ·rename_i f' first captured hv
    simp only [Option.some.injEq,Prod.mk.injEq] at hc
    obtain⟨rfl,rfl⟩:=hc
    obtain⟨v,L' ,w',hr,hi',hΨ⟩:=hx w hin
    have hrun:(execOp tm.eval o).run P w = .ok (.value v) w':=by
     simp only [execOp,hop,resolve,hcx,hv,Deferred.ofValue,Sem.run_bind,Sem.run_pure,Result.andThen_ok,invoke]
     exact hr
    rw [hrun]
    exact hkk v L' w' hΨ hi'
   ·simp at hc
  ·simp at hc
 ·simp at hc
end
section
variable {P:Program} {F:Fr} {fn:Func} {f:FuncId}
theorem ext_load(hf:P.funcs[f]? = some fn)(hname:(fn.name == "runtime.NumGoroutine")=false) (hb:fn.body.isNone=true) (hn:Extern.findNext fn=none) (k:IntKind)
  (he:Extern.find fn=some (Extern.Atomic.loadT (.int k))) {L:List Ent} {i b off:Nat} {cs:List Value} {t:TypeId} {x:Int} (hL:L[i]? = some (.pts b cs t)) (hc:cs[off]? = some (.int k x)) :
  ∀w,In L F w→∃v L' w',(callFunc f #[.pointer (some ⟨b,off,none⟩)]).run P w = .ok (.value v) w'∧In L' F w'∧(v = .int k x∧L'=L):=by
 intro w hin
 obtain⟨hb',_⟩:=hin.one hL (b:=b) (o:=.cells cs.toArray t (0,0)) (fun g hg=>hg)
 exact⟨_,L,w,run_call_load hf hname hb hn k he (by simp [World.cell?,hb',hc]),hin,rfl,rfl⟩
theorem ext_add(hf:P.funcs[f]? = some fn)(hname:(fn.name == "runtime.NumGoroutine")=false) (hb:fn.body.isNone=true) (hn:Extern.findNext fn=none) (k:IntKind)
  (he:Extern.find fn=some (Extern.Atomic.update (Op.intArith .add) k true)) {L:List Ent} {i b off:Nat} {cs:List Value} {t:TypeId} {x y:Int} (hL:L[i]? = some (.pts b cs t)) (hc:cs[off]? = some (.int k x))
  (hin':InK k (x+y)) :
  ∀w,In L F w→∃v L' w',(callFunc f #[.pointer (some ⟨b,off,none⟩),.int k y]).run P w = .ok (.value v) w'∧In L' F w'∧(v = .int k (x+y)∧L'=L.set i (.pts b (cs.set off (.int k (x+y))) t)):=by
 intro w hin
 obtain⟨hb',hset⟩:=hin.one hL (b:=b) (o:=.cells cs.toArray t (0,0)) (fun g hg=>hg)
 have hlt:=(List.getElem?_eq_some_iff.1 hc).1
 refine⟨_,_,_,run_call_add hf hname hb hn k he (x:=x) (y:=y) (s:=x+y) (w:=w) (by simp [World.cell?,hb',hc]) (by simp [World.frozen?,hb']) (by simp [Op.intArith,wrap_in hin']), ?_,rfl,rfl⟩
 refine hset (.cells (cs.set off (.int k (x+y))).toArray t (0,0)) _ _ rfl ?_ ?_ rfl rfl rfl
 ·simp [World.setCell,Array.getElem?_modify,hb']
 ·intro k' hk'
  simp [World.setCell,Array.getElem?_modify,Ne.symm hk']
end
section
variable {P:Program} {fn:Func} {body:Code} {nt:Nat} {F:Fr} {R:Ending→World→Prop}
/-- x[n:] -/
theorem go_cutL{α : Type}{p:List Nat}{k:Nat}{ks:List Kont}{tm:TM}{L:List Ent}(i:Nat)(dst:Option Nat){a:Option Addr}{c:Nat}{enc : α→List Value}{d : α}{sz:Nat}{xs:List α}{te:TypeId}
  (hL:L[i]? = some (.sl a c enc d sz xs te)) (kl:IntKind) (n:Int) (h:cutArgs P body nt p k tm=some (.slice a xs.length c,some (.int kl n),none,sz,dst)) (h2:0≤n∧n≤(xs.length:Int))
  (hk:∀a' c',Go P fn body nt F R (.o p (k+1) :: ks) (putT dst (.slice a' (xs.drop n.toNat).length c') tm) (L.set i (.sl a' c' enc d sz (xs.drop n.toNat) te))) :
  Go P fn body nt F R (.o p k :: ks) tm L:=by
 refine go_cut i dst hL (some (.int kl n)) none h trivial h2 ?_
 intro a' c'
 have:=hk a' c'
 simpa only [hiOf,loOf,List.take_length] using this
/-- x[:n] -/
theorem go_cutH{α : Type}{p:List Nat}{k:Nat}{ks:List Kont}{tm:TM}{L:List Ent}(i:Nat)(dst:Option Nat){a:Option Addr}{c:Nat}{enc : α→List Value}{d : α}{sz:Nat}{xs:List α}{te:TypeId}
  (hL:L[i]? = some (.sl a c enc d sz xs te)) (kl:IntKind) (n:Int) (h:cutArgs P body nt p k tm=some (.slice a xs.length c,none,some (.int kl n),sz,dst)) (h2:0≤n∧n≤(xs.length:Int))
  (hk:∀a' c',Go P fn body nt F R (.o p (k+1) :: ks) (putT dst (.slice a' (xs.take n.toNat).length c') tm) (L.set i (.sl a' c' enc d sz (xs.take n.toNat) te))) :
  Go P fn body nt F R (.o p k :: ks) tm L:=by
 refine go_cut i dst hL none (some (.int kl n)) h h2 trivial ?_
 intro a' c'
 have:=hk a' c'
 simpa only [hiOf,loOf,List.drop_zero] using this
theorem oneI(k:IntKind): ∀y,∀u∈encI k y,u.oneCell'=true:=by
 intro y u hu
 simp only [encI,List.mem_cons,List.not_mem_nil,or_false] at hu
 subst hu; rfl
end
/-- what follows an operation's outcome -/
def NxV(Φ : Value→List Ent→Prop): Next→List Ent→Prop
 | .value v,L => Φ v L
 | .skip,L => Φ undef L
 | _,_=>False
section
variable {P:Program} {fn:Func} {body:Code} {nt:Nat} {F:Fr} {R:Ending→World→Prop}
theorem runs_opS{o:Oper}{h:Hn}{tm:TM}{L:List Ent}{Φ : Value→List Ent→Prop}(hs:(opS P o h tm L).sat (NxV Φ)): Runs P F o (execOp tm.eval o) L Φ := by
 intro a w K Q hin hk
 obtain⟨nx,w' ,L',hr,hi',hΦ⟩:=opS_run hin hs
 rw [hr]
 cases nx with
 | value v=>exact hk v L' w' hΦ hi'
 | skip=>exact hk undef L' w' hΦ hi'
 | _=>exact hΦ.elim
theorem go_tail_op{p:List Nat}{ks:List Kont}{tm:TM}{L:List Ent}{so:SOut Next}{dst:Option Nat}{ps:List Prop}{cs:List (FuncId×Array Value×Value)}
  (KA:List (Nat×Kq)) (W:Nat) (KB:List (Nat×Kq)) (hw:Hn) (keep:List Nat) (hmix:P.follows .mixedOrders=true)
  (h:(tailAt P body nt p KA W KB tm L).map (fun x=>(opS P x.2.1 hw x.2.2.1 L,x.2.1.dst,x.2.2.2))=some (so,dst,ps,cs))
  (hps:allP ps) (hcs:allQ P F L cs)
  (hk:so.sat (NxV fun v L'=>TailNext P fn body nt F R p KA W KB tm L keep v ks L')):Go P fn body nt F R (.c p :: ks) tm L:=by
 simp only [Prod.mk.injEq,Option.map_eq_some_iff] at h
 obtain⟨⟨ops,ow,T1,ps',cs'⟩,ht,hso,_,rfl,rfl⟩:=h
 refine go_tail KA W KB keep hmix ht hps hcs (Ψ := fun v L'=>TailNext P fn body nt F R p KA W KB tm L keep v ks L') (runs_opS (h:=hw) (by rw [hso]; exact hk)) ?_
 rintro v L' ⟨T2,ps2,h1,h2,h3⟩
 refine⟨T2,ps2, ?_,h2,h3⟩
 unfold tailGo at h1
 rw [ht] at h1
 exact h1
theorem sat_obl{α : Type}{Φ : α→List Ent→Prop}{p:Prop}{o:SOut α}(hp:p)(h:o.sat Φ): (SOut.obl p o).sat Φ := ⟨hp,h⟩
theorem sat_new{α : Type}{Φ : α→List Ent→Prop}{k:Nat→SOut α}(h:∀b,(k b).sat Φ): (SOut.new k).sat Φ := h
theorem sat_ex{α β : Type}{Φ : α→List Ent→Prop}{k : β→SOut α}(x : β)(h:(k x).sat Φ): (SOut.ex k).sat Φ := ⟨x,h⟩
theorem sat_value{Φ : Value→List Ent→Prop}{v:Value}{L:List Ent}(h : Φ v L): (SOut.ok (Next.value v) L).sat (NxV Φ):=h
theorem sat_skip{Φ : Value→List Ent→Prop}{L:List Ent}(h : Φ undef L): (SOut.ok Next.skip L).sat (NxV Φ):=h
end
def bMin(x y:Int): Int:=if y<x then y else x
def bMax(x y:Int): Int:=if y>x then y else x
theorem beqT{α : Type}[BEq α][LawfulBEq α]{a b : α}(h:(a==b)=true): a=b:=eq_of_beq h
theorem beqF{α : Type}[BEq α][LawfulBEq α]{a b : α}(h:(a==b)=false): a≠b:=by intro e; subst e; simp at h
theorem bneT{α : Type}[BEq α][LawfulBEq α]{a b : α}(h:(a != b)=true): a≠b:=by intro e; subst e; simp at h
theorem bneF{α : Type}[BEq α][LawfulBEq α]{a b : α}(h:(a != b)=false): a=b:=by simpa using h
theorem notT{b:Bool}(h:(!b)=true): b=false:=by simpa using h
theorem notF{b:Bool}(h:(!b)=false): b=true:=by simpa using h
theorem decT{p:Prop}[Decidable p](h:decide p=true): p:=of_decide_eq_true h
theorem decF{p:Prop}[Decidable p](h:decide p=false): ¬p:=of_decide_eq_false h
end Go.Sx
/- Regions whose order is drawn, order by order. -/
namespace Go.Sx
def isPure: Op→Bool
 | .move _ | .assign _ | .pick .. | .build .. | .nilCheck _ | .binOp .. | .unOp .. | .convert .. | .fieldAddr .. | .field .. | .indexAddr .. | .index .. | .extract .. | .makeInterface .. | .makeFunc .. => true
 | .call {callee:=.builtin .len,..}=>true
 | _=>false
def hintOf: List (Nat×Hn)→Nat→Hn
 | [],_=>.w
 | (j,h) :: r,i=>bif Nat.beq j i then h else hintOf r i
/-- an operation that may come now, and looks at nothing but known values -/
def pickPure(P:Program)(ops:Array Oper)(nt:Nat)(hs:List (Nat×Hn))(l:Array Bool)(tm:TM): List Nat→Option (Nat×Option Nat×Value×List Prop)
 | []=>none
 | i :: is=>
  match ops[i]? with
  | none=>pickPure P ops nt hs l tm is
  | some o=>
   bif (Region.ready .any ops l).contains i&&Region.free .any ops l i&&dstOk nt o.dst && !isSelect o.op then
    match guardOf ops o tm with
    | some false=>some (i,o.dst,undef,[])
    | some true=>bif isPure o.op&&o.op.operands.all tm.knows then
      match opP P o (hintOf hs i) tm with
      | some (ps,v)=>some (i,o.dst,v,ps)
      | none=>pickPure P ops nt hs l tm is
     else pickPure P ops nt hs l tm is
    | none=>pickPure P ops nt hs l tm is
   else pickPure P ops nt hs l tm is
def anyPure(P:Program)(ops:Array Oper)(nt:Nat)(hs:List (Nat×Hn)): Nat→Array Bool→TM→List Prop→Array Bool×TM×List Prop
 | 0,l,tm,ps=>(l,tm,ps)
 | n+1,l,tm,ps=>match pickPure P ops nt hs l tm (List.range ops.size) with
  | some (i,d,v,qs)=>anyPure P ops nt hs n (l.setIfInBounds i true) (putT d v tm) (ps++qs)
  | none=>(l,tm,ps)
section
variable {P:Program} {fn:Func} {body:Code} {nt:Nat} {F:Fr} {R:Ending→World→Prop}
/-- the rest of a region, some operations of which are done -/
def Any(P:Program)(fn:Func)(body:Code)(nt:Nat)(F:Fr)(R:Ending→World→Prop)(ops:Array Oper)(ks:List Kont)(l:Array Bool)(tm:TM)(L:List Ent): Prop:=
 ∀a w fuel,l.size=ops.size→countNo l≤fuel→TRep nt tm a→In L F w→wpAny P .any ops (KQ P fn body R ks) fuel l a w
theorem any_weak{ops:Array Oper}{ks:List Kont}{l:Array Bool}{tm tm':TM}{L L':List Ent}(keep idx:List Nat)(h:(tm.restrict keep,pick L idx,places L.length idx)=(tm' ,L',true))
  (hg:Any P fn body nt F R ops ks l tm' L'):Any P fn body nt F R ops ks l tm L:=by
 simp only [Prod.mk.injEq] at h
 obtain⟨rfl,rfl,h⟩:=h
 exact fun a w fuel hs hf ht hi=>hg a w fuel hs hf (ht.restrict _) (hi.pick idx h)
theorem KQ_panic(d:Option Nat)(v:Value): ∀(ks:List Kont) (c:List PanicEntry) (a:Act) (w:World),KQ P fn body R ks (.panic c) (a.put d v) w→KQ P fn body R ks (.panic c) a w
 | [],c,a,w,h=>by
  obtain⟨h1,h2⟩:=h
  exact⟨by cases d <;> simpa [Act.put] using h1,h2⟩
 | .b _ :: ks,c,a,w,h=>KQ_panic d v ks c a w h
 | .c _ :: ks,c,a,w,h=>KQ_panic d v ks c a w h
 | .o _ _ :: ks,c,a,w,h=>KQ_panic d v ks c a w h
 | .j _ :: ks,c,a,w,h=>KQ_panic d v ks c a w h
 | .r _ :: ks,c,a,w,h=>KQ_panic d v ks c a w h
theorem pickPure_spec{ops:Array Oper}{hs:List (Nat×Hn)}{l:Array Bool}{tm:TM}: ∀ {is:List Nat} {i:Nat} {d:Option Nat} {v:Value} {ps:List Prop},pickPure P ops nt hs l tm is=some (i,d,v,ps)→
  ∃o,ops[i]? = some o∧(Region.ready .any ops l).contains i=true∧Region.free .any ops l i=true∧dstOk nt o.dst=true∧d=o.dst∧
   (∀a,TRep nt tm a→allP ps→Yields P ops o v a)
 | [],_,_,_,_,h=>by simp [pickPure] at h
 | j :: is,i,d,v,ps,h=>by
  unfold pickPure at h
  split at h
  ·exact pickPure_spec h
  ·rename_i o ho
   cases hc:((Region.ready .any ops l).contains j&&Region.free .any ops l j&&dstOk nt o.dst && !isSelect o.op) with
   | false=>rw [hc] at h; exact pickPure_spec h
   | true=>
    rw [hc] at h
    simp only [cond_true] at h
    simp only [Bool.and_eq_true,Bool.not_eq_true'] at hc
    obtain⟨⟨⟨h1,h2⟩,h3⟩,h4⟩:=hc
    split at h
    ·rename_i hg
     simp only [Option.some.injEq,Prod.mk.injEq] at h
     obtain⟨rfl,rfl,rfl,rfl⟩:=h
     exact⟨o,ho,h1,h2,h3,rfl,fun a ht _=>.inr ⟨guardOf_wanted ht hg,rfl⟩⟩
    ·rename_i hg
     cases hk:(isPure o.op&&o.op.operands.all tm.knows) with
     | false=>rw [hk] at h; exact pickPure_spec h
     | true=>
      rw [hk] at h
      simp only [cond_true] at h
      simp only [Bool.and_eq_true] at hk
      split at h
      ·rename_i qs u hq
       simp only [Option.some.injEq,Prod.mk.injEq] at h
       obtain⟨rfl,rfl,rfl,rfl⟩:=h
       refine⟨o,ho,h1,h2,h3,rfl,fun a ht hp=>.inl ⟨guardOf_wanted ht hg,fun w => ?_⟩⟩
       have he:execOp a.eval o=execOp tm.eval o:=execOp_congr o (fun cs b he=>by rw [he] at h4; simp [isSelect] at h4) fun x hx=>ht.eval (Array.all_eq_true_iff_forall_mem.1 hk.2 x hx)
       rw [he]
       exact opP_run hq hp w
      ·exact pickPure_spec h
    ·exact pickPure_spec h
theorem anyPure_ps{ops:Array Oper}{hs:List (Nat×Hn)}: ∀(n:Nat) (l:Array Bool) (tm:TM) (ps:List Prop) {l':Array Bool} {tm':TM} {ps':List Prop},anyPure P ops nt hs n l tm ps=(l',tm',ps')→allP ps'→allP ps
 | 0,l,tm,ps,l',tm',ps',h,hp=>by simp only [anyPure,Prod.mk.injEq] at h; obtain⟨_,_,rfl⟩:=h; exact hp
 | n+1,l,tm,ps,l',tm',ps',h,hp=>by
  simp only [anyPure] at h
  split at h
  ·exact((allP_append _ _).1 (anyPure_ps n _ _ _ h hp)).1
  ·simp only [Prod.mk.injEq] at h; obtain⟨_,_,rfl⟩:=h; exact hp
/-- what looks at known values alone comes first -/
theorem any_pure_aux{ops:Array Oper}{ks:List Kont}{L:List Ent}(hns:Region.noSelect ops=true){hs:List (Nat×Hn)}: ∀(n:Nat) (l:Array Bool) (tm:TM) (ps:List Prop) {l':Array Bool} {tm':TM} {ps':List Prop},anyPure P ops nt hs n l tm ps=(l',tm',ps')→allP ps'→
  Any P fn body nt F R ops ks l' tm' L→Any P fn body nt F R ops ks l tm L
 | 0,l,tm,ps,l',tm',ps',h,_,hg=>by
  simp only [anyPure,Prod.mk.injEq] at h
  obtain⟨rfl,rfl,_⟩:=h
  exact hg
 | n+1,l,tm,ps,l',tm',ps',h,hp,hg=>by
  simp only [anyPure] at h
  split at h
  ·rename_i i d v qs hpk
   have ih:=any_pure_aux hns n _ _ _ h hp hg
   have hq:=((allP_append _ _).1 (anyPure_ps n _ _ _ h hp)).2
   obtain⟨o,ho,h1,h2,h3,rfl,hy⟩:=pickPure_spec hpk
   intro a w fuel hs hf ht hi
   have hi':=(mem_ready.1 (by simpa using h1)).2.1
   have hcn:=countNo_set l i hi'
   cases fuel with
   | zero=>omega
   | succ fuel=>
    refine wpAny_take ho hns h2 h1 (fun c a w h=>KQ_panic _ _ ks c a w h) (hy a ht hq) ?_
    exact ih _ w fuel (by simpa using hs) (by omega) (putT_rep ht h3 v) hi
  ·simp only [Prod.mk.injEq] at h
   obtain⟨rfl,rfl,_⟩:=h
   exact hg
def regOps(body:Code)(p:List Nat): Array Oper:=
 match look body p with
 | .region _ ops true=>ops
 | _ => #[]
theorem go_any{p:List Nat}{ks:List Kont}{tm:TM}{L:List Ent}(hmix:P.follows .mixedOrders=true)(hl:(match look body p with | .region _ _ true=>true | _=>false)=true)
  (h:Any P fn body nt F R (regOps body p) ks (Array.replicate (regOps body p).size false) tm L):Go P fn body nt F R (.c p :: ks) tm L:=by
 intro a w ht hi
 unfold regOps at h
 split at hl
 ·rename_i id ops hlk
  rw [hlk] at h
  simp only [KQ,hlk]
  refine wp_region_any hmix ?_
  exact h a _ _ (by simp) (by simp only [countNo]; exact Nat.le_trans List.countP_le_length (by simp)) ht hi.drew
 ·simp at hl
theorem any_pure{ops:Array Oper}{ks:List Kont}{l l':Array Bool}{tm tm':TM}{L:List Ent}{ps:List Prop}(hs:List (Nat×Hn))(keep:List Nat)
  (h:(Region.noSelect ops,(anyPure P ops nt hs 200 l tm []).1,TM.restrict (anyPure P ops nt hs 200 l tm []).2.1 keep,(anyPure P ops nt hs 200 l tm []).2.2)=(true,l',tm',ps)) (hp:allP ps)
  (hg:Any P fn body nt F R ops ks l' tm' L):Any P fn body nt F R ops ks l tm L:=by
 simp only [Prod.mk.injEq] at h
 obtain⟨h0,rfl,rfl,rfl⟩:=h
 refine any_pure_aux h0 200 l tm [] (l':=(anyPure P ops nt hs 200 l tm []).1) (tm':=(anyPure P ops nt hs 200 l tm []).2.1) (ps':=(anyPure P ops nt hs 200 l tm []).2.2) rfl hp ?_
 exact fun a w fuel hs' hf ht hi=>hg a w fuel hs' hf (ht.restrict keep) hi
theorem any_done{ops:Array Oper}{ks:List Kont}{l:Array Bool}{tm:TM}{L:List Ent}(h:Region.ready .any ops l=[])(hg:Go P fn body nt F R ks tm L): Any P fn body nt F R ops ks l tm L:=
 fun a w fuel _ _ ht hi=>wpAny_done h (hg a w ht hi) fuel
/-- one operation that may come now -/
def AnyOp(P:Program)(fn:Func)(body:Code)(nt:Nat)(F:Fr)(R:Ending→World→Prop)(ops:Array Oper)(ks:List Kont)(l:Array Bool)(tm:TM)(L:List Ent)(i:Nat): Prop:=
 ∀a w fuel,l.size=ops.size→countNo l≤fuel+1→l.getD i true=false→TRep nt tm a→In L F w→wpOp P ops (KQ P fn body R ks) i (wpAny P .any ops (KQ P fn body R ks) fuel (l.setIfInBounds i true)) a w
def allN(p:Nat→Prop): List Nat→Prop
 | []=>True
 | i :: is=>p i∧allN p is
theorem allN_mem{p:Nat→Prop}: ∀ {l:List Nat},allN p l→∀i∈l,p i
 | [],_,_,h=>by cases h
 | _ :: _,h,i,hi=>by
  rcases List.mem_cons.1 hi with rfl | hi
  ·exact h.1
  ·exact allN_mem h.2 i hi
theorem any_step{ops:Array Oper}{ks:List Kont}{l:Array Bool}{tm:TM}{L:List Ent}(rs:List Nat)(h:Region.ready .any ops l=rs)(hne:rs.isEmpty=false)
  (hg:allN (AnyOp P fn body nt F R ops ks l tm L) rs):Any P fn body nt F R ops ks l tm L:=by
 intro a w fuel hs hf ht hi
 have hne':rs≠[]:=by intro e; subst e; simp at hne
 cases fuel with
 | zero=>
  exfalso
  match rs,hne' with
  | i :: is,_=>
   have:i∈Region.ready .any ops l:=by rw [h]; exact List.mem_cons_self ..
   have:=countNo_set l i (mem_ready.1 this).2.1
   omega
 | succ fuel=>
  refine wpAny_all h hne' fun i hi' => ?_
  have hm:i∈Region.ready .any ops l:=by rw [h]; exact hi'
  exact allN_mem hg i hi' a w fuel hs hf (mem_ready.1 hm).2.1 ht hi
/-- the operation, its operands known -/
def opIn(ops:Array Oper)(nt:Nat)(tm:TM)(i:Nat): Option Oper:=
 match ops[i]? with
 | none=>none
 | some o=>match guardOf ops o tm with
  | some true=>bif dstOk nt o.dst && !isSelect o.op&&o.op.operands.all tm.knows then some o else none
  | _=>none
theorem any_run{ops:Array Oper}{ks:List Kont}{l:Array Bool}{tm:TM}{L:List Ent}{i:Nat}{o:Oper}{Ψ : Value→List Ent→Prop}(ho:opIn ops nt tm i=some o)(hr:Runs P F o (execOp tm.eval o) L Ψ)
  (hk:∀v L',Ψ v L'→Any P fn body nt F R ops ks (l.setIfInBounds i true) (putT o.dst v tm) L'):AnyOp P fn body nt F R ops ks l tm L i:=by
 intro a w fuel hs hf hl ht hi
 unfold opIn at ho
 split at ho
 ·simp at ho
 ·rename_i o' ho'
  split at ho
  ·rename_i hg
   cases hc:(dstOk nt o'.dst && !isSelect o'.op&&o'.op.operands.all tm.knows) with
   | false=>rw [hc] at ho; simp at ho
   | true=>
    rw [hc] at ho
    simp only [cond_true,Option.some.injEq] at ho
    subst ho
    simp only [Bool.and_eq_true,Bool.not_eq_true'] at hc
    obtain⟨⟨hc1,hc2⟩,hc3⟩:=hc
    unfold wpOp
    rw [ho']
    simp only
    rw [if_pos (guardOf_wanted ht hg)]
    refine .inl ?_
    unfold Oper.wp
    have he:execOp a.eval o'=execOp tm.eval o':=execOp_congr o' (fun cs b he=>by rw [he] at hc2; simp [isSelect] at hc2) fun x hx=>ht.eval (Array.all_eq_true_iff_forall_mem.1 hc3 x hx)
    rw [he]
    refine hr a w _ _ hi ?_
    intro v L' w' hΨ hi'
    have:=countNo_set l i hl
    exact hk v L' hΨ _ w' fuel (by simpa using hs) (by omega) (putT_rep ht hc1 v) hi'
  ·simp at ho
theorem any_call{ops:Array Oper}{ks:List Kont}{l:Array Bool}{tm:TM}{L:List Ent}{i:Nat}{f:FuncId}{args:Array Value}{pre:List Ent}{Ψ : Value→List Ent→Prop}(dst:Option Nat)(idx:List Nat)
  (hen:Enters P f) (hS:Ctr P f args pre Ψ)
  (h:((opIn ops nt tm i).map (fun o=>(calleeOf tm o,o.dst)),pick L idx,places L.length idx)=(some (some (f,args),dst),pre,true))
  (hk:∀v post,Ψ v post→Any P fn body nt F R ops ks (l.setIfInBounds i true) (putT dst v tm) (dropAt L idx++post)):AnyOp P fn body nt F R ops ks l tm L i:=by
 simp only [Prod.mk.injEq,Option.map_eq_some_iff] at h
 obtain⟨⟨o,ho,hc,rfl⟩,hp,hi⟩:=h
 refine any_run ho (runs_call idx hen hS hc hp hi) ?_
 rintro v L' ⟨post,hΨ,rfl⟩
 exact hk v post hΨ
theorem any_op{ops:Array Oper}{ks:List Kont}{l:Array Bool}{tm:TM}{L:List Ent}{i:Nat}{so:SOut Next}{dst:Option Nat}(hw:Hn)
  (h:(opIn ops nt tm i).map (fun o=>(opS P o hw tm L,o.dst))=some (so,dst))
  (hk:so.sat (NxV fun v L'=>Any P fn body nt F R ops ks (l.setIfInBounds i true) (putT dst v tm) L')):AnyOp P fn body nt F R ops ks l tm L i:=by
 simp only [Prod.mk.injEq,Option.map_eq_some_iff] at h
 obtain⟨o,ho,hso,rfl⟩:=h
 exact any_run ho (runs_opS (h:=hw) (by rw [hso]; exact hk)) (fun v L' h=>h)
end
end Go.Sx
/- Laws for single operations, by what they are: append, slices of slices, maps. -/
namespace Go.Sx
section
variable {P:Program} {fn:Func} {body:Code} {nt:Nat} {F:Fr} {R:Ending→World→Prop}
theorem go_by{α : Type}{p:List Nat}{k:Nat}{ks:List Kont}{tm:TM}{L:List Ent}{Ψ : Value→List Ent→Prop}(dst:Option Nat)(A:Oper→α)(a0 : α)
  (hR:∀o,A o=a0→Runs P F o (execOp tm.eval o) L Ψ) (h:(opAt body nt p k tm).map (fun o=>(A o,o.dst))=some (a0,dst))
  (hk:∀v L',Ψ v L'→Go P fn body nt F R (.o p (k+1) :: ks) (putT dst v tm) L'):Go P fn body nt F R (.o p k :: ks) tm L:=by
 simp only [Prod.mk.injEq,Option.map_eq_some_iff] at h
 obtain⟨o,ho,ha,rfl⟩:=h
 exact go_run ho (hR o ha) hk
theorem any_by{α : Type}{ops:Array Oper}{ks:List Kont}{l:Array Bool}{tm:TM}{L:List Ent}{i:Nat}{Ψ : Value→List Ent→Prop}(dst:Option Nat)(A:Oper→α)(a0 : α)
  (hR:∀o,A o=a0→Runs P F o (execOp tm.eval o) L Ψ) (h:(opIn ops nt tm i).map (fun o=>(A o,o.dst))=some (a0,dst))
  (hk:∀v L',Ψ v L'→Any P fn body nt F R ops ks (l.setIfInBounds i true) (putT dst v tm) L'):AnyOp P fn body nt F R ops ks l tm L i:=by
 simp only [Prod.mk.injEq,Option.map_eq_some_iff] at h
 obtain⟨o,ho,ha,rfl⟩:=h
 exact any_run ho (hR o ha) hk
end
section
variable {P:Program} {F:Fr}
/-! ### append -/
def appO(P:Program)(tm:TM)(o:Oper): Option (Value×Value×(TypeId×Nat×Nat)):=
 match o.op with
 | .call {callee:=.builtin .append,args:=⟨[s,x]⟩,argTypes:=⟨[t,t']⟩}=>
  bif Nat.beq t t' then match rowT P t with
   | some r=>some (tm.eval s,tm.eval x,r)
   | none=>none
  else none
 | _=>none
theorem R_append{α : Type}{tm:TM}{L:List Ent}(i:Nat){a:Option Addr}{c:Nat}{enc : α→List Value}{d : α}{sz:Nat}{xs:List α}{te:TypeId}
  (hL:L[i]? = some (.sl a c enc d sz xs te)) (xv:Value) (ys:List α) (hsrc:Src L F xv (cellsOf enc ys) ys.length) (h1:∀y,∀u∈enc y,u.oneCell'=true) (by':Nat)
  (hlen:xs.length+ys.length≤9223372036854775807) (hby:(xs.length+ys.length)*by'≤140737488355328) :
  ∀o,appO P tm o=some (.slice a xs.length c,xv,(te,sz,by'))→
   Runs P F o (execOp tm.eval o) L (fun v L' => ∃a' c',v = .slice a' (xs++ys).length c' ∧L'=L.set i (.sl a' c' enc d sz (xs++ys) te)):=by
 intro o h
 unfold appO at h
 split at h
 ·rename_i s x t t' hop
  cases hb:Nat.beq t t' with
  | false=>rw [hb] at h; simp at h
  | true=>
   rw [hb] at h
   rw [Nat.beq_eq] at hb
   subst hb
   simp only [cond_true] at h
   split at h
   ·rename_i r hr
    simp only [Option.some.injEq,Prod.mk.injEq] at h
    obtain⟨hs,hx,rfl⟩:=h
    exact runs_append hop hs hx hr rfl hL hsrc h1 hlen hby
   ·simp at h
 ·simp at h
/-! ### x[n:] -/
def cutO(P:Program)(tm:TM)(o:Oper): Option (Value×Option Value×Option Value×Nat):=
 match o.op with
 | .slice t x lo hi none=>match elemT P t with
  | none=>none
  | some e=>match sizeT P e with
   | none=>none
   | some sz=>some (tm.eval x,lo.map tm.eval,hi.map tm.eval,sz)
 | _=>none
theorem R_cut{α : Type}{tm:TM}{L:List Ent}(i:Nat){a:Option Addr}{c:Nat}{enc : α→List Value}{d : α}{sz:Nat}{xs:List α}{te:TypeId}
  (hL:L[i]? = some (.sl a c enc d sz xs te)) (lo hi:Option Value) (h1:hiOk hi xs.length) (h2:loOk lo (hiOf hi xs.length)) :
  ∀o,cutO P tm o=some (.slice a xs.length c,lo,hi,sz)→
   Runs P F o (execOp tm.eval o) L (fun v L' => ∃a' c',v = .slice a' ((xs.take (hiOf hi xs.length)).drop (loOf lo)).length c' ∧L'=L.set i (.sl a' c' enc d sz ((xs.take (hiOf hi xs.length)).drop (loOf lo)) te)):=by
 intro o h
 unfold cutO at h
 split at h
 ·rename_i t x lo' hi' hop
  split at h
  ·simp at h
  ·rename_i e he
   split at h
   ·simp at h
   ·rename_i sz' hsz
    simp only [Option.some.injEq,Prod.mk.injEq] at h
    obtain⟨hx,hlo,hhi,rfl⟩:=h
    exact runs_cut i hop he hsz hL lo hi hx hlo hhi h1 h2
 ·simp at h
theorem R_cutL{α : Type}{tm:TM}{L:List Ent}(i:Nat){a:Option Addr}{c:Nat}{enc : α→List Value}{d : α}{sz:Nat}{xs:List α}{te:TypeId}
  (hL:L[i]? = some (.sl a c enc d sz xs te)) (kl:IntKind) (n:Int) (h2:0≤n∧n≤(xs.length:Int)) :
  ∀o,cutO P tm o=some (.slice a xs.length c,some (.int kl n),none,sz)→
   Runs P F o (execOp tm.eval o) L (fun v L' => ∃a' c',v = .slice a' (xs.drop n.toNat).length c' ∧L'=L.set i (.sl a' c' enc d sz (xs.drop n.toNat) te)):=by
 intro o h
 have:=R_cut (P:=P) (F:=F) (tm:=tm) i hL (some (.int kl n)) none trivial h2 o h
 simpa only [hiOf,loOf,List.take_length] using this
/-! ### maps from integers -/
/-- a map, by what it holds at each number -/
def IMap{β : Type}(r:Nat)(kk:IntKind)(enc : β→Value)(m:Int→Option β): Res:=fun f=>
 ∃(l:List (Int×β×Nat)) (clock:Nat),f=[(r,.map (l.map fun x=>({key:=.int kk x.1,val:=enc x.2.1,born:=x.2.2}:MapEntry)).toArray clock)]∧∀k,m k=(l.find? (fun x=>x.1==k)).map (·.2.1)
def entM{β : Type}(kk:IntKind)(enc : β→Value)(x:Int×β×Nat): MapEntry:={key:=.int kk x.1,val:=enc x.2.1,born:=x.2.2}
theorem findNow_int{β : Type}{kk kt:IntKind}{enc : β→Value}(k:Int): ∀(l:List (Int×β×Nat)) (i:Nat),
  Instr.findNow (.int kt) (.int kk k) (l.map (entM kk enc)) i=some ((l.findIdx? (fun x=>x.1==k)).bind fun j=>(l[j]?).map fun x=>(i+j,enc x.2.1))
 | [],i=>by simp [Instr.findNow]
 | x :: l,i=>by
  simp only [List.map_cons,Instr.findNow,entM,Instr.sameNow,if_true]
  by_cases h:x.1=k
  ·have h1:(k==x.1)=true:=by simp [h]
   have h2:(x.1==k)=true:=by simp [h]
   rw [h1]
   simp [List.findIdx?_cons,h2]
  ·have h1:(k==x.1)=false:=by simpa using fun e=>h e.symm
   have h2:(x.1==k)=false:=by simpa using h
   rw [h1]
   simp only
   rw [findNow_int k l (i+1)]
   simp only [List.findIdx?_cons,h2,Bool.false_eq_true,if_false]
   cases hf:l.findIdx? (fun x=>x.1==k) with
   | none=>simp
   | some j=>
    simp only [Option.map_some,Option.bind_some,List.getElem?_cons_succ]
    rw [show i+1+j=i+(j+1) from by omega]
def mapT(P:Program)(t:TypeId): Option (IntKind×TypeId×Option Value):=
 match P.underlying t with
 | some (.map k e)=>match P.underlying k with
  | some (.int kk)=>some (kk,e,(P.info? e).bind (·.zero))
  | _=>none
 | _=>none
/-- what a look-up hands back -/
def lookV(ok:Bool)(v:Value)(b:Bool): Value:=
 match ok with
 | true=>.tuple #[v,.bool b]
 | false=>v
def getO(P:Program)(tm:TM)(o:Oper): Option (Value×Value×Bool×IntKind×Option Value):=
 match o.op with
 | .lookup t x k ok=>match mapT P t with
  | some (kk,_,z)=>some (tm.eval x,tm.eval k,ok,kk,z)
  | none=>none
 | _=>none
theorem mapT_spec{P:Program}{t:TypeId}{kk:IntKind}{e:TypeId}{z:Option Value}(h:mapT P t=some (kk,e,z)): ∃kt,P.underlying t=some (.map kt e)∧P.underlying kt=some (.int kk)∧(∀v,z=some v→∀w,(zeroValue e).run P w = .ok v w):=by
 unfold mapT at h
 split at h
 ·rename_i k e' hu
  split at h
  ·rename_i kk' hk
   simp only [Option.some.injEq,Prod.mk.injEq] at h
   obtain⟨rfl,rfl,rfl⟩:=h
   refine⟨k,hu,hk, ?_⟩
   intro v hv w
   simp only [Option.bind_eq_some_iff] at hv
   obtain⟨i,hi,hz⟩:=hv
   simp [zeroValue,run_typeInfo w hi,hz]
  ·simp at h
 ·simp at h
theorem checkKey_int{P:Program}{kt:TypeId}{kk kk':IntKind}(h:P.underlying kt=some (.int kk))(b:Bool)(k:Int)(w:World): (Instr.checkKey b 10000 kt (.int kk' k)).run P w = .ok () w:=by
 have key:∀n,(Instr.checkKey b (n+1) kt (.int kk' k)).run P w = .ok () w:=by
  intro n
  simp only [Instr.checkKey,Sem.run_bind,run_underlying h,Result.andThen_ok]
  rfl
 exact key 9999
theorem find_idx{β : Type}(l:List (Int×β×Nat))(k:Int): ((l.findIdx? (fun x=>x.1==k)).bind fun j=>(l[j]?))=l.find? (fun x=>x.1==k):=by
 induction l with
 | nil=>rfl
 | cons x l ih=>
  by_cases h:(x.1==k)=true
  ·simp [List.findIdx?_cons,h]
  ·have h':(x.1==k)=false:=by simpa using h
   simp only [List.findIdx?_cons,h',Bool.false_eq_true,if_false,List.find?_cons]
   rw [←ih]
   cases l.findIdx? (fun x=>x.1==k) <;> simp
theorem R_get{β : Type}{tm:TM}{L:List Ent}(i:Nat){r:Nat}{kk:IntKind}{enc : β→Value}{m:Int→Option β}(hL:L[i]? = some (.res (IMap r kk enc m)))(k:Int)(ok:Bool)(z : β):
  ∀o,getO P tm o=some (.map (some r),.int kk k,ok,kk,some (enc z))→
   Runs P F o (execOp tm.eval o) L (fun v L'=>v=lookV ok (enc ((m k).getD z)) (m k).isSome∧L'=L):=by
 intro o h
 unfold getO at h
 split at h
 ·rename_i t x kx ok' hop
  split at h
  ·rename_i kk' e zz hm
   simp only [Option.some.injEq,Prod.mk.injEq] at h
   obtain⟨hx,hk,rfl,rfl,rfl⟩:=h
   obtain⟨kt,h1,h2,h3⟩:=mapT_spec hm
   intro ac w K Q hin hkk
   obtain⟨f,hf,hfit,g⟩:=hin
   obtain⟨f1,gg,f2,rfl,⟨l,clock,rfl,hmm⟩,hset⟩:=dens_get hL hf
   have hb:=hfit.2 (r,.map (l.map (entM kk' enc)).toArray clock) (by simp [entM])
   have hrun:(execOp tm.eval o).run P w = .ok (.value (lookV ok' (enc ((m k).getD z)) (m k).isSome)) w:=by
    have hget:(getObj r).run P w = .ok (.map (l.map (entM kk' enc)).toArray clock) w:=by
     simp [getObj,Sem.run,hb]
    have hfind:(Instr.findKey kt (.int kk' k) (l.map (entM kk' enc))).run P w = .ok ((l.findIdx? (fun x=>x.1==k)).bind fun j=>(l[j]?).map fun x=>(0+j,enc x.2.1)) w:=by
     simp only [Instr.findKey,Sem.run_bind,run_underlying h2,Result.andThen_ok,findNow_int]
     rfl
    simp only [execOp,hop,hx,hk,Instr.lookup,Sem.run_bind,run_underlying h1,Result.andThen_ok,hget,Sem.run_pure,checkKey_int h2,hfind]
    have hm':=hmm k
    rw [←find_idx] at hm'
    cases hj:(l.findIdx? (fun x=>x.1==k)).bind fun j=>(l[j]?) with
    | none=>
     rw [hj] at hm'
     have:((l.findIdx? (fun x=>x.1==k)).bind fun j=>(l[j]?).map fun x=>(0+j,enc x.2.1))=none:=by
      cases hi:l.findIdx? (fun x=>x.1==k) with
      | none=>rfl
      | some j=>rw [hi] at hj; simp only [Option.bind_some] at hj ⊢; rw [hj]; rfl
     rw [this]
     simp only [h3 _ rfl,Sem.run_bind,Result.andThen_ok,Sem.run_pure]
     simp only [Option.map_none] at hm'
     rw [hm']
     cases ok' <;> simp [lookV]
    | some x=>
     rw [hj] at hm'
     have:∃j,((l.findIdx? (fun x=>x.1==k)).bind fun j=>(l[j]?).map fun x=>(0+j,enc x.2.1))=some (j,enc x.2.1):=by
      cases hi:l.findIdx? (fun x=>x.1==k) with
      | none=>rw [hi] at hj; cases hj
      | some j=>rw [hi] at hj; simp only [Option.bind_some] at hj ⊢; rw [hj]; exact⟨_,rfl⟩
     obtain⟨j,hj'⟩:=this
     rw [hj']
     simp only [Option.map_some] at hm'
     rw [hm']
     cases ok' <;> simp [lookV]
   rw [hrun]
   exact hkk _ L w ⟨rfl,rfl⟩ ⟨_,hf,hfit,g⟩
  ·simp at h
 ·simp at h
def setO(P:Program)(tm:TM)(o:Oper): Option (Value×Value×Value×IntKind):=
 match o.op with
 | .mapUpdate t x k v=>match mapT P t with
  | some (kk,_,_)=>some (tm.eval x,tm.eval k,tm.eval v,kk)
  | none=>none
 | _=>none
def updM{β : Type}(m:Int→Option β)(k:Int)(v : β): Int→Option β := fun x=>if x=k then some v else m x
theorem find_set{β : Type}(l:List (Int×β×Nat))(k:Int)(v : β): ∀j,l.findIdx? (fun x=>x.1==k)=some j→∀b x,((l.set j (k,v,b)).find? (fun y=>y.1==x)).map (·.2.1)=if x=k then some v else(l.find? (fun y=>y.1==x)).map (·.2.1):=by
 induction l with
 | nil=>intro j h; simp at h
 | cons y l ih=>
  intro j h b x
  simp only [List.findIdx?_cons] at h
  by_cases hy:(y.1==k)=true
  ·rw [if_pos hy] at h
   simp only [Option.some.injEq] at h
   subst h
   simp only [List.set_cons_zero,List.find?_cons]
   have hyk:y.1=k:=by simpa using hy
   by_cases hx:x=k
   ·subst hx; simp
   ·have h1:(k==x)=false:=by simpa using fun e=>hx e.symm
    have h2:(y.1==x)=false:=by rw [hyk]; exact h1
    simp [h1,h2,hx]
  ·have hy':(y.1==k)=false:=by simpa using hy
   rw [if_neg hy] at h
   cases hj:l.findIdx? (fun x=>x.1==k) with
   | none=>rw [hj] at h; simp at h
   | some j'=>
    rw [hj] at h
    simp only [Option.map_some,Option.some.injEq] at h
    subst h
    simp only [List.set_cons_succ,List.find?_cons]
    by_cases hyx:(y.1==x)=true
    ·have:x≠k:=by
      intro e; subst e; rw [hyx] at hy'; cases hy'
     simp [hyx,this]
    ·have hyx':(y.1==x)=false:=by simpa using hyx
     simp only [hyx']
     exact ih j' hj b x
theorem R_set{β : Type}{tm:TM}{L:List Ent}(i:Nat){r:Nat}{kk:IntKind}{enc : β→Value}{m:Int→Option β}(hL:L[i]? = some (.res (IMap r kk enc m)))(k:Int)(x : β):
  ∀o,setO P tm o=some (.map (some r),.int kk k,enc x,kk)→
   Runs P F o (execOp tm.eval o) L (fun v L'=>v=undef∧L'=L.set i (.res (IMap r kk enc (updM m k x)))):=by
 intro o h
 unfold setO at h
 split at h
 ·rename_i t mx kx vx hop
  split at h
  ·rename_i kk' e zz hm
   simp only [Option.some.injEq,Prod.mk.injEq] at h
   obtain⟨hx,hk,hv,rfl⟩:=h
   obtain⟨kt,h1,h2,_⟩:=mapT_spec hm
   intro ac w K Q hin hkk
   obtain⟨f,hf,hfit,g1,g2,g3⟩:=hin
   obtain⟨f1,gg,f2,rfl,⟨l,clock,rfl,hmm⟩,hset⟩:=dens_get hL hf
   have hb:=hfit.2 (r,.map (l.map (entM kk' enc)).toArray clock) (by simp [entM])
   have hget:(getObj r).run P w = .ok (.map (l.map (entM kk' enc)).toArray clock) w:=by
    simp [getObj,Sem.run,hb]
   have hfind:(Instr.findKey kt (.int kk' k) (l.map (entM kk' enc))).run P w = .ok ((l.findIdx? (fun x=>x.1==k)).bind fun j=>(l[j]?).map fun x=>(0+j,enc x.2.1)) w:=by
    simp only [Instr.findKey,Sem.run_bind,run_underlying h2,Result.andThen_ok,findNow_int]
    rfl
   -- what becomes of the heap
   have fin:∀(l':List (Int×β×Nat)) (clock':Nat),(execOp tm.eval o).run P w = .ok .skip {w with heap:=w.heap.setIfInBounds r (.map (l'.map (entM kk' enc)).toArray clock')}→
     (∀y,updM m k x y=(l'.find? (fun z=>z.1==y)).map (·.2.1))→o.upon P ac K Q ((execOp tm.eval o).run P w):=by
    intro l' clock' hr hm'
    rw [hr]
    refine hkk undef _ _ ⟨rfl,rfl⟩ ⟨_,hset (.res (IMap r kk' enc (updM m k x))) [(r,.map (l'.map (entM kk' enc)).toArray clock')] ⟨l',clock',rfl,hm'⟩, ?_,g1,g2,g3⟩
    have hfit':Fits (f1++(r,.map (l.map (entM kk' enc)).toArray clock) :: (f2++F.f)) w:=by
     have e:(fun x:Int×β×Nat=>({key:=.int kk' x.1,val:=enc x.2.1,born:=x.2.2}:MapEntry))=entM kk' enc:=rfl
     rw [e] at hfit
     simpa using hfit
    have hlt:r<w.heap.size:=(Array.getElem?_eq_some_iff.1 hb).1
    have:=Fits.turn hfit' (o':=.map (l'.map (entM kk' enc)).toArray clock') (w':={w with heap:=w.heap.setIfInBounds r (.map (l'.map (entM kk' enc)).toArray clock')}) (by simp [hlt]) (fun k hk=>by simp [Array.getElem?_setIfInBounds_ne (Ne.symm hk)])
    simpa using this
   cases hj:l.findIdx? (fun x=>x.1==k) with
   | none=>
    refine fin (l++[(k,x,clock)]) (clock+1) ?_ ?_
    ·simp only [execOp,hop,hx,hk,hv,Instr.mapUpdate,Sem.run_bind,run_underlying h1,Result.andThen_ok,hget,checkKey_int h2,hfind,hj]
     simp [setObj,Sem.run,hb,entM]
    ·intro y
     have hno:∀z∈l,z.1≠k:=by
      intro z hz
      have:=List.findIdx?_eq_none_iff.1 hj z hz
      simpa using this
     rw [List.find?_append]
     simp only [updM]
     by_cases hy:y=k
     ·subst hy
      have:l.find? (fun z=>z.1==y)=none:=by
       rw [List.find?_eq_none]; intro z hz; simpa using hno z hz
      simp [this]
     ·rw [if_neg hy,hmm y]
      have h1:(k==y)=false:=by simpa using fun e=>hy e.symm
      cases l.find? (fun z=>z.1==y) <;> simp [h1]
   | some j=>
    obtain⟨hlt,hjk,_⟩:=List.findIdx?_eq_some_iff_getElem.1 hj
    have hjk':l[j].1=k:=by simpa using hjk
    refine fin (l.set j (k,x,l[j].2.2)) clock ?_ ?_
    ·simp only [execOp,hop,hx,hk,hv,Instr.mapUpdate,Sem.run_bind,run_underlying h1,Result.andThen_ok,hget,checkKey_int h2,hfind,hj]
     have hlj:l[j]? = some l[j]:=by simp [hlt]
     have hkey:(Instr.keyThatStays (.int kk' l[j].1) (.int kk' k)).run P w = .ok (.int kk' k) w:=by
      simp [Instr.keyThatStays,Instr.sameBits,hjk']
     have hmod:(Array.modify (l.map (entM kk' enc)).toArray j fun e => {e with key:=.int kk' k,val:=enc x})=((l.set j (k,x,l[j].2.2)).map (entM kk' enc)).toArray:=by
      apply Array.ext_getElem?
      intro n
      rw [Array.getElem?_modify]
      simp only [List.getElem?_toArray,List.getElem?_map,List.getElem?_set]
      by_cases hn:j=n
      ·subst hn; simp [hlt,entM]
      ·simp [hn]
     simp only [Option.bind_some,hlj,Option.map_some,Nat.zero_add,List.getElem?_toArray,List.getElem?_map,Option.getD_some,entM,hkey,Result.andThen_ok,Sem.run_bind]
     rw [hmod]
     simp [setObj,Sem.run,hb]
    ·intro y
     rw [find_set l k x j hj,←hmm y]
     rfl
  ·simp at h
 ·simp at h
def clearO(P:Program)(tm:TM)(o:Oper): Option (Value×Bool):=
 match o.op with | .call {callee:=.builtin .clear,args:=⟨[x]⟩,argTypes:=⟨[t]⟩}=>some (tm.eval x,mapT P t |>.isSome) | _=>none
theorem R_clear{β : Type}{tm:TM}{L:List Ent}(i:Nat){r:Nat}{kk:IntKind}{enc : β→Value}{m:Int→Option β}(hL:L[i]? = some (.res (IMap r kk enc m))):
  ∀o,clearO P tm o=some (.map (some r),true)→
   Runs P F o (execOp tm.eval o) L (fun v L'=>v=undef∧L'=L.set i (.res (IMap r kk enc fun _=>none))):=by
 intro o h
 unfold clearO at h
 split at h
 ·rename_i x t hop
  simp only [Option.some.injEq,Prod.mk.injEq,Option.isSome_iff_exists] at h
  obtain⟨hx,⟨⟨kk',e,z⟩,hm⟩⟩:=h
  obtain⟨kt,h1,_,_⟩:=mapT_spec hm
  intro ac w K Q hin hkk
  obtain⟨f,hf,hfit,g1,g2,g3⟩:=hin
  obtain⟨f1,gg,f2,rfl,⟨l,clock,rfl,hmm⟩,hset⟩:=dens_get hL hf
  have e:(fun x:Int×β×Nat=>({key:=.int kk x.1,val:=enc x.2.1,born:=x.2.2}:MapEntry))=entM kk enc:=rfl
  rw [e] at hfit
  have hb:=hfit.2 (r,.map (l.map (entM kk enc)).toArray clock) (by simp)
  have hrun:(execOp tm.eval o).run P w = .ok (.value undef) {w with heap:=w.heap.setIfInBounds r (.map #[] clock)}:=by
   have hget:(getObj r).run P w = .ok (.map (l.map (entM kk enc)).toArray clock) w:=by
    simp [getObj,Sem.run,hb]
   simp only [execOp,hop,resolve,invoke,builtin,List.map_toArray,List.map_cons,List.map_nil,hx,Builtin.clear_,Sem.run_bind,Sem.run_pure,Result.andThen_ok]
   simp [run_underlying h1,hget,setObj,Sem.run,hb,undef]
  rw [hrun]
  refine hkk undef _ _ ⟨rfl,rfl⟩ ⟨_,hset (.res (IMap r kk enc fun _=>none)) [(r,.map #[] clock)] ⟨[],clock,rfl,fun k=>rfl⟩, ?_,g1,g2,g3⟩
  have hfit':Fits (f1++(r,.map (l.map (entM kk enc)).toArray clock) :: (f2++F.f)) w:=by simpa using hfit
  have hlt:r<w.heap.size:=(Array.getElem?_eq_some_iff.1 hb).1
  have:=Fits.turn hfit' (o':=.map #[] clock) (w':={w with heap:=w.heap.setIfInBounds r (.map #[] clock)}) (by simp [hlt]) (fun k hk=>by simp [Array.getElem?_setIfInBounds_ne (Ne.symm hk)])
  simpa using this
 ·simp at h
/-! ### other views of what is owned -/
def View(L L':List Ent): Prop := ∀F w,In L F w→In L' F w
theorem view_map{β : Type}{L:List Ent}(i r:Nat)(kk:IntKind)(enc : β→Value)(hL:L[i]? = some (.raw r (.map #[] 0))): View L (L.set i (.res (IMap r kk enc fun _=>none))):=by
 rintro F w ⟨f,hf,hfit,h⟩
 obtain⟨f1,g,f2,rfl,hg,hset⟩:=dens_get hL hf
 obtain rfl:g=[(r,.map #[] 0)]:=hg
 exact⟨_,hset (.res (IMap r kk enc fun _=>none)) [(r,.map #[] 0)] ⟨[],0,rfl,fun k=>rfl⟩,hfit,h⟩
theorem view_nil{α : Type}{L:List Ent}(enc : α→List Value)(d : α)(sz:Nat)(t:TypeId)(hs:Sized enc sz): View L (L++[.sl none 0 enc d sz [] t]):=by
 rintro F w ⟨f,hf,hfit,h⟩
 exact⟨f++[],dens_append.2 ⟨f,[],rfl,hf,[],[],rfl,⟨hs,.inl ⟨rfl,rfl,rfl,rfl⟩⟩,rfl⟩,by simpa using hfit,h⟩
/-- an empty literal -/
theorem view_empty{α : Type}{L:List Ent}(i:Nat){b:Nat}(enc : α→List Value)(d : α)(sz:Nat)(t:TypeId)(hs:Sized enc sz)(hL:L[i]? = some (.pts b [] t)): View L (L.set i (.sl (some ⟨b,0,none⟩) 0 enc d sz [] t)):=by
 rintro F w ⟨f,hf,hfit,h⟩
 obtain⟨f1,g,f2,rfl,hg,hset⟩:=dens_get hL hf
 obtain rfl:g=[(b,.cells #[] t (0,0))]:=hg
 exact⟨_,hset (.sl (some ⟨b,0,none⟩) 0 enc d sz [] t) [(b,.cells #[] t (0,0))] ⟨hs,.inr ⟨b,0,[],[],rfl,rfl,by simp,by simp,by simp,by simp [cellsOf]⟩⟩,hfit,h⟩
/-- a literal row -/
theorem view_row{α : Type}{L:List Ent}(i:Nat){b:Nat}(enc : α→List Value)(d : α)(sz:Nat)(xs:List α)(t:TypeId)(hs:Sized enc sz)(hlen:xs.length≤maxLen)(hL:L[i]? = some (.pts b (cellsOf enc xs) t)): View L (L.set i (.sl (some ⟨b,0,none⟩) xs.length enc d sz xs t)):=by
 rintro F w ⟨f,hf,hfit,h⟩
 obtain⟨f1,g,f2,rfl,hg,hset⟩:=dens_get hL hf
 obtain rfl:g=[(b,.cells (cellsOf enc xs).toArray t (0,0))]:=hg
 exact⟨_,hset (.sl (some ⟨b,0,none⟩) xs.length enc d sz xs t) [(b,.cells (cellsOf enc xs).toArray t (0,0))] ⟨hs,.inr ⟨b,0,[],[],rfl,rfl,by simp,by simp,hlen,by simp⟩⟩,hfit,h⟩
theorem src_nil{L:List Ent}{F:Fr}: Src L F (.slice none 0 0) [] 0:=fun _ _=>.inl ⟨rfl,rfl,rfl⟩
section
variable {fn:Func} {body:Code} {nt:Nat} {R:Ending→World→Prop}
theorem go_view{ks:List Kont}{tm:TM}{L L':List Ent}(hv:View L L')(h:Go P fn body nt F R ks tm L'): Go P fn body nt F R ks tm L:=fun a w ht hi=>h a w ht (hv F w hi)
theorem any_view{ops:Array Oper}{ks:List Kont}{l:Array Bool}{tm:TM}{L L':List Ent}(hv:View L L')(h:Any P fn body nt F R ops ks l tm L'): Any P fn body nt F R ops ks l tm L:=fun a w fuel hs hf ht hi=>h a w fuel hs hf ht (hv F w hi)
theorem anyOp_view{ops:Array Oper}{ks:List Kont}{l:Array Bool}{tm:TM}{L L':List Ent}{i:Nat}(hv:View L L')(h:AnyOp P fn body nt F R ops ks l tm L' i): AnyOp P fn body nt F R ops ks l tm L i:=fun a w fuel hs hf hl ht hi=>h a w fuel hs hf hl ht (hv F w hi)
end
end
end Go.Sx
/- Objects: what lies behind one entry. -/
namespace Go.Sx
/-- some shape of the entries, of which a fact holds -/
def Box{α : Type}(I : α→Prop)(LL : α→List Ent): Res:=fun f => ∃x,I x∧dens (LL x) f
theorem view_pack{α : Type}(I : α→Prop)(LL : α→List Ent)(x : α){L M:List Ent}(idx:List Nat)(h:(pick L idx,places L.length idx,dropAt L idx)=(LL x,true,M))(hI:I x):
  View L (M++[.res (Box I LL)]):=by
 simp only [Prod.mk.injEq] at h
 obtain⟨h1,h2,h3⟩:=h
 intro F w hi
 have hi':In (dropAt L idx++pick L idx) F w:=(hi.perm (pick_drop_perm L idx h2)).perm List.perm_append_comm
 rw [h1,h3] at hi'
 obtain⟨f,hf,hfit,hr⟩:=hi'
 obtain⟨f1,f2,rfl,ha,hb⟩:=dens_append.1 hf
 exact⟨f1++f2,dens_append.2 ⟨f1,f2,rfl,ha,f2,[],by simp,⟨x,hI,hb⟩,rfl⟩,hfit,hr⟩
theorem in_open{α : Type}{I : α→Prop}{LL : α→List Ent}{L M:List Ent}{F:Fr}{w:World}(i:Nat)
  (h:(pick L [i],places L.length [i],dropAt L [i])=([.res (Box I LL)],true,M)) (hi:In L F w):∃x,I x∧In (M++LL x) F w:=by
 simp only [Prod.mk.injEq] at h
 obtain⟨h1,h2,h3⟩:=h
 have hi':In (dropAt L [i]++pick L [i]) F w:=(hi.perm (pick_drop_perm L [i] h2)).perm List.perm_append_comm
 rw [h1,h3] at hi'
 obtain⟨f,hf,hfit,hr⟩:=hi'
 obtain⟨f1,f2,rfl,ha,g1,g2,rfl,⟨x,hI,hb⟩,hc⟩:=dens_append.1 hf
 have hc':g2=[]:=hc
 subst hc'
 exact⟨x,hI,f1++g1,dens_append.2 ⟨f1,g1,rfl,ha,hb⟩,by simpa using hfit,hr⟩
section
variable {P:Program} {fn:Func} {body:Code} {nt:Nat} {F:Fr} {R:Ending→World→Prop}
theorem go_open{α : Type}{I : α→Prop}{LL : α→List Ent}{ks:List Kont}{tm:TM}{L M:List Ent}(i:Nat)
  (h:(pick L [i],places L.length [i],dropAt L [i])=([.res (Box I LL)],true,M)) (hg:∀x,I x→Go P fn body nt F R ks tm (M++LL x)):Go P fn body nt F R ks tm L:=
 fun a w ht hi=>let ⟨x,hI,hx⟩:=in_open i h hi; hg x hI a w ht hx
theorem ret_view{v:Value}{L L':List Ent}(hv:View L L')(h:(Out.ret v L').ok P fn body nt F R): (Out.ret v L).ok P fn body nt F R:=
 fun w hi=>h w (hv F w hi)
theorem ctr_open{α : Type}{I : α→Prop}{LL : α→List Ent}{f:FuncId}{args:Array Value}{L M:List Ent}{Ψ : Value→List Ent→Prop}(i:Nat)
  (h:(pick L [i],places L.length [i],dropAt L [i])=([.res (Box I LL)],true,M)) (hg:∀x,I x→Ctr P f args (M++LL x) Ψ):Ctr P f args L Ψ :=
 fun F w hi=>let ⟨x,hI,hx⟩:=in_open i h hi; hg x hI F w hx
theorem ctr_pre{f:FuncId}{args:Array Value}{L L':List Ent}{Ψ : Value→List Ent→Prop}(idx:List Nat)(h:(pick L idx,places L.length idx)=(L',true))(hg:Ctr P f args L' Ψ): Ctr P f args L Ψ := by
 simp only [Prod.mk.injEq] at h
 obtain⟨rfl,h⟩:=h
 exact fun F w hi=>hg F w (hi.pick idx h)
theorem ctr_post{f:FuncId}{args:Array Value}{L:List Ent}{Ψ Ψ':Value→List Ent→Prop}(hg:Ctr P f args L Ψ)(h:∀v L,Ψ v L→∃L',View L L' ∧Ψ' v L'): Ctr P f args L Ψ':=
 fun F w hi=>(hg F w hi).mono fun _ _ ⟨v,post,he,hp,hw⟩=>let ⟨L',hv,hp'⟩:=h v post hp; ⟨v,L',he,hp',hv F _ hw⟩
theorem view_pick{L L':List Ent}(idx:List Nat)(h:(pick L idx,places L.length idx)=(L',true)): View L L':=by
 simp only [Prod.mk.injEq] at h
 obtain⟨rfl,h⟩:=h
 exact fun F w hi=>hi.pick idx h
theorem View.trans{L L' L'':List Ent}(h:View L L')(h':View L' L''): View L L'':=fun F w hi=>h' F w (h F w hi)
end
end Go.Sx
namespace Go.Sx
/-- a contract beside what it does not touch -/
theorem ctr_frame{P:Program}{f:FuncId}{args:Array Value}{L L':List Ent}{Ψ : Value→List Ent→Prop}(idx:List Nat)(h:(pick L idx,places L.length idx)=(L',true))(hg:Ctr P f args L' Ψ):
  Ctr P f args L (fun v X => ∃post,Ψ v post∧X=dropAt L idx++post):=by
 simp only [Prod.mk.injEq] at h
 obtain⟨rfl,h⟩:=h
 intro F w hi
 obtain⟨F',h1,h2⟩:=hi.take idx h
 refine(hg F' w h1).mono ?_
 rintro e w' ⟨v,post,rfl,hp,hw⟩
 exact⟨v,_,rfl,⟨post,hp,rfl⟩,h2 post w' hw⟩
end Go.Sx
/- append of a make, to a nil row. -/
namespace Go.Sx
section
variable {P:Program} {F:Fr}
def appZ(P:Program)(tm:TM)(o:Oper): Option (Value×Value×(TypeId×Nat×Nat)×Option (List Value)):=
 match o.op with
 | .call {callee:=.builtin .append,args:=⟨[s,x]⟩,argTypes:=⟨[t,t']⟩}=>
  match intT P t',rowT P t with
  | some _,some r=>some (tm.eval s,tm.eval x,r,(P.info? r.1).bind (fun i=>i.zero.map (fun z=>z.cells.toList)))
  | _,_=>none
 | _=>none
theorem zeroCells_eq{α : Type}{enc : α→List Value}{sz:Nat}(hs:Sized enc sz)(z : α)(h0:0<sz)(zc:Array Value)(hz:zc.toList=enc z)(n:Nat): (Builtin.zeroCells zc n).toList=cellsOf enc (List.replicate n z):=by
 have he:zc=(enc z).toArray:=by rw [←hz]
 rw [←cellsOf_replicate hs z h0 n,he]
 apply List.ext_getElem?
 intro j
 simp only [Builtin.zeroCells,madeCells,hs z,List.size_toArray]
theorem R_appZ{α : Type}{tm:TM}{L:List Ent}(enc : α→List Value)(d z : α){sz:Nat}(hs:Sized enc sz){te:TypeId}{k:IntKind}(n:Int)(by':Nat)
  (h0:0<n) (h63:n≤9223372036854775807) (h48:n*(by':Int)≤140737488355328) :
  ∀o,appZ P tm o=some (.slice none 0 0,.int k n,(te,sz,by'),some (enc z))→
   Runs P F o (execOp tm.eval o) L (fun v L' => ∃a' c',v = .slice a' (List.replicate n.toNat z).length c' ∧L'=L++[.sl a' c' enc d sz (List.replicate n.toNat z) te]):=by
 intro o h
 unfold appZ at h
 split at h
 ·rename_i s x t t' hop
  split at h
  ·rename_i kn r hkn hr
   simp only [Option.some.injEq,Prod.mk.injEq] at h
   obtain⟨hsv,hx,rfl,hz⟩:=h
   obtain⟨hu,i,zv,hi,hzz,hsize,hbytes,hzs,hpos⟩:=rowT_spec hr
   have hzc:zv.cells.toList=enc z:=by simpa [hi,hzz] using hz
   intro ac w K Q hin hkk
   obtain⟨m,rfl⟩:=Int.eq_ofNat_of_zero_le (Int.le_of_lt h0)
   have hrun:=Lib.run_append_nil_zeros (P:=P) w t t' o.type te i zv k kn hu (intT_eq hkn) hi hzz m (by omega) (by omega) (by omega) (by rw [hbytes]; omega)
   have he:(execOp tm.eval o).run P w = .ok (.value (.slice (some ⟨w.heap.size,0,none⟩) m (grownCap w m 0 te))) (w.drew.alloc (.cells (Builtin.zeroCells zv.cells m++Builtin.zeroCells zv.cells (grownCap w m 0 te-m)) te)):=by
    have hb:execOp tm.eval o=(do pure (.value (←Builtin.append_ #[t,t'] o.type #[.slice none 0 0,.int k m])):Sem Next):=by
     simp only [execOp,hop,resolve,invoke,builtin,List.map_toArray,List.map_cons,List.map_nil,hsv,hx]
     rfl
    rw [hb]
    simp only [Sem.run_bind,hrun,Result.andThen_ok,Sem.run_pure]
   rw [he]
   have hge:=grownCap_ge w m 0 te
   have hle:=grownCap_le_maxLen w m 0 te (by simp only [maxLen]; omega)
   refine hkk _ _ _ ⟨some ⟨w.heap.size,0,none⟩,grownCap w m 0 te,by simp,rfl⟩ ?_
   have hin':In L F w.drew:=hin
   obtain⟨f,hf,hfit,h1⟩:=hin'.alloc (.cells (Builtin.zeroCells zv.cells m++Builtin.zeroCells zv.cells (grownCap w m 0 te-m)) te)
   obtain⟨f1,f2,rfl,h2,g1,g2,rfl,h3,h4⟩:=dens_append.1 hf
   cases h3; cases h4
   refine⟨_,dens_append.2 ⟨f1,_,rfl,h2,_,[],rfl,⟨hs,.inr ⟨w.heap.size,0,[],cellsOf enc (List.replicate (grownCap w m 0 te-m) z),rfl,rfl, ?_, ?_,hle, ?_⟩⟩,rfl⟩,hfit,h1⟩
   ·rw [cellsOf_length hs,←Nat.add_mul]
    simp only [List.length_replicate,Int.toNat_natCast]
    exact Nat.mul_le_mul_right _ (by omega)
   ·simp only [List.length_replicate,Int.toNat_natCast]; exact hge
   ·have e1:=zeroCells_eq hs z hpos zv.cells hzc m
    have e2:=zeroCells_eq hs z hpos zv.cells hzc (grownCap w m 0 te-m)
    simp only [Int.toNat_natCast,List.nil_append]
    rw [←e1,←e2]
    show _ = [(w.drew.heap.size,Obj.cells _ _ _)]
    congr 3
    apply Array.ext'
    simp
  ·simp at h
 ·simp at h
end
end Go.Sx
namespace Go.Sx
/-- a nil row is empty -/
theorem ctr_sl_nil{P:Program}{α : Type}{f:FuncId}{args:Array Value}{L:List Ent}{Ψ : Value→List Ent→Prop}{i c:Nat}{enc : α→List Value}{d : α}{sz:Nat}{xs:List α}{t:TypeId}
  (hL:L[i]? = some (.sl none c enc d sz xs t)) (h:c=0→xs=[]→Ctr P f args L Ψ):Ctr P f args L Ψ := by
 intro F w hin
 have hin':=hin
 obtain⟨f,hf,_⟩:=hin
 obtain⟨_,g,_,_,⟨_,hg⟩,_⟩:=dens_get hL hf
 rcases hg with ⟨_,hc,hx,_⟩ | ⟨_,_,_,_,h1,_⟩
 ·exact h hc hx F w hin'
 ·cases h1
theorem view_nil2{α β : Type}{L:List Ent}(enc : α→List Value)(d : α)(sz:Nat)(t:TypeId)(hs:Sized enc sz)(enc' : β→List Value)(d' : β)(sz':Nat)(t':TypeId)(hs':Sized enc' sz')(hL:L=[]):
  View L [.sl none 0 enc d sz [] t,.sl none 0 enc' d' sz' [] t']:=by
 subst hL
 exact(view_nil enc d sz t hs).trans (view_nil enc' d' sz' t' hs')
end Go.Sx
/- a cut beside which the row stays as it was; and the row seen so. -/
namespace Go.Sx
section
variable {P:Program} {F:Fr}
def cutA(a:Option Addr)(c lo sz:Nat): Option Addr:=if c=lo then a else a.map (·.add (lo*sz))
theorem R_cutV{α : Type}{tm:TM}{L:List Ent}(i:Nat){a:Option Addr}{c:Nat}{enc : α→List Value}{d : α}{sz:Nat}{xs:List α}{te:TypeId}
  (hL:L[i]? = some (.sl a c enc d sz xs te)) (kl:IntKind) (n:Int) (h2:0≤n∧n≤(xs.length:Int)) :
  ∀o,cutO P tm o=some (.slice a xs.length c,some (.int kl n),none,sz)→
   Runs P F o (execOp tm.eval o) L (fun v L'=>v = .slice (cutA a c n.toNat sz) (xs.drop n.toNat).length (c-n.toNat)∧L'=L):=by
 intro o h
 unfold cutO at h
 split at h
 ·rename_i t x lo' hi' hop
  split at h
  ·simp at h
  ·rename_i e he
   split at h
   ·simp at h
   ·rename_i sz' hsz
    simp only [Option.some.injEq,Prod.mk.injEq] at h
    obtain⟨hx,hlo,hhi,rfl⟩:=h
    intro ac w K Q hin hkk
    have hin0:=hin
    obtain⟨f,hf,hfit,g1,g2,g3⟩:=hin
    obtain⟨f1,g,f2,rfl,⟨hsd,hg⟩,hset⟩:=dens_get hL hf
    have hcc:xs.length≤c:=by
     rcases hg with ⟨_,rfl,rfl,_⟩ | ⟨_,_,_,_,_,_,_,h,_⟩
     ·simp
     ·exact h
    have hrun:(execOp tm.eval o).run P w = .ok (.value (.slice (cutA a c n.toNat sz') (xs.drop n.toNat).length (c-n.toNat))) w:=by
     simp only [execOp,hop,hx,hlo,hhi,Instr.sliceAt,Sem.run_bind,run_underlying (elemT_eq he),Result.andThen_ok]
     simp only [Instr.slice,Sem.run_bind,run_underlying (elemT_eq he),Result.andThen_ok,sliceBounds_run (lo:=some (.int kl n)) (hi:=none) hcc trivial h2,sizeT_run hsz,Option.map_none,Sem.run_pure,loOf,hiOf,List.length_drop]
     rfl
    rw [hrun]
    exact hkk _ _ w ⟨rfl,rfl⟩ hin0
 ·simp at h
theorem view_cut{α : Type}{L:List Ent}(i:Nat){a:Option Addr}{c:Nat}{enc : α→List Value}{d : α}{sz:Nat}{xs:List α}{te:TypeId}
  (hL:L[i]? = some (.sl a c enc d sz xs te)) (n:Nat) (hn:n≤xs.length):View L (L.set i (.sl (cutA a c n sz) (c-n) enc d sz (xs.drop n) te)):=by
 rintro F w ⟨f,hf,hfit,h⟩
 obtain⟨f1,g,f2,rfl,⟨hsd,hg⟩,hset⟩:=dens_get hL hf
 rcases hg with ⟨rfl,rfl,rfl,rfl⟩ | ⟨b,off,pre,post,rfl,hp,hc3,hc1,hc2,rfl⟩
 ·have:n=0:=by simpa using hn
  subst this
  exact⟨f1++[]++f2,hset _ _ ⟨hsd,.inl ⟨by simp [cutA],by simp,by simp,rfl⟩⟩,hfit,h⟩
 ·by_cases hcl:c=n
  ·have hx:xs.length=n:=by omega
   refine⟨_,hset _ [(b,.cells (pre++cellsOf enc xs++post).toArray te (0,0))] ⟨hsd,.inr ⟨b,off,pre,cellsOf enc xs++post,by simp [cutA,hcl],hp,by simp [hcl,hx],by simp [hcl,hx],by omega, ?_⟩⟩,hfit,h⟩
   have:xs.drop n=[]:=by simp [←hx]
   rw [this]; simp [cellsOf]
  ·refine⟨_,hset _ [(b,.cells (pre++cellsOf enc xs++post).toArray te (0,0))] ⟨hsd,.inr ⟨b,off+n*sz,pre++cellsOf enc (xs.take n),post,by simp [cutA,hcl,addr_add], ?_, ?_,by simp; omega,by omega, ?_⟩⟩,hfit,h⟩
   ·rw [List.length_append,cellsOf_length hsd,hp,List.length_take,Nat.min_eq_left hn]
   ·rw [List.length_drop,Nat.sub_mul,Nat.sub_mul]
    have:n*sz≤xs.length*sz:=Nat.mul_le_mul_right _ hn
    omega
   ·have:cellsOf enc xs=cellsOf enc (xs.take n)++cellsOf enc (xs.drop n):=by
     unfold cellsOf
     rw [←List.flatMap_append,List.take_append_drop]
    rw [this]
    simp [List.append_assoc]
end
end Go.Sx
/- Elements of arrays in variables, at places that are reckoned. -/
namespace Go.Sx
section
variable {P:Program} {F:Fr}
def ixO(P:Program)(tm:TM)(o:Oper): Option (Value×Value×Nat×Nat):=
 match o.op with
 | .indexAddr t x ix=>match P.underlying t with
  | some (.array n e)=>match sizeT P e with
   | some sz=>some (tm.eval x,tm.eval ix,n,sz)
   | none=>none
  | _=>none
 | _=>none
theorem R_ixA{tm:TM}{L:List Ent}(b off n sz:Nat)(k:IntKind)(i:Int)(h:0≤i∧i<(n:Int)):
  ∀o,ixO P tm o=some (.pointer (some ⟨b,off,none⟩),.int k i,n,sz)→
   Runs P F o (execOp tm.eval o) L (fun v L'=>v = .pointer (some ⟨b,off+i.toNat*sz,none⟩)∧L'=L):=by
 intro o ho
 unfold ixO at ho
 split at ho
 ·rename_i t x ix hop
  split at ho
  ·rename_i n' e ht
   split at ho
   ·rename_i sz' hs
    simp only [Option.some.injEq,Prod.mk.injEq] at ho
    obtain⟨hx,hi,rfl,rfl⟩:=ho
    intro ac w K Q hin hkk
    have hrun:(execOp tm.eval o).run P w = .ok (.value (.pointer (some ⟨b,off+i.toNat*sz',none⟩))) w:=by
     simp [execOp,hop,hx,hi,Instr.indexAt,asIntOf,run_underlying ht,Instr.sureAddr,h,sizeT_run hs,addr_add]
    rw [hrun]
    exact hkk _ _ w ⟨rfl,rfl⟩ hin
   ·simp at ho
  ·simp at ho
 ·simp at ho
def ldO(P:Program)(tm:TM)(o:Oper): Option (Value×Bool×Nat):=
 match o.op with
 | .load t a=>match aggT P t,sizeT P t with
  | some ag,some n=>some (tm.eval a,ag,n)
  | _,_=>none
 | _=>none
theorem R_ldA{tm:TM}{L:List Ent}(i:Nat){b:Nat}{cs:List Value}{ty:TypeId}(hL:L[i]? = some (.pts b cs ty))(off:Nat)(ag:Bool)(n:Nat)(vs:List Value)
  (hv:(cs.drop off).take n=vs) (hn:vs.length=n) (h1:ag=true∨n=1) :
  ∀o,ldO P tm o=some (.pointer (some ⟨b,off,none⟩),ag,n)→
   Runs P F o (execOp tm.eval o) L (fun v L'=>v=valOf ag vs∧L'=L):=by
 intro o ho
 unfold ldO at ho
 split at ho
 ·rename_i t a hop
  split at ho
  ·rename_i ag' n' ha hs
   simp only [Option.some.injEq,Prod.mk.injEq] at ho
   obtain⟨hx,rfl,rfl⟩:=ho
   intro ac w K Q hin hkk
   obtain⟨hb,_⟩:=hin.one hL (b:=b) (o:=.cells cs.toArray ty (0,0)) (fun g hg=>hg)
   have hld:(Instr.loadAt t (.pointer (some ⟨b,off,none⟩))).run P w = .ok (valOf ag' vs) w:=by
    simp only [Instr.loadAt,Instr.sureAddr,Sem.run_bind,Sem.run_pure,Result.andThen_ok]
    refine loadVar_run ha (by rw [hn]; exact hs) (by rw [hn]; exact h1) ?_
    intro j v hj
    rw [←hv,List.getElem?_take] at hj
    split at hj
    ·simp only [List.getElem?_drop] at hj
     simp [World.cell?,hb,hj]
    ·simp at hj
   have hrun:(execOp tm.eval o).run P w = .ok (.value (valOf ag' vs)) w:=by
    simp [execOp,hop,hx,hld]
   rw [hrun]
   exact hkk _ _ w ⟨rfl,rfl⟩ hin
  ·simp at ho
 ·simp at ho
end
end Go.Sx
namespace Go.Sx
theorem go_cast{P:Program}{fn:Func}{body:Code}{nt:Nat}{F:Fr}{R:Ending→World→Prop}{ks:List Kont}{tm tm':TM}{L L':List Ent}(h:(tm,L)=(tm' ,L'))(hg:Go P fn body nt F R ks tm' L'): Go P fn body nt F R ks tm L:=by
 cases h; exact hg
end Go.Sx
/- Elements of the first part of a row. -/
namespace Go.Sx
section
variable {P:Program} {F:Fr}
def ipO(P:Program)(tm:TM)(o:Oper): Option (Value×Value×Nat):=
 match o.op with
 | .indexAddr t x ix=>match (elemT P t).bind (sizeT P) with
  | some sz=>some (tm.eval x,tm.eval ix,sz)
  | none=>none
 | _=>none
theorem R_ixP{α : Type}{tm:TM}{L:List Ent}(j:Nat){a:Option Addr}{c:Nat}{enc : α→List Value}{d : α}{sz:Nat}{xs:List α}{te:TypeId}
  (hL:L[j]? = some (.sl a c enc d sz xs te)) (n c':Nat) (k:IntKind) (i:Int) (h:0≤i∧i<(n:Int)) (hn:n≤xs.length) :
  ∀o,ipO P tm o=some (.slice a n c',.int k i,sz)→
   Runs P F o (execOp tm.eval o) L (fun v L'=>v=slAt a i.toNat sz∧L'=L):=by
 intro o ho
 unfold ipO at ho
 split at ho
 ·rename_i t x ix hop
  split at ho
  ·rename_i sz' hs
   simp only [Option.some.injEq,Prod.mk.injEq] at ho
   obtain⟨hx,hi,rfl⟩:=ho
   simp only [Option.bind_eq_some_iff] at hs
   obtain⟨e,he1,he2⟩:=hs
   intro ac w K Q hin hkk
   have hin0:=hin
   obtain⟨f,hf,hfit,g1,g2,g3⟩:=hin
   obtain⟨f1,g,f2,rfl,⟨hsd,hg⟩,hset⟩:=dens_get hL hf
   rcases hg with ⟨rfl,rfl,rfl,rfl⟩ | ⟨b,off,pre,post,rfl,hp,hc3,hc1,hc2,rfl⟩
   ·simp only [List.length_nil] at hn; omega
   ·have hrun:(execOp tm.eval o).run P w = .ok (.value (slAt (some ⟨b,off,none⟩) i.toNat sz')) w:=by
     simp only [execOp,hop,hx,hi,Sem.run_bind,indexAt_run he1 he2 h,Result.andThen_ok,Sem.run_pure]
     congr 2
     simp [slAt,slAd,jOff_eq]
    rw [hrun]
    exact hkk _ _ w ⟨rfl,rfl⟩ hin0
  ·simp at ho
 ·simp at ho
end
end Go.Sx
/- Lists of entries behind one. -/
namespace Go.Sx
theorem dens_one{e:Ent}{f:Ft}: dens [e] f↔e.den f:=
 ⟨fun⟨f1,f2,h,h1,h2⟩=>by cases h2; subst h; simpa using h1,fun h=>⟨f,[],by simp,h,rfl⟩⟩
theorem view_fold{L:List Ent}(i:Nat){e:Ent}(h:L[i]? = some e): View L (L.set i (.res (dens [e]))):=by
 rintro F w ⟨f,hf,hfit,hr⟩
 obtain⟨f1,g,f2,rfl,hg,hset⟩:=dens_get h hf
 exact⟨_,hset (.res (dens [e])) g (dens_one.2 hg),hfit,hr⟩
theorem view_unfold{L:List Ent}(i:Nat){e:Ent}(h:L[i]? = some (.res (dens [e]))): View L (L.set i e):=by
 rintro F w ⟨f,hf,hfit,hr⟩
 obtain⟨f1,g,f2,rfl,hg,hset⟩:=dens_get h hf
 exact⟨_,hset e g (dens_one.1 hg),hfit,hr⟩
theorem view_unit{L:List Ent}: View L (L++[.res (dens [])]):=by
 rintro F w ⟨f,hf,hfit,hr⟩
 exact⟨f++[],dens_append.2 ⟨f,[],rfl,hf,[],[],rfl,rfl,rfl⟩,by simpa using hfit,hr⟩
theorem ctr_view{P:Program}{f:FuncId}{args:Array Value}{L L':List Ent}{Ψ : Value→List Ent→Prop}(hv:View L L')(hg:Ctr P f args L' Ψ): Ctr P f args L Ψ :=
 fun F w hi=>hg F w (hv F w hi)
theorem view_set{L L':List Ent}(h:L=L'): View L L':=h▸fun _ _ h=>h
end Go.Sx
namespace Go.Sx
/-- what one cell behind an entry holds -/
def Peek(R:Res)(b off:Nat)(v:Value): Prop := ∀f,R f→∃cs t fr,(b,Obj.cells cs t fr)∈f∧cs[off]? = some v
theorem peek_box{α : Type}{I : α→Prop}{LL : α→List Ent}{b off:Nat}{v:Value}(h:∀x,∃cs t rest,LL x = .pts b cs t :: rest∧cs[off]? = some v): Peek (Box I LL) b off v:=by
 rintro f ⟨x,_,hx⟩
 obtain⟨cs,t,rest,e,hc⟩:=h x
 rw [e] at hx
 obtain⟨f1,f2,rfl,h1,_⟩:=hx
 have h1':f1=[(b,.cells cs.toArray t (0,0))]:=h1
 subst h1'
 exact⟨_,t,_,List.mem_append_left _ (List.mem_singleton.2 rfl),by simpa using hc⟩
theorem R_peek{P:Program}{F:Fr}{tm:TM}{L:List Ent}(i:Nat){R:Res}(hL:L[i]? = some (.res R))(b off:Nat)(v:Value)(hp:Peek R b off v):
  ∀o,ldO P tm o=some (.pointer (some ⟨b,off,none⟩),false,1)→Runs P F o (execOp tm.eval o) L (fun v' L'=>v'=v∧L'=L):=by
 intro o ho
 unfold ldO at ho
 split at ho
 ·rename_i t a hop
  split at ho
  ·rename_i ag' n' ha hs
   simp only [Option.some.injEq,Prod.mk.injEq] at ho
   obtain⟨hx,rfl,rfl⟩:=ho
   intro ac w K Q hin hkk
   have hin0:=hin
   obtain⟨f,hf,hfit,_⟩:=hin
   obtain⟨f1,g,f2,rfl,hg,_⟩:=dens_get hL hf
   obtain⟨cs,te,fr,hm,hc⟩:=hp g hg
   have hb:=hfit.2 (b,.cells cs te fr) (by simp [hm])
   have hld:(Instr.loadAt t (.pointer (some ⟨b,off,none⟩))).run P w = .ok (valOf false [v]) w:=by
    simp only [Instr.loadAt,Instr.sureAddr,Sem.run_bind,Sem.run_pure,Result.andThen_ok]
    refine loadVar_run ha (by simpa using hs) (by simp) ?_
    intro j u hj
    cases j with
    | zero=>
     simp only [List.getElem?_cons_zero,Option.some.injEq] at hj
     subst hj
     simp only [Nat.add_zero]
     simp only [World.cell?,hb,Option.isSome_none,Bool.false_eq_true,if_false]
     exact hc
    | succ j=>simp at hj
   have hrun:(execOp tm.eval o).run P w = .ok (.value v) w:=by
    simp [execOp,hop,hx,hld,valOf]
   rw [hrun]
   exact hkk _ _ w ⟨rfl,rfl⟩ hin0
  ·simp at ho
 ·simp at ho
end Go.Sx
/- The first part of a row, beside which the row stays. -/
namespace Go.Sx
theorem R_cutH{P:Program}{F:Fr}{α : Type}{tm:TM}{L:List Ent}(i:Nat){a:Option Addr}{c:Nat}{enc : α→List Value}{d : α}{sz:Nat}{xs:List α}{te:TypeId}
  (hL:L[i]? = some (.sl a c enc d sz xs te)) (kl:IntKind) (n:Int) (h2:0≤n∧n≤(xs.length:Int)) :
  ∀o,cutO P tm o=some (.slice a xs.length c,none,some (.int kl n),sz)→
   Runs P F o (execOp tm.eval o) L (fun v L'=>v = .slice a n.toNat c∧L'=L):=by
 intro o h
 unfold cutO at h
 split at h
 ·rename_i t x lo' hi' hop
  split at h
  ·simp at h
  ·rename_i e he
   split at h
   ·simp at h
   ·rename_i sz' hsz
    simp only [Option.some.injEq,Prod.mk.injEq] at h
    obtain⟨hx,hlo,hhi,rfl⟩:=h
    intro ac w K Q hin hkk
    have hin0:=hin
    obtain⟨f,hf,hfit,g1,g2,g3⟩:=hin
    obtain⟨f1,g,f2,rfl,⟨hsd,hg⟩,hset⟩:=dens_get hL hf
    have hfact:xs.length≤c∧(if c=0 then a else a.map (·.add (0*sz')))=a:=by
     rcases hg with ⟨rfl,rfl,rfl,_⟩ | ⟨b,off,_,_,rfl,_,_,h,_⟩
     ·simp
     ·exact⟨h,by simp [addr_add]⟩
    have hrun:(execOp tm.eval o).run P w = .ok (.value (.slice a n.toNat c)) w:=by
     simp only [execOp,hop,hx,hlo,hhi,Instr.sliceAt,Sem.run_bind,run_underlying (elemT_eq he),Result.andThen_ok]
     simp only [Instr.slice,Sem.run_bind,run_underlying (elemT_eq he),Result.andThen_ok,sliceBounds_run (lo:=none) (hi:=some (.int kl n)) hfact.1 h2 trivial,sizeT_run hsz,Option.map_none,Sem.run_pure,loOf,hiOf]
     rw [hfact.2]
     simp
    rw [hrun]
    exact hkk _ _ w ⟨rfl,rfl⟩ hin0
 ·simp at h
end Go.Sx

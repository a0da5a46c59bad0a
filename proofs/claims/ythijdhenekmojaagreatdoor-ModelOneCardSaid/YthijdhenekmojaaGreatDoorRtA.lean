/- Walks: what functions of the program and of the document compute, part 1 of those on which ModelOne rests. -/
import Derived.Test.YthijdhenekmojaaGreatDoorMdA
import Derived.Test.YthijdhenekmojaaGreatDoorChecked

set_option linter.unusedVariables false
set_option linter.unusedSimpArgs false
/- Which functions are entered. -/
namespace Go.Proofs.YthijdhenekmojaaGreatDoor
open Go.Sx
def xx: Cx:=⟨[3,4,5,6,7,8,9,10,11,12,13,14,15,16,17,18,19,20,21,22,23,24,25,26,27,28,29,30,31,32,33,34,35,36,37,38,39,40,41,42,43,44,45,46,47,48,49,50,51,52,53,54,55,56,57,58,59,60,61,62,63,64,65,66,67,68,69,70,71,72,73,74,75,76,77,78,79,80,81,82,83,84,85,86,87,88,89,90,91,92,93,94,95,96,100,101,102,103,104,105,106,107,108,109,110,111,112,113,114,118,119,120,121,122,123,124,161],[],[],[3,4,5,6,7,8,9,10,11,12,13,14,15,16,17,18,19,20,21,22,23,24,25,26,27,28,29,30,31,32,33,34,35,36,37,38,39,40,41,42,43,44,45,46,47,48,49,50,51,52,53,54,55,56,57,58,59,60,61,62,63,64,65,66,67,68,69,70,71,72,73,74,75,76,77,78,79,80,81,82,83,84,85,86,87,88,89,90,91,92,93,94,95,96,100,101,102,103,104,105,106,107,108,109,110,111,112,113,114,118,119,120,121,122,123,124,161]⟩
theorem xxI: Inl Tryz.prog xx:=inl_ok ⟨Tryz.call3,Tryz.call4,Tryz.call5,Tryz.call6,Tryz.call7,Tryz.call8,Tryz.call9,Tryz.call10,Tryz.call11,Tryz.call12,Tryz.call13,Tryz.call14,Tryz.call15,Tryz.call16,Tryz.call17,Tryz.call18,Tryz.call19,Tryz.call20,Tryz.call21,Tryz.call22,Tryz.call23,Tryz.call24,Tryz.call25,Tryz.call26,Tryz.call27,Tryz.call28,Tryz.call29,Tryz.call30,Tryz.call31,Tryz.call32,Tryz.call33,Tryz.call34,Tryz.call35,Tryz.call36,Tryz.call37,Tryz.call38,Tryz.call39,Tryz.call40,Tryz.call41,Tryz.call42,Tryz.call43,Tryz.call44,Tryz.call45,Tryz.call46,Tryz.call47,Tryz.call48,Tryz.call49,Tryz.call50,Tryz.call51,Tryz.call52,Tryz.call53,Tryz.call54,Tryz.call55,Tryz.call56,Tryz.call57,Tryz.call58,Tryz.call59,Tryz.call60,Tryz.call61,Tryz.call62,Tryz.call63,Tryz.call64,Tryz.call65,Tryz.call66,Tryz.call67,Tryz.call68,Tryz.call69,Tryz.call70,Tryz.call71,Tryz.call72,Tryz.call73,Tryz.call74,Tryz.call75,Tryz.call76,Tryz.call77,Tryz.call78,Tryz.call79,Tryz.call80,Tryz.call81,Tryz.call82,Tryz.call83,Tryz.call84,Tryz.call85,Tryz.call86,Tryz.call87,Tryz.call88,Tryz.call89,Tryz.call90,Tryz.call91,Tryz.call92,Tryz.call93,Tryz.call94,Tryz.call95,Tryz.call96,Tryz.call100,Tryz.call101,Tryz.call102,Tryz.call103,Tryz.call104,Tryz.call105,Tryz.call106,Tryz.call107,Tryz.call108,Tryz.call109,Tryz.call110,Tryz.call111,Tryz.call112,Tryz.call113,Tryz.call114,Tryz.call118,Tryz.call119,Tryz.call120,Tryz.call121,Tryz.call122,Tryz.call123,Tryz.call124,Tryz.call161,trivial⟩ trivial
def xa: Cx:=⟨[3,4,5,6,10,11,12,14,15,17,22,23,24,25,27,28,29,30,32,38,39,40,41,42,43,45,47,48,49,50,51,52,53,54,55,56,61,62,63,64,66,67,68,69,70,71,72,73,74,75,76,77,78,79,80,81,82,83,84,85,86,87,88,89,90,91,92,93,94,95,96,100,101,102,103,104,105,106,107,108,109,110,111,112,113,114,118,119,120,121,122,123,124,161],[],[],[3,4,5,6,10,11,12,14,15,17,22,23,24,25,27,28,29,30,32,38,39,40,41,42,43,45,47,48,49,50,51,52,53,54,55,56,61,62,63,64,66,67,68,69,70,71,72,73,74,75,76,77,78,79,80,81,82,83,84,85,86,87,88,89,90,91,92,93,94,95,96,100,101,102,103,104,105,106,107,108,109,110,111,112,113,114,118,119,120,121,122,123,124,161]⟩
theorem xaI: Inl Tryz.prog xa:=inl_ok ⟨Tryz.call3,Tryz.call4,Tryz.call5,Tryz.call6,Tryz.call10,Tryz.call11,Tryz.call12,Tryz.call14,Tryz.call15,Tryz.call17,Tryz.call22,Tryz.call23,Tryz.call24,Tryz.call25,Tryz.call27,Tryz.call28,Tryz.call29,Tryz.call30,Tryz.call32,Tryz.call38,Tryz.call39,Tryz.call40,Tryz.call41,Tryz.call42,Tryz.call43,Tryz.call45,Tryz.call47,Tryz.call48,Tryz.call49,Tryz.call50,Tryz.call51,Tryz.call52,Tryz.call53,Tryz.call54,Tryz.call55,Tryz.call56,Tryz.call61,Tryz.call62,Tryz.call63,Tryz.call64,Tryz.call66,Tryz.call67,Tryz.call68,Tryz.call69,Tryz.call70,Tryz.call71,Tryz.call72,Tryz.call73,Tryz.call74,Tryz.call75,Tryz.call76,Tryz.call77,Tryz.call78,Tryz.call79,Tryz.call80,Tryz.call81,Tryz.call82,Tryz.call83,Tryz.call84,Tryz.call85,Tryz.call86,Tryz.call87,Tryz.call88,Tryz.call89,Tryz.call90,Tryz.call91,Tryz.call92,Tryz.call93,Tryz.call94,Tryz.call95,Tryz.call96,Tryz.call100,Tryz.call101,Tryz.call102,Tryz.call103,Tryz.call104,Tryz.call105,Tryz.call106,Tryz.call107,Tryz.call108,Tryz.call109,Tryz.call110,Tryz.call111,Tryz.call112,Tryz.call113,Tryz.call114,Tryz.call118,Tryz.call119,Tryz.call120,Tryz.call121,Tryz.call122,Tryz.call123,Tryz.call124,Tryz.call161,trivial⟩ trivial
def xb: Cx:=⟨[3,4,5,6,7,8,9,10,11,12,14,15,17,18,19,20,21,22,23,24,25,27,28,29,30,32,33,34,35,38,39,40,41,42,43,45,47,48,49,50,51,52,53,54,55,56,58,61,62,63,64,66,67,68,69,70,71,72,73,74,75,76,77,78,79,80,81,82,83,84,85,86,87,88,89,90,91,92,93,94,95,96,100,101,102,103,104,105,106,107,108,109,110,111,112,113,114,118,119,120,121,122,123,124,161],[],[],[3,4,5,6,7,8,9,10,11,12,14,15,17,18,19,20,21,22,23,24,25,27,28,29,30,32,33,34,35,38,39,40,41,42,43,45,47,48,49,50,51,52,53,54,55,56,58,61,62,63,64,66,67,68,69,70,71,72,73,74,75,76,77,78,79,80,81,82,83,84,85,86,87,88,89,90,91,92,93,94,95,96,100,101,102,103,104,105,106,107,108,109,110,111,112,113,114,118,119,120,121,122,123,124,161]⟩
theorem xbI: Inl Tryz.prog xb:=inl_ok ⟨Tryz.call3,Tryz.call4,Tryz.call5,Tryz.call6,Tryz.call7,Tryz.call8,Tryz.call9,Tryz.call10,Tryz.call11,Tryz.call12,Tryz.call14,Tryz.call15,Tryz.call17,Tryz.call18,Tryz.call19,Tryz.call20,Tryz.call21,Tryz.call22,Tryz.call23,Tryz.call24,Tryz.call25,Tryz.call27,Tryz.call28,Tryz.call29,Tryz.call30,Tryz.call32,Tryz.call33,Tryz.call34,Tryz.call35,Tryz.call38,Tryz.call39,Tryz.call40,Tryz.call41,Tryz.call42,Tryz.call43,Tryz.call45,Tryz.call47,Tryz.call48,Tryz.call49,Tryz.call50,Tryz.call51,Tryz.call52,Tryz.call53,Tryz.call54,Tryz.call55,Tryz.call56,Tryz.call58,Tryz.call61,Tryz.call62,Tryz.call63,Tryz.call64,Tryz.call66,Tryz.call67,Tryz.call68,Tryz.call69,Tryz.call70,Tryz.call71,Tryz.call72,Tryz.call73,Tryz.call74,Tryz.call75,Tryz.call76,Tryz.call77,Tryz.call78,Tryz.call79,Tryz.call80,Tryz.call81,Tryz.call82,Tryz.call83,Tryz.call84,Tryz.call85,Tryz.call86,Tryz.call87,Tryz.call88,Tryz.call89,Tryz.call90,Tryz.call91,Tryz.call92,Tryz.call93,Tryz.call94,Tryz.call95,Tryz.call96,Tryz.call100,Tryz.call101,Tryz.call102,Tryz.call103,Tryz.call104,Tryz.call105,Tryz.call106,Tryz.call107,Tryz.call108,Tryz.call109,Tryz.call110,Tryz.call111,Tryz.call112,Tryz.call113,Tryz.call114,Tryz.call118,Tryz.call119,Tryz.call120,Tryz.call121,Tryz.call122,Tryz.call123,Tryz.call124,Tryz.call161,trivial⟩ trivial
end Go.Proofs.YthijdhenekmojaaGreatDoor
/- Rows of ops, by a function of the place; one that is greater than all others, at a place (plain). -/
set_option linter.unusedSimpArgs false
namespace Go.Sx
/-- an op that is done: its kind, key, code, commit, from, to -/
structure DnR where
 ki:Int
 ke:Int
 co:Int
 cm:Int
 fr:Int
 to_:Int
def encD(x:DnR): List Value:=[.int .i64 0,.int .i64 x.ki,.int .i64 x.ke,.bool false,.slice none 0 0,.int .i64 0,.slice none 0 0,.int .i64 x.co,.slice none 0 0,.slice none 0 0,.int .u64 0,.int .i64 x.cm,.int .i64 x.fr,.int .i64 x.to_]
def dnN: DnR:=⟨0,0,0,0,0,0⟩
theorem sizedD: Sized encD 14:=fun _=>rfl
def tab(n:Nat)(f:Nat→DnR): List DnR:=(List.range n).map f
theorem tab_len(n:Nat)(f:Nat→DnR): (tab n f).length=n:=by simp [tab]
theorem tab_get{n:Nat}{f:Nat→DnR}{p:Nat}(h:p<n): (tab n f).getD p dnN=f p:=by
 simp [tab,h]
theorem tab_ext{n:Nat}{f g:Nat→DnR}(h:∀p,p<n→f p=g p): tab n f=tab n g:=by
 unfold tab
 exact List.map_congr_left fun p hp=>h p (List.mem_range.1 hp)
theorem tab_set{n:Nat}{f:Nat→DnR}{p:Nat}{v:DnR}: (tab n f).set p v=tab n (fun q=>if q=p then v else f q):=by
 apply List.ext_getElem
 ·simp [tab]
 ·intro q h1 h2
  simp only [tab,List.getElem_set,List.getElem_map,List.getElem_range]
  by_cases h:p=q
  ·simp [h]
  ·simp [h,Ne.symm h]
theorem tab_of(xs:List DnR): xs=tab xs.length (fun p=>xs.getD p dnN):=by
 apply List.ext_getElem
 ·simp [tab]
 ·intro q h1 h2
  simp [tab,h1]
/-- the greatest one at place i -/
def fB(L:Nat→DnR)(B:DnR)(i p:Nat): DnR:=if p<i then L p else if p=i then B else L (p-1)
def cmpI(a b:Int): Int:=if a<b then -1 else if b<a then 1 else 0
structure Srt (n:Nat) (L:Nat→DnR) (B:DnR):Prop where
 up:∀p q,p<q→q+1<n→(L p).cm<(L q).cm
 top:∀p,p+1<n→(L p).cm<B.cm
theorem fB_less{n:Nat}{L:Nat→DnR}{B:DnR}(h:Srt n L B){i p q:Nat}(hp:p<n)(hq:q<n)(hi:i<n)(hne:p≠q):
  decide (cmpI (fB L B i p).cm (fB L B i q).cm<0)=decide (q=i∨(p≠i∧p<q)):=by
 have hc:∀a b:Int,(cmpI a b<0)↔a<b:=by
  intro a b
  unfold cmpI
  split
  ·simp; assumption
  ·split <;> omega
 rw [decide_eq_decide,hc]
 have v1:∀p,p<i→fB L B i p=L p:=fun p h=>by unfold fB; rw [if_pos h]
 have v2:fB L B i i=B:=by unfold fB; rw [if_neg (Nat.lt_irrefl _),if_pos rfl]
 have v3:∀p,i<p→fB L B i p=L (p-1):=fun p h=>by unfold fB; rw [if_neg (by omega),if_neg (by omega)]
 rcases Nat.lt_trichotomy p i with h1 | h1 | h1 <;> rcases Nat.lt_trichotomy q i with h2 | h2 | h2
 ·rw [v1 p h1,v1 q h2]
  by_cases h3:p<q
  ·have:=h.up p q h3 (by omega); constructor <;> intro _ <;> omega
  ·have:=h.up q p (by omega) (by omega); constructor <;> intro _ <;> omega
 ·subst h2
  rw [v1 p h1,v2]
  have:=h.top p (by omega); constructor <;> intro _ <;> omega
 ·rw [v1 p h1,v3 q h2]
  have:=h.up p (q-1)
  by_cases h3:p<q-1
  ·have:=this h3 (by omega); constructor <;> intro _ <;> omega
  ·omega
 ·subst h1
  rw [v2,v1 q h2]
  have:=h.top q (by omega); constructor <;> intro _ <;> omega
 ·omega
 ·subst h1
  rw [v2,v3 q h2]
  have:=h.top (q-1) (by omega); constructor <;> intro _ <;> omega
 ·rw [v3 p h1,v1 q h2]
  by_cases h3:q<p-1
  ·have:=h.up q (p-1) h3 (by omega); constructor <;> intro _ <;> omega
  ·omega
 ·subst h2
  rw [v3 p h1,v2]
  have:=h.top (p-1) (by omega); constructor <;> intro _ <;> omega
 ·rw [v3 p h1,v3 q h2]
  by_cases h5:p<q
  ·have:=h.up (p-1) (q-1) (by omega) (by omega); constructor <;> intro _ <;> omega
  ·have:=h.up (q-1) (p-1) (by omega) (by omega); constructor <;> intro _ <;> omega
/-- a swap of two neighbours, as the code does it -/
theorem swap_up{n:Nat}{L:Nat→DnR}{B:DnR}{i:Nat}(h:i+1<n){xs:List DnR}(hx:xs=tab n (fB L B i)):
  (xs.set (i+1) (xs.getD i dnN)).set i (xs.getD (i+1) dnN)=tab n (fB L B (i+1)):=by
 subst hx
 rw [tab_get (by omega),tab_get (by omega),tab_set,tab_set]
 refine tab_ext fun p hp => ?_
 unfold fB
 by_cases h1:p=i
 ·subst h1
  rw [if_pos rfl,if_neg (by omega),if_neg (by omega),if_pos (by omega)]
  congr 1
 ·by_cases h2:p=i+1
  ·subst h2
   rw [if_neg (by omega),if_pos rfl,if_neg (by omega),if_pos rfl,if_neg (by omega),if_pos rfl]
  ·simp only [h1,h2,if_false]
   by_cases h3:p<i
   ·have:p<i+1:=by omega
    simp [h3,this]
   ·have:¬p<i+1:=by omega
    simp [h3,this]
theorem swap_up'{n:Nat}{L:Nat→DnR}{B:DnR}{i:Nat}(h:i+1<n){xs:List DnR}(hx:xs=tab n (fB L B i)):
  (xs.set i (xs.getD (i+1) dnN)).set (i+1) (xs.getD i dnN)=tab n (fB L B (i+1)):=by
 rw [←swap_up h hx,List.set_comm]
 omega
/-- a row that is turned about one place: j of them are to go on -/
def fR(L:Nat→DnR)(B:DnR)(m e j p:Nat): DnR:=
 if p+1=m then(if j=e-m then B else L (m+j-1)) else if p<m then L p else if p<m+j then L (p-1) else if p+1<e then L p else if p+1=e then B else L (p-1)
theorem fR_0{L:Nat→DnR}{B:DnR}{m e:Nat}(hm:1≤m)(he:m<e)(p:Nat): fR L B m e (e-m) p=fB L B (m-1) p:=by
 unfold fR fB
 by_cases h1:p+1=m
 ·have:¬p<m-1:=by omega
  have h2:p=m-1:=by omega
  rw [if_pos h1,if_pos rfl,if_neg this,if_pos h2]
 ·by_cases h2:p<m
  ·have h3:p<m-1:=by omega
   simp [h1,h2,h3]
  ·have h3:¬p<m-1:=by omega
   have h4:¬p=m-1:=by omega
   simp only [h1,h2,h3,h4,if_false]
   by_cases h5:p<m+(e-m)
   ·simp [h5]
   ·have h6:¬p+1<e:=by omega
    have h7:¬p+1=e:=by omega
    simp [h5,h6,h7]
/-- two places are changed about -/
def fS(f:Nat→DnR)(a b p:Nat): DnR:=if p=b then f a else if p=a then f b else f p
theorem fR_step{L:Nat→DnR}{B:DnR}{m e j:Nat}(hm:1≤m)(he:m<e)(h1:2≤j)(h2:j≤e-m)(p:Nat):
  fS (fR L B m e j) (m-1) (m+j-1) p=fR L B m e (j-1) p:=by
 unfold fS
 by_cases h3:p=m+j-1
 ·rw [if_pos h3]
  unfold fR
  have e1:m-1+1=m:=by omega
  have e2:¬p+1=m:=by omega
  have e3:¬p<m:=by omega
  have e4:¬p<m+(j-1):=by omega
  simp only [e1,e2,e3,e4,if_true,if_false]
  by_cases h4:j=e-m
  ·have e5:¬p+1<e:=by omega
   have e6:p+1=e:=by omega
   simp [h4,e5,e6]
  ·have e5:p+1<e:=by omega
   simp only [h4,e5,if_true,if_false]
   rw [h3]
 ·rw [if_neg h3]
  by_cases h4:p=m-1
  ·rw [if_pos h4]
   unfold fR
   have e1:¬m+j-1+1=m:=by omega
   have e2:¬m+j-1<m:=by omega
   have e3:m+j-1<m+j:=by omega
   have e4:p+1=m:=by omega
   have e5:¬j-1=e-m:=by omega
   simp only [e1,e2,e3,e4,e5,if_true,if_false]
   congr 1
   omega
  ·rw [if_neg h4]
   unfold fR
   have e1:¬p+1=m:=by omega
   simp only [e1,if_false]
   by_cases h5:p<m
   ·simp [h5]
   ·simp only [h5,if_false]
    by_cases h6:p<m+j
    ·have:p<m+(j-1):=by omega
     simp [h6,this]
    ·have:¬p<m+(j-1):=by omega
     simp [h6,this]
theorem fR_end{L:Nat→DnR}{B:DnR}{m e:Nat}(hm:1≤m)(he:m<e)(p:Nat):
  fS (fR L B m e 1) (m-1) m p=fB L B (e-1) p:=by
 unfold fS
 by_cases h3:p=m
 ·rw [if_pos h3]
  unfold fR fB
  have e1:m-1+1=m:=by omega
  simp only [e1,if_true]
  by_cases h4:1=e-m
  ·have e2:¬p<e-1:=by omega
   have e3:p=e-1:=by omega
   simp [h4,e2,e3]
  ·have e2:p<e-1:=by omega
   simp only [h4,e2,if_true,if_false]
   congr 1; omega
 ·rw [if_neg h3]
  by_cases h4:p=m-1
  ·rw [if_pos h4]
   unfold fR fB
   have e1:¬m+1=m:=by omega
   have e2:¬m<m:=by omega
   have e3:m<m+1:=by omega
   have e4:p<e-1:=by omega
   simp only [e1,e2,e3,e4,if_true,if_false]
   rw [h4]
  ·rw [if_neg h4]
   unfold fR fB
   have e1:¬p+1=m:=by omega
   simp only [e1,if_false]
   by_cases h5:p<m
   ·have:p<e-1:=by omega
    simp [h5,this]
   ·have e2:¬p<m+1:=by omega
    simp only [h5,e2,if_false]
    by_cases h6:p+1<e
    ·have:p<e-1:=by omega
     simp [h6,this]
    ·have e3:¬p<e-1:=by omega
     by_cases h7:p+1=e
     ·have e4:p=e-1:=by omega
      rw [if_neg h6,if_pos h7,if_neg e3,if_pos e4]
     ·have e4:¬p=e-1:=by omega
      simp [h6,h7,e3,e4]
theorem tab_swap{n:Nat}{f:Nat→DnR}{a b:Nat}(ha:a<n)(hb:b<n): ((tab n f).set a ((tab n f).getD b dnN)).set b ((tab n f).getD a dnN)=tab n (fS f a b):=by
 rw [tab_get ha,tab_get hb,tab_set,tab_set]
 exact tab_ext fun p hp=>rfl
end Go.Sx
/- Sorting: two ops compared; the insertion sort. -/
set_option linter.unusedSimpArgs false
set_option maxRecDepth 100000
set_option maxHeartbeats 0
namespace Go.Proofs.YthijdhenekmojaaGreatDoor
open Go.Sx
abbrev dnG(x:DnR): List SV:=[.i .i64 0,.i .i64 x.ki,.i .i64 x.ke,.bo false,.ns,.i .i64 0,.ns,.i .i64 x.co,.ns,.ns,.i .u64 0,.i .i64 x.cm,.i .i64 x.fr,.i .i64 x.to_]
abbrev cmpF: Value:=.func (.func 49) #[] #[]
def xsC: Cx:=⟨[50,73],[],[],[]⟩
theorem xsCI: Inl Tryz.prog xsC:=inl_ok ⟨Tryz.call50,Tryz.call73,trivial⟩ trivial
theorem t_cmp(x y:DnR): Ct Tryz.prog 49 (⟨[.g (dnG x),.g (dnG y)],[],0,fun n=>n=cmpI x.cm y.cm,fun n=>[.s (.i .i64 n)],fun _=>[]⟩:Sp Int):=by
 refine cX 12 xsCI Tryz.func49 fun g F => ?_
 refine xN fun b1 => ?_
 refine xN fun b2 => ?_
 refine xF (x.cm != x.cm) (by first | (simp; done) | (simp; omega)) ?_
 refine xF (y.cm != y.cm) (by first | (simp; done) | (simp; omega)) ?_
 refine xB (decide (x.cm<y.cm)) (fun h3 => ?_) (fun h3 => ?_)
 ·skip
  replace h3:=decT h3
  exact xR (-1) (by unfold cmpI; split <;> (try split) <;> omega)
 ·skip
  replace h3:=decF h3
  refine xB (decide (x.cm>y.cm)) (fun h4 => ?_) (fun h4 => ?_)
  ·skip
   replace h4:=decT h4
   exact xR (1) (by unfold cmpI; split <;> (try split) <;> omega)
  ·skip
   replace h4:=decF h4
   exact xR (0) (by unfold cmpI; split <;> (try split) <;> omega)
abbrev srtE(xs:List DnR): SE:=.sl 0 encD dnN 14 xs 46
/-- where the greatest one is, when so many are in order -/
def iAt(a i0 x:Nat): Nat:=if a≤i0∧i0<x then x-1 else i0
structure InS where
 x:Nat
 xs:List DnR
abbrev InI(n:Nat)(L:Nat→DnR)(B:DnR)(a b i0:Nat)(s:InS): Prop:=a+1≤s.x∧(s.x≤b∨s.x=a+1)∧s.xs.length=n∧s.xs=tab n (fB L B (iAt a i0 s.x))
abbrev InJ(n:Nat)(L:Nat→DnR)(B:DnR)(a i0 x:Nat)(s:InS): Prop:=s.xs.length=n∧((s.x=x∧s.xs=tab n (fB L B (iAt a i0 x)))∨(s.x+1=x∧a≤i0∧i0<x∧s.xs=tab n (fB L B x)))
theorem in_less{n:Nat}{L:Nat→DnR}{B:DnR}(hs:Srt n L B){i j:Nat}(h1:1≤j)(hj:j<n)(hi:i<n){xs:List DnR}(hx:xs=tab n (fB L B i)):
  (cmpI (xs.getD j dnN).cm (xs.getD (j-1) dnN).cm<0)↔j=i+1:=by
 have h:=fB_less hs (p:=j) (q:=j-1) hj (by omega) hi (by omega)
 rw [decide_eq_decide] at h
 rw [hx,tab_get hj,tab_get (by omega),h]
 omega
theorem in_less'{n:Nat}{L:Nat→DnR}{B:DnR}(hs:Srt n L B){j:Nat}{j1 j2:Int}(e1:j1=(j:Int))(e2:j2=(j:Int)-1){i:Nat}(h1:1≤j)(hj:j<n)(hi:i<n){xs:List DnR}(hx:xs=tab n (fB L B i)):
  (cmpI (xs.getD j1.toNat dnN).cm (xs.getD j2.toNat dnN).cm<0)↔j=i+1:=by
 have h3:j1.toNat=j:=by omega
 have h4:j2.toNat=j-1:=by omega
 rw [h3,h4]
 exact in_less hs h1 hj hi hx
theorem iAt_0(a i0:Nat): iAt a i0 (a+1)=i0:=by
 unfold iAt
 split <;> omega
theorem iAt_b{a b i0 x:Nat}(h1:a≤b)(h2:x≤b∨x=a+1)(h3:¬x<b): iAt a i0 x=iAt a i0 b:=by
 unfold iAt
 split <;> split <;> omega
theorem ins_end{n:Nat}{L:Nat→DnR}{B:DnR}{a b i0:Nat}{s:InS}(hab:a≤b)(hI:InI n L B a b i0 s)(h:¬s.x<b): s.xs=tab n (fB L B (iAt a i0 b)):=by
 rw [←iAt_b hab hI.2.1 h]; exact hI.2.2.2
theorem ins_next{n:Nat}{L:Nat→DnR}{B:DnR}(hs:Srt n L B){a b i0:Nat}(hi:i0<n){s t:InS}(hI:InI n L B a b i0 s)(hx:s.x<b)(hb:b≤n)(hJ:InJ n L B a i0 s.x t)
  (h:t.x≤a∨¬(cmpI (t.xs.getD t.x dnN).cm (t.xs.getD (t.x-1) dnN).cm<0)):InI n L B a b i0 ⟨s.x+1,t.xs⟩:=by
 have h1:=hI.1
 have hi1:iAt a i0 s.x<n:=by unfold iAt; split <;> omega
 refine⟨by show a+1≤s.x+1; omega,.inl (by show s.x+1≤b; omega),hJ.1, ?_⟩
 show t.xs=tab n (fB L B (iAt a i0 (s.x+1)))
 rcases hJ.2 with ⟨h2,h3⟩ | ⟨h2,h3,h4,h5⟩
 ·rcases h with h | h
  ·omega
  ·have h6:=in_less hs (j:=t.x) (by omega) (by omega) hi1 h3
   have h7:¬t.x=iAt a i0 s.x+1:=fun e=>h (h6.2 e)
   rw [h3]
   have e:iAt a i0 s.x=iAt a i0 (s.x+1):=by
    unfold iAt at h7 ⊢
    split at h7 <;> split <;> split <;> omega
   rw [e]
 ·rw [h5]
  have e:s.x=iAt a i0 (s.x+1):=by
   unfold iAt
   rw [if_pos ⟨h3,by omega⟩]
   omega
  rw [←e]
theorem ins_swap{n:Nat}{L:Nat→DnR}{B:DnR}(hs:Srt n L B){a b i0:Nat}(hi:i0<n){s t:InS}(hI:InI n L B a b i0 s)(hx:s.x<b)(hb:b≤n)(hJ:InJ n L B a i0 s.x t)(h0:a<t.x)
  (h:cmpI (t.xs.getD t.x dnN).cm (t.xs.getD (t.x-1) dnN).cm<0):InJ n L B a i0 s.x ⟨t.x-1,(t.xs.set t.x (t.xs.getD (t.x-1) dnN)).set (t.x-1) (t.xs.getD t.x dnN)⟩:=by
 have h1:=hI.1
 have hi1:iAt a i0 s.x<n:=by unfold iAt; split <;> omega
 refine⟨by simp; exact hJ.1,.inr ?_⟩
 rcases hJ.2 with ⟨h2,h3⟩ | ⟨h2,h3,h4,h5⟩
 ·have h6:=(in_less hs (j:=t.x) (by omega) (by omega) hi1 h3).1 h
  have h7:a≤i0∧i0<s.x:=by
   unfold iAt at h6
   split at h6 <;> omega
  refine⟨by show t.x-1+1=s.x; omega,h7.1,h7.2, ?_⟩
  show(t.xs.set t.x _).set (t.x-1) _ = tab n (fB L B s.x)
  have h9:t.x-1=iAt a i0 s.x:=by omega
  have:=swap_up (n:=n) (L:=L) (B:=B) (i:=t.x-1) (by omega) (xs:=t.xs) (by rw [h9]; exact h3)
  have e:t.x-1+1=t.x:=by omega
  rw [e] at this
  rw [←h2]
  exact this
 ·have h6:=(in_less hs (j:=t.x) (by omega) (by omega) (i:=s.x) (by omega) h5).1 h
  omega
structure JnS where
 z:Int
 xs:List DnR
abbrev JnI(n:Nat)(L:Nat→DnR)(B:DnR)(a i0 x:Nat)(t:JnS): Prop:=0≤t.z∧t.z<(n:Int)∧t.xs.length=n∧InJ n L B a i0 x ⟨t.z.toNat,t.xs⟩
theorem ins_swapZ{n:Nat}{L:Nat→DnR}{B:DnR}(hs:Srt n L B){a b i0:Nat}(hi:i0<n){s:InS}{t:JnS}(hI:InI n L B a b i0 s)(hx:(s.x:Int)<b)(hb:b≤n)(hJ:JnI n L B a i0 s.x t)(h0:t.z>(a:Int))
  (h:cmpI (t.xs.getD t.z.toNat dnN).cm (t.xs.getD (t.z-1).toNat dnN).cm<0):JnI n L B a i0 s.x ⟨t.z-1,(t.xs.set t.z.toNat (t.xs.getD (t.z-1).toNat dnN)).set (t.z-1).toNat (t.xs.getD t.z.toNat dnN)⟩:=by
 have e:(t.z-1).toNat=t.z.toNat-1:=by omega
 refine⟨by show 0≤t.z-1; omega,by show t.z-1<(n:Int); have:=hJ.2.1; omega,by simp; exact hJ.2.2.1, ?_⟩
 rw [e] at h ⊢
 exact ins_swap hs hi hI (by omega) hb hJ.2.2.2 (by show a<t.z.toNat; omega) h
theorem ins_nextZ{n:Nat}{L:Nat→DnR}{B:DnR}(hs:Srt n L B){a b i0:Nat}(hi:i0<n){s:InS}{t:JnS}(hI:InI n L B a b i0 s)(hx:(s.x:Int)<b)(hb:b≤n)(hJ:JnI n L B a i0 s.x t)
  (h:¬t.z>(a:Int)∨¬(cmpI (t.xs.getD t.z.toNat dnN).cm (t.xs.getD (t.z-1).toNat dnN).cm<0)):InI n L B a b i0 ⟨s.x+1,t.xs⟩:=by
 refine ins_next hs hi hI (by omega) hb hJ.2.2.2 ?_
 by_cases h1:t.z.toNat≤a
 ·exact .inl h1
 ·rcases h with h | h
  ·omega
  ·have e:(t.z-1).toNat=t.z.toNat-1:=by omega
   rw [e] at h
   exact .inr h
theorem t_ins(n:Nat)(L:Nat→DnR)(B:DnR)(hs:Srt n L B)(a b i0:Nat)(hab:a≤b)(hbn:b≤n)(hi:i0<n)(hn:n≤1000):
  Ct Tryz.prog 88 (⟨[.s (.s 0 n),.s (.i .i64 a),.s (.i .i64 b),.s (.o cmpF)],[srtE (tab n (fB L B i0))],1,fun x=>x=tab n (fB L B (iAt a i0 b)),fun _=>[],fun x=>[srtE x]⟩:Sp (List DnR)):=by
 refine cX 53 xsCI Tryz.func88 fun g F => ?_
 refine xO (InK IntKind.i64 (↑a+1)) (by simp only [InK] at *; omega) ?_
 refine xLoop xsCI Tryz.func88 [0,1] [.b 0] [0,1,2,3,8] [0] (fun s:InS=>[(0,.slice (g 0).a n (g 0).c),(1,.int .i64 a),(2,.int .i64 b),(3,cmpF),(8,.int .i64 s.x)]) (fun _=>[(0,.i 0)]) (fun s=>[.sl (g 0).a (g 0).c encD dnN 14 s.xs 46]) (fun _=>⟨[(0,[])],1⟩) (InI n L B a b i0) (fun s=>b+1-s.x) ⟨a+1,tab n (fB L B i0)⟩ ⟨by simp,.inr rfl,tab_len _ _,by rw [iAt_0]⟩ (fun s J hI hJ => ?_)
 refine xB (decide ((↑s.x:Int)<(↑b:Int))) (fun h1 => ?_) (fun h1 => ?_)
 ·skip
  replace h1:=decT h1
  refine xLoop xsCI Tryz.func88 [0,1,0,0,1,0,0,1] [.b 2,.b 1,.c [1,1,0,0,1],.j J,.b 0] [0,1,2,3,8,9] [0] (fun t:JnS=>[(0,.slice (g 0).a n (g 0).c),(1,.int .i64 a),(2,.int .i64 b),(3,cmpF),(8,.int .i64 s.x),(9,.int .i64 t.z)]) (fun _=>[(0,.i 0)]) (fun t=>[.sl (g 0).a (g 0).c encD dnN 14 t.xs 46]) (fun _=>⟨[(0,[])],1⟩) (JnI n L B a i0 s.x) (fun t=>t.z.toNat) ⟨s.x,s.xs⟩ ⟨by simp,by show(s.x:Int)<n; omega,hI.2.2.1,hI.2.2.1,.inl ⟨by simp,hI.2.2.2⟩⟩ (fun t J2 hT hJ2 => ?_)
  refine xB (decide (t.z > ↑a)) (fun h2 => ?_) (fun h2 => ?_)
  ·skip
   replace h2:=decT h2
   refine xO (n≤t.xs.length∧0≤t.z∧t.z < ↑n) (by omega) ?_
   refine xO (t.z.toNat<t.xs.length) (by omega) ?_
   refine xO (InK IntKind.i64 (t.z-1)) (by simp only [InK] at *; omega) ?_
   refine xO (n≤t.xs.length∧0≤t.z-1∧t.z-1 < ↑n) (by omega) ?_
   refine xO ((t.z-1).toNat<t.xs.length) (by omega) ?_
   refine xCy [] [] (Tg.n) ⟨[(0,[])],41⟩ Tryz.call49 (fun F' h=>(t_cmp (t.xs.getD t.z.toNat dnN) (t.xs.getD (t.z-1).toNat dnN)).fr) fun xn3 n3 hxn3 => ?_
   subst hxn3
   refine xB (decide (cmpI (t.xs.getD t.z.toNat dnN).cm (t.xs.getD (t.z-1).toNat dnN).cm<0)) (fun h4 => ?_) (fun h4 => ?_)
   ·skip
    replace h4:=decT h4
    refine xO (InK IntKind.i64 (t.z-1)) (by simp only [InK] at *; omega) ?_
    refine xO (InK IntKind.i64 (t.z-1)) (by simp only [InK] at *; omega) ?_
    refine xO (n≤t.xs.length∧0≤t.z-1∧t.z-1 < ↑n) (by omega) ?_
    refine xO ((t.z-1).toNat<t.xs.length) (by omega) ?_
    refine xO (n≤t.xs.length∧0≤t.z∧t.z < ↑n) (by omega) ?_
    refine xO (t.z.toNat<t.xs.length) (by omega) ?_
    refine xO (n≤t.xs.length∧0≤t.z∧t.z < ↑n) (by omega) ?_
    refine xO (t.z.toNat<t.xs.length) (by omega) ?_
    refine xE (t.xs.getD (t.z-1).toNat dnN:DnR) fun _ => ?_
    refine xO (InK IntKind.i64 (t.z-1)) (by simp only [InK] at *; omega) ?_
    refine xO (n≤(t.xs.set t.z.toNat (t.xs.getD (t.z-1).toNat dnN)).length∧0≤t.z-1∧t.z-1 < ↑n) (by first | (simp; done) | (simp; omega)) ?_
    refine xO ((t.z-1).toNat<(t.xs.set t.z.toNat (t.xs.getD (t.z-1).toNat dnN)).length) (by first | (simp; done) | (simp; omega)) ?_
    refine xE (t.xs.getD t.z.toNat dnN:DnR) fun _ => ?_
    refine xO (InK IntKind.i64 (t.z-1)) (by simp only [InK] at *; omega) ?_
    exact xJ hJ2 ⟨t.z-1,(t.xs.set t.z.toNat (t.xs.getD (t.z-1).toNat dnN)).set (t.z-1).toNat (t.xs.getD t.z.toNat dnN)⟩ (by show(t.z-1).toNat<t.z.toNat; omega) (ins_swapZ hs hi hI (by omega) hbn hT (by omega) (by assumption))
   ·skip
    replace h4:=decF h4
    refine xO (InK IntKind.i64 (↑s.x+1)) (by simp only [InK] at *; omega) ?_
    exact xJ hJ ⟨s.x+1,t.xs⟩ (by show b+1-(s.x+1)<b+1-s.x; omega) (ins_nextZ hs hi hI (by omega) hbn hT (by first | exact .inl (by omega) | exact .inr (by assumption)))
  ·skip
   replace h2:=decF h2
   refine xO (InK IntKind.i64 (↑s.x+1)) (by simp only [InK] at *; omega) ?_
   exact xJ hJ ⟨s.x+1,t.xs⟩ (by show b+1-(s.x+1)<b+1-s.x; omega) (ins_nextZ hs hi hI (by omega) hbn hT (by first | exact .inl (by omega) | exact .inr (by assumption)))
 ·skip
  replace h1:=decF h1
  exact xR (s.xs) (ins_end hab hI (by omega))
end Go.Proofs.YthijdhenekmojaaGreatDoor
/- Sorting: a rotation by one. -/
set_option linter.unusedSimpArgs false
set_option maxRecDepth 100000
set_option maxHeartbeats 0
namespace Go.Proofs.YthijdhenekmojaaGreatDoor
open Go.Sx
def swp(xs:List DnR)(a b:Nat): List DnR:=(xs.set a (xs.getD b dnN)).set b (xs.getD a dnN)
theorem swp_len(xs:List DnR)(a b:Nat): (swp xs a b).length=xs.length:=by simp [swp]
abbrev SwI(xs0:List DnR)(a b:Int)(s:InS): Prop:=s.xs.length=xs0.length∧((s.x=0∧s.xs=xs0)∨(s.x=1∧s.xs=swp xs0 a.toNat b.toNat))
theorem sw_next{xs0:List DnR}{a b k:Int}(hk:k=1){s:InS}(hI:SwI xs0 a b s)(h:(s.x:Int)<k): SwI xs0 a b ⟨s.x+1,(s.xs.set (a + ↑s.x).toNat (s.xs.getD (b + ↑s.x).toNat dnN)).set (b + ↑s.x).toNat (s.xs.getD (a + ↑s.x).toNat dnN)⟩:=by
 have h0:s.x=0:=by omega
 refine⟨by simp; exact hI.1,.inr ⟨by show s.x+1=1; omega, ?_⟩⟩
 show(s.xs.set (a + ↑s.x).toNat _).set (b + ↑s.x).toNat _ = _
 have e1:a+(s.x:Int)=a:=by omega
 have e2:b+(s.x:Int)=b:=by omega
 rcases hI.2 with ⟨_,h2⟩ | ⟨h2,_⟩
 ·rw [e1,e2,h2]; rfl
 ·omega
theorem sw_end{xs0:List DnR}{a b k:Int}(hk:k=1){s:InS}(hI:SwI xs0 a b s)(h:¬(s.x:Int)<k): s.xs=swp xs0 a.toNat b.toNat:=by
 rcases hI.2 with ⟨h2,_⟩ | ⟨_,h2⟩
 ·omega
 ·exact h2
theorem t_swap(n:Nat)(xs:List DnR)(hx:xs.length=n)(a b k:Int)(hk:k=1)(ha:0≤a∧a<n)(hb:0≤b∧b<n)(hn:n≤1000):
  Ct Tryz.prog 123 (⟨[.s (.s 0 n),.s (.i .i64 a),.s (.i .i64 b),.s (.i .i64 k),.s (.o cmpF)],[srtE xs],1,fun x=>x=swp xs a.toNat b.toNat,fun _=>[],fun x=>[srtE x]⟩:Sp (List DnR)):=by
 refine cX 38 xsCI Tryz.func123 fun g F => ?_
 refine xLoop xsCI Tryz.func123 [0,1] [.b 0] [0,1,2,3,4,10] [0] (fun s:InS=>[(0,.slice (g 0).a n (g 0).c),(1,.int .i64 a),(2,.int .i64 b),(3,.int .i64 k),(4,cmpF),(10,.int .i64 s.x)]) (fun _=>[(0,.i 0)]) (fun s=>[.sl (g 0).a (g 0).c encD dnN 14 s.xs 46]) (fun _=>⟨[(0,[])],1⟩) (SwI xs a b) (fun s=>1-s.x) ⟨0,xs⟩ ⟨rfl,.inl ⟨rfl,rfl⟩⟩ (fun s J hI hJ => ?_)
 refine xB (decide (↑s.x<k)) (fun h1 => ?_) (fun h1 => ?_)
 ·skip
  replace h1:=decT h1
  refine xO (InK IntKind.i64 (a + ↑s.x)) (by simp only [InK] at *; omega) ?_
  refine xO (InK IntKind.i64 (b + ↑s.x)) (by simp only [InK] at *; omega) ?_
  refine xO (InK IntKind.i64 (b + ↑s.x)) (by simp only [InK] at *; omega) ?_
  refine xO (n≤s.xs.length∧0≤b + ↑s.x∧b + ↑s.x < ↑n) (by omega) ?_
  refine xO ((b + ↑s.x).toNat<s.xs.length) (by omega) ?_
  refine xO (InK IntKind.i64 (a + ↑s.x)) (by simp only [InK] at *; omega) ?_
  refine xO (n≤s.xs.length∧0≤a + ↑s.x∧a + ↑s.x < ↑n) (by omega) ?_
  refine xO ((a + ↑s.x).toNat<s.xs.length) (by omega) ?_
  refine xO (n≤s.xs.length∧0≤a + ↑s.x∧a + ↑s.x < ↑n) (by omega) ?_
  refine xO ((a + ↑s.x).toNat<s.xs.length) (by omega) ?_
  refine xE (s.xs.getD (b + ↑s.x).toNat dnN:DnR) fun _ => ?_
  refine xO (InK IntKind.i64 (b + ↑s.x)) (by simp only [InK] at *; omega) ?_
  refine xO (n≤(s.xs.set (a + ↑s.x).toNat (s.xs.getD (b + ↑s.x).toNat dnN)).length∧0≤b + ↑s.x∧b + ↑s.x < ↑n) (by first | (simp; done) | (simp; omega)) ?_
  refine xO ((b + ↑s.x).toNat<(s.xs.set (a + ↑s.x).toNat (s.xs.getD (b + ↑s.x).toNat dnN)).length) (by first | (simp; done) | (simp; omega)) ?_
  refine xE (s.xs.getD (a + ↑s.x).toNat dnN:DnR) fun _ => ?_
  refine xO (InK IntKind.i64 (↑s.x+1)) (by simp only [InK] at *; omega) ?_
  exact xJ hJ ⟨s.x+1,(s.xs.set (a + ↑s.x).toNat (s.xs.getD (b + ↑s.x).toNat dnN)).set (b + ↑s.x).toNat (s.xs.getD (a + ↑s.x).toNat dnN)⟩ (by show 1-(s.x+1)<1-s.x; omega) (sw_next hk hI (by omega))
 ·skip
  replace h1:=decF h1
  exact xR (s.xs) (sw_end hk hI (by omega))
structure RtS where
 i:Int
 j:Int
 xs:List DnR
abbrev RtI(n:Nat)(L:Nat→DnR)(B:DnR)(m e:Int)(s:RtS): Prop:=s.i=1∧1≤s.j∧s.j≤e-m∧s.xs.length=n∧s.xs=tab n (fR L B m.toNat e.toNat s.j.toNat)
theorem rt_0{n:Nat}{L:Nat→DnR}{B:DnR}{a m e:Int}(ha:a=m-1)(hm:1≤m)(he:m<e){xs:List DnR}(hl:xs.length=n)(hx:xs=tab n (fB L B (m-1).toNat)): RtI n L B m e ⟨m-a,e-m,xs⟩:=by
 refine⟨by show m-a=1; omega,by show 1≤e-m; omega,Int.le_refl _,hl, ?_⟩
 show xs=tab n (fR L B m.toNat e.toNat (e-m).toNat)
 rw [hx]
 refine tab_ext fun p hp => ?_
 have e1:(e-m).toNat=e.toNat-m.toNat:=by omega
 have e2:(m-1).toNat=m.toNat-1:=by omega
 rw [e1,e2,fR_0 (by omega) (by omega)]
theorem rt_next{n:Nat}{L:Nat→DnR}{B:DnR}{m e:Int}(hm:1≤m)(he:m<e)(hn:e≤n){s:RtS}(hI:RtI n L B m e s)(h:¬s.i=s.j): RtI n L B m e ⟨s.i,s.j-s.i,swp s.xs (m-s.i).toNat (m+s.j-s.i).toNat⟩:=by
 obtain⟨h1,h2,h3,h4,h5⟩:=hI
 refine⟨h1,by show 1≤s.j-s.i; omega,by show s.j-s.i≤e-m; omega,by rw [swp_len]; exact h4, ?_⟩
 show swp s.xs _ _ = tab n (fR L B m.toNat e.toNat (s.j-s.i).toNat)
 have e1:(m-s.i).toNat=m.toNat-1:=by omega
 have e2:(m+s.j-s.i).toNat=m.toNat+s.j.toNat-1:=by omega
 have e3:(s.j-s.i).toNat=s.j.toNat-1:=by omega
 rw [e1,e2,e3,h5]
 unfold swp
 rw [tab_swap (by omega) (by omega)]
 exact tab_ext fun p hp=>fR_step (by omega) (by omega) (by omega) (by omega) p
theorem rt_end{n:Nat}{L:Nat→DnR}{B:DnR}{m e:Int}(hm:1≤m)(he:m<e)(hn:e≤n){s:RtS}(hI:RtI n L B m e s)(h:s.i=s.j): swp s.xs (m-s.i).toNat m.toNat=tab n (fB L B (e-1).toNat):=by
 obtain⟨h1,h2,h3,h4,h5⟩:=hI
 have e1:(m-s.i).toNat=m.toNat-1:=by omega
 have e2:s.j.toNat=1:=by omega
 have e3:(e-1).toNat=e.toNat-1:=by omega
 rw [e1,h5,e2,e3]
 unfold swp
 rw [tab_swap (by omega) (by omega)]
 exact tab_ext fun p hp=>fR_end (by omega) (by omega) p
theorem t_rot(n:Nat)(L:Nat→DnR)(B:DnR)(a m e:Int)(ha:a=m-1)(hm:1≤m)(he:m<e)(hen:e≤n)(hn:n≤1000)(xs:List DnR)(hl:xs.length=n)(hx:xs=tab n (fB L B (m-1).toNat)):
  Ct Tryz.prog 112 (⟨[.s (.s 0 n),.s (.i .i64 a),.s (.i .i64 m),.s (.i .i64 e),.s (.o cmpF)],[srtE xs],1,fun x=>x=tab n (fB L B (e-1).toNat),fun _=>[],fun x=>[srtE x]⟩:Sp (List DnR)):=by
 refine cX 58 xsCI Tryz.func112 fun g F => ?_
 refine xO (InK IntKind.i64 (m-a)) (by simp only [InK] at *; omega) ?_
 refine xO (InK IntKind.i64 (e-m)) (by simp only [InK] at *; omega) ?_
 refine xLoop xsCI Tryz.func112 [0,0,1,1] [.b 0,.c [1,1,1]] [0,1,2,3,4,10,11] [0] (fun s:RtS=>[(0,.slice (g 0).a n (g 0).c),(1,.int .i64 a),(2,.int .i64 m),(3,.int .i64 e),(4,cmpF),(10,.int .i64 s.i),(11,.int .i64 s.j)]) (fun _=>[(0,.i 0)]) (fun s=>[.sl (g 0).a (g 0).c encD dnN 14 s.xs 46]) (fun _=>⟨[(0,[])],1⟩) (RtI n L B m e) (fun s=>s.j.toNat) ⟨m-a,e-m,xs⟩ (rt_0 ha hm he hl hx) (fun s J hI hJ => ?_)
 refine xB (s.i != s.j) (fun h1 => ?_) (fun h1 => ?_)
 ·skip
  replace h1:=ntT h1
  replace h1:=decF h1
  refine xF (decide (s.i>s.j)) (by first | (simp; done) | (simp; omega)) ?_
  refine xO (InK IntKind.i64 (m-s.i)) (by simp only [InK] at *; omega) ?_
  refine xO (InK IntKind.i64 (m+s.j)) (by simp only [InK] at *; omega) ?_
  refine xO (InK IntKind.i64 (m+s.j-s.i)) (by simp only [InK] at *; omega) ?_
  refine xCy [⟨0,(g 0).a,(g 0).c⟩] [0] ((Tg.l [])) ⟨[(0,[])],57⟩ Tryz.call123 (fun F' h=>(t_swap (n) (s.xs) (by omega) (m-s.i) (m+s.j-s.i) (s.i) hI.1 (by omega) (by omega) (by omega)).fr) fun xn2 n2 hxn2 => ?_
  subst hxn2
  refine xO (InK IntKind.i64 (s.j-s.i)) (by simp only [InK] at *; omega) ?_
  exact xJ hJ ⟨s.i,s.j-s.i,swp s.xs (m-s.i).toNat (m+s.j-s.i).toNat⟩ (by show(s.j-s.i).toNat<s.j.toNat; omega) (rt_next hm he hen hI (by omega))
 ·skip
  replace h1:=ntF h1
  replace h1:=decT h1
  refine xO (InK IntKind.i64 (m-s.i)) (by simp only [InK] at *; omega) ?_
  refine xCy [⟨0,(g 0).a,(g 0).c⟩] [0] ((Tg.l [])) ⟨[(0,[])],50⟩ Tryz.call123 (fun F' h=>(t_swap (n) (s.xs) (by omega) (m-s.i) (m) (s.i) hI.1 (by omega) (by omega) (by omega)).fr) fun xn3 n3 hxn3 => ?_
  subst hxn3
  exact xR (swp s.xs (m-s.i).toNat m.toNat) (rt_end hm he hen hI (by omega))
end Go.Proofs.YthijdhenekmojaaGreatDoor
/- Sorting: the merge. -/
set_option linter.unusedSimpArgs false
set_option maxRecDepth 100000
set_option maxHeartbeats 0
namespace Go.Proofs.YthijdhenekmojaaGreatDoor
open Go.Sx
/-- where the greatest one is behind a merge -/
def iS(m b:Int)(i0:Nat): Nat:=if (i0:Int)=m-1 then(b-1).toNat else i0
abbrev SmOk(n:Nat)(a m b:Int)(i0:Nat): Prop:=0≤a∧a<m∧m<b∧b≤(n:Int)∧i0<n∧((i0:Int)=m-1∨(i0:Int)=b-1∨(i0:Int)<a∨b≤(i0:Int))
abbrev smS(n:Nat)(L:Nat→DnR)(B:DnR)(a m b:Int)(i0:Nat)(xs:List DnR): Sp (List DnR):=
 ⟨[.s (.s 0 n),.s (.i .i64 a),.s (.i .i64 m),.s (.i .i64 b),.s (.o cmpF)],[srtE xs],1,fun x=>x=tab n (fB L B (iS m b i0)),fun _=>[],fun x=>[srtE x]⟩
def SymH(n:Nat)(L:Nat→DnR)(B:DnR)(k:Nat): Prop := ∀(a m b:Int) (i0:Nat) (xs:List DnR),(b-a).toNat≤k→SmOk n a m b i0→xs.length=n→xs=tab n (fB L B i0)→Ct Tryz.prog 89 (smS n L B a m b i0 xs)
theorem t_symI(n:Nat)(L:Nat→DnR)(B:DnR)(k:Nat)(h:SymH n L B k)(a m b:Int)(i0:Nat)(xs:List DnR)(hx:xs=tab n (fB L B i0))(hl:xs.length=n)(hk:(b-a).toNat≤k)(ho:SmOk n a m b i0): Ct Tryz.prog 89 (smS n L B a m b i0 xs):=h a m b i0 xs hk ho hl hx
theorem t_rotH(n:Nat)(L:Nat→DnR)(B:DnR)(hs:Srt n L B)(a m e:Int)(xs:List DnR)(hx:xs=tab n (fB L B (m-1).toNat))(hl:xs.length=n)(ha:a=m-1)(hm:1≤m)(he:m<e)(hen:e≤n)(hn:n≤1000):
  Ct Tryz.prog 112 (⟨[.s (.s 0 n),.s (.i .i64 a),.s (.i .i64 m),.s (.i .i64 e),.s (.o cmpF)],[srtE xs],1,fun x=>x=tab n (fB L B (e-1).toNat),fun _=>[],fun x=>[srtE x]⟩:Sp (List DnR)):=t_rot n L B a m e ha hm he hen hn xs hl hx
theorem hf_eq{x y:Int}(h:0≤x+y∧x+y≤4000): bShr IntKind.u64 (IntKind.u64.wrap (x+y)) 1=(x+y) / 2:=by
 rw [wrap_in (by simp only [InK]; omega)]
 exact shr_lit _ 1 (by omega)
theorem nd_true{p:Prop}[Decidable p](h:¬p): (!decide p)=true:=by simp [h]
theorem nd_false{p:Prop}[Decidable p](h:p): (!decide p)=false:=by simp [h]
theorem sm_eq{n:Nat}{L:Nat→DnR}{B:DnR}{i j:Nat}(h:i=j): tab n (fB L B i)=tab n (fB L B j):=by rw [h]
theorem lessZ{n:Nat}{L:Nat→DnR}{B:DnR}(hs:Srt n L B){i0:Nat}(hi:i0<n){xs:List DnR}(hx:xs=tab n (fB L B i0)){p q:Int}(hp:0≤p∧p<(n:Int))(hq:0≤q∧q<(n:Int))(hne:¬p=q):
  (cmpI (xs.getD p.toNat dnN).cm (xs.getD q.toNat dnN).cm<0)↔(q=(i0:Int)∨(¬p=(i0:Int)∧p<q)):=by
 have h:=fB_less hs (p:=p.toNat) (q:=q.toNat) (by omega) (by omega) hi (by omega)
 rw [decide_eq_decide] at h
 rw [hx,tab_get (by omega),tab_get (by omega),h]
 omega
structure BsS where
 i:Int
 j:Int
abbrev SaI(a m b:Int)(i0:Nat)(s:BsS): Prop:=m≤s.i∧s.i≤s.j∧s.j≤b∧(((i0:Int)=a∧s.j=b)∨(¬(i0:Int)=a∧s.i=m))
abbrev ShI(n:Nat)(L:Nat→DnR)(B:DnR)(xs:List DnR)(a b:Int)(i0:Nat)(t:JnS): Prop:=t.xs.length=n∧(((i0:Int)=a∧a≤t.z∧t.z≤b-1∧t.xs=tab n (fB L B t.z.toNat))∨(¬(i0:Int)=a∧t.z=a∧t.xs=xs))
theorem shA_next{n:Nat}{L:Nat→DnR}{B:DnR}{xs:List DnR}{a b:Int}{i0:Nat}{t:JnS}(ha:0≤a)(hb:b≤(n:Int))(hT:ShI n L B xs a b i0 t)(h:t.z<b-1)(hz:(i0:Int)=a): ShI n L B xs a b i0 ⟨t.z+1,(t.xs.set t.z.toNat (t.xs.getD (t.z+1).toNat dnN)).set (t.z+1).toNat (t.xs.getD t.z.toNat dnN)⟩:=by
 refine⟨by simp; exact hT.1, ?_⟩
 rcases hT.2 with ⟨h1,h2,h3,h4⟩ | ⟨h1,_⟩
 ·refine .inl ⟨h1,by show a≤t.z+1; omega,by show t.z+1≤b-1; omega, ?_⟩
  show(t.xs.set t.z.toNat _).set (t.z+1).toNat _ = tab n (fB L B (t.z+1).toNat)
  have e:(t.z+1).toNat=t.z.toNat+1:=by omega
  rw [e]
  exact swap_up' (by omega) h4
 ·exact absurd hz h1
theorem shA_end{n:Nat}{L:Nat→DnR}{B:DnR}{xs:List DnR}{a m b:Int}{i0:Nat}{t:JnS}(hx:xs=tab n (fB L B i0))(h1:m-a=1)(hT:ShI n L B xs a b i0 t)(h:(i0:Int)=a→¬t.z<b-1): t.xs=tab n (fB L B (iS m b i0)):=by
 rcases hT.2 with ⟨h2,h3,h4,h5⟩ | ⟨h2,h3,h4⟩
 ·rw [h5]
  refine sm_eq ?_
  unfold iS
  rw [if_pos (by omega)]
  have:=h h2
  omega
 ·rw [h4,hx]
  refine sm_eq ?_
  unfold iS
  rw [if_neg (by omega)]
abbrev SbI(a m:Int)(i0:Nat)(s:BsS): Prop:=a≤s.i∧s.i≤s.j∧s.j≤m∧(((i0:Int)=m-1∧s.i≤m-1∧m-1≤s.j)∨(¬(i0:Int)=m-1∧s.j=m))
abbrev SkI(n:Nat)(L:Nat→DnR)(B:DnR)(xs:List DnR)(m:Int)(i0:Nat)(t:JnS): Prop:=t.xs.length=n∧((t.z=m∧t.xs=xs)∨((i0:Int)=m-1∧t.z=m-1∧t.xs=tab n (fB L B m.toNat)))
theorem shB_next{n:Nat}{L:Nat→DnR}{B:DnR}{xs:List DnR}{m:Int}{i0:Nat}{t:JnS}(hx:xs=tab n (fB L B i0))(h0:1≤m∧m<(n:Int))(hT:SkI n L B xs m i0 t)(h:(i0:Int)=m-1)(hz:t.z>m-1): SkI n L B xs m i0 ⟨t.z-1,(t.xs.set t.z.toNat (t.xs.getD (t.z-1).toNat dnN)).set (t.z-1).toNat (t.xs.getD t.z.toNat dnN)⟩:=by
 refine⟨by simp; exact hT.1,.inr ?_⟩
 rcases hT.2 with ⟨h1,h2⟩ | ⟨h1,h2,_⟩
 ·refine⟨h,by show t.z-1=m-1; omega, ?_⟩
  show(t.xs.set t.z.toNat _).set (t.z-1).toNat _ = _
  have e1:(t.z-1).toNat=i0:=by omega
  have e2:t.z.toNat=i0+1:=by omega
  have e3:m.toNat=i0+1:=by omega
  rw [e1,e2,e3]
  exact swap_up (by omega) (h2.trans hx)
 ·omega
theorem shB_end{n:Nat}{L:Nat→DnR}{B:DnR}{xs:List DnR}{m b i:Int}{i0:Nat}{t:JnS}(hx:xs=tab n (fB L B i0))(h1:b-m=1)(h0:1≤m)(hT:SkI n L B xs m i0 t)(hi:((i0:Int)=m-1→i=m-1))(h:¬t.z>i): t.xs=tab n (fB L B (iS m b i0)):=by
 rcases hT.2 with ⟨h2,h3⟩ | ⟨h2,h3,h4⟩
 ·rw [h3,hx]
  refine sm_eq ?_
  unfold iS
  by_cases h5:(i0:Int)=m-1
  ·have:=hi h5; omega
  ·rw [if_neg h5]
 ·rw [h4]
  refine sm_eq ?_
  unfold iS
  rw [if_pos h2]
  omega
abbrev SmJ(a m b E:Int)(i0:Nat)(s:BsS): Prop:=(m>E∧E+m-b≤s.i∧s.i≤s.j∧s.j=E)∨(m≤E∧a≤s.i∧s.i≤s.j∧s.j≤m∧(((i0:Int)=m-1∧s.i≤m-1∧m-1≤s.j)∨(¬(i0:Int)=m-1∧s.j=m)))
theorem SmJ.mk{a m b E x y:Int}{i0:Nat}(h:(m>E∧E+m-b≤x∧x≤y∧y=E)∨(m≤E∧a≤x∧x≤y∧y≤m∧(((i0:Int)=m-1∧x≤m-1∧m-1≤y)∨(¬(i0:Int)=m-1∧y=m)))): SmJ a m b E i0 ⟨x,y⟩:=h
theorem t_symA(n:Nat)(L:Nat→DnR)(B:DnR)(hs:Srt n L B)(hn:n≤1000)(k:Nat)(ih:SymH n L B k)(a m b:Int)(i0:Nat)(xs:List DnR)(hk:(b-a).toNat≤k+1)(ho:SmOk n a m b i0)(hl:xs.length=n)(hx:xs=tab n (fB L B i0))(hi:(i0:Int)=m-1): Ct Tryz.prog 89 (smS n L B a m b i0 xs):=by
 refine cX 220 xsCI Tryz.func89 fun g F => ?_
 have hE:=hf_eq (x:=a) (y:=b) (by omega)
 refine xO (InK IntKind.i64 (m-a)) (by simp only [InK] at *; omega) ?_
 refine xB (m-a==1) (fun h1 => ?_) (fun h1 => ?_)
 ·skip
  replace h1:=decT h1
  (refine xLoop xsCI Tryz.func89 [0,0,1,1,0,1,0] [.b 0,.c [1,1,1,0,1,0],.c [1]] [0,1,2,3,4,10,11] [0] (fun s:BsS=>[(0,.slice (g 0).a n (g 0).c),(1,.int .i64 a),(2,.int .i64 m),(3,.int .i64 b),(4,cmpF),(10,.int .i64 s.i),(11,.int .i64 s.j)]) (fun _=>[(0,.i 0)]) (fun _=>[.sl (g 0).a (g 0).c encD dnN 14 xs 46]) (fun _=>⟨[(0,[])],1⟩) (SaI a m b i0) (fun s=>(s.j-s.i).toNat) ⟨m,b⟩ (by show m≤m∧m≤b∧b≤b∧(((i0:Int)=a∧b=b)∨(¬(i0:Int)=a∧m=m)); omega) (fun sA JA hA hJA => ?_); have hE2:=hf_eq (x:=sA.i) (y:=sA.j) (by omega))
  refine xB (decide (sA.i<sA.j)) (fun h2 => ?_) (fun h2 => ?_)
  ·skip
   replace h2:=decT h2
   refine xO (InK IntKind.i64 (sA.i+sA.j)) (by simp only [InK] at *; omega) ?_
   refine xO ((0:Int)≤(1:Int)) (by omega) ?_
   refine xO (InK IntKind.i64 (bShr IntKind.u64 (IntKind.u64.wrap (sA.i+sA.j)) 1)) (by simp only [InK] at *; omega) ?_
   refine xO (n≤xs.length∧0≤bShr IntKind.u64 (IntKind.u64.wrap (sA.i+sA.j)) 1∧bShr IntKind.u64 (IntKind.u64.wrap (sA.i+sA.j)) 1 < ↑n) (by omega) ?_
   refine xO ((bShr IntKind.u64 (IntKind.u64.wrap (sA.i+sA.j)) 1).toNat<xs.length) (by omega) ?_
   refine xO (n≤xs.length∧0≤a∧a < ↑n) (by omega) ?_
   refine xO (a.toNat<xs.length) (by omega) ?_
   have hL2:=lessZ hs (by omega) hx (p:=bShr IntKind.u64 (IntKind.u64.wrap (sA.i+sA.j)) 1) (q:=a) (by omega) (by omega) (by omega)
   refine xCy [] [] (Tg.n) ⟨[(0,[])],50⟩ Tryz.call49 (fun F' h=>(t_cmp (xs.getD (bShr IntKind.u64 (IntKind.u64.wrap (sA.i+sA.j)) 1).toNat dnN) (xs.getD a.toNat dnN)).fr) fun xn3 n3 hxn3 => ?_
   subst hxn3
   refine xT (decide (cmpI (xs.getD (bShr IntKind.u64 (IntKind.u64.wrap (sA.i+sA.j)) 1).toNat dnN).cm (xs.getD a.toNat dnN).cm<0)) (decide_eq_true (by omega)) ?_
   refine xO (InK IntKind.i64 (bShr IntKind.u64 (IntKind.u64.wrap (sA.i+sA.j)) 1+1)) (by simp only [InK] at *; omega) ?_
   first | exact xJ hJA ⟨bShr IntKind.u64 (IntKind.u64.wrap (sA.i+sA.j)) 1+1,sA.j⟩ (by show(sA.j-(bShr IntKind.u64 (IntKind.u64.wrap (sA.i+sA.j)) 1+1)).toNat<(sA.j-sA.i).toNat; omega) (by show m≤bShr IntKind.u64 (IntKind.u64.wrap (sA.i+sA.j)) 1+1∧bShr IntKind.u64 (IntKind.u64.wrap (sA.i+sA.j)) 1+1≤sA.j∧sA.j≤b∧(((i0:Int)=a∧sA.j=b)∨(¬(i0:Int)=a∧bShr IntKind.u64 (IntKind.u64.wrap (sA.i+sA.j)) 1+1=m)); omega) | exact xJ hJA ⟨sA.i,bShr IntKind.u64 (IntKind.u64.wrap (sA.i+sA.j)) 1⟩ (by show(bShr IntKind.u64 (IntKind.u64.wrap (sA.i+sA.j)) 1-sA.i).toNat<(sA.j-sA.i).toNat; omega) (by show m≤sA.i∧sA.i≤bShr IntKind.u64 (IntKind.u64.wrap (sA.i+sA.j)) 1∧bShr IntKind.u64 (IntKind.u64.wrap (sA.i+sA.j)) 1≤b∧(((i0:Int)=a∧bShr IntKind.u64 (IntKind.u64.wrap (sA.i+sA.j)) 1=b)∨(¬(i0:Int)=a∧sA.i=m)); omega)
  ·skip
   replace h2:=decF h2
   refine xLoop xsCI Tryz.func89 [0,1,0,1,1,1,0,1,0] [.b 2,.c [1,1,1,1,0,1,0],.c [1]] [0,1,2,3,4,10,13] [0] (fun t:JnS=>[(0,.slice (g 0).a n (g 0).c),(1,.int .i64 a),(2,.int .i64 m),(3,.int .i64 b),(4,cmpF),(10,.int .i64 sA.i),(13,.int .i64 t.z)]) (fun _=>[(0,.i 0)]) (fun t=>[.sl (g 0).a (g 0).c encD dnN 14 t.xs 46]) (fun _=>⟨[(0,[])],1⟩) (ShI n L B xs a b i0) (fun t=>(b-t.z).toNat) ⟨a,xs⟩ ⟨hl,by first | exact .inl ⟨by omega,by show a≤a; omega,by show a≤b-1; omega,hx.trans (sm_eq (by show i0=a.toNat; omega))⟩ | exact .inr ⟨by omega,rfl,rfl⟩⟩ (fun tA JC hTA hJC => ?_)
   refine xO (InK IntKind.i64 (sA.i-1)) (by simp only [InK] at *; omega) ?_
   refine xB (decide (tA.z<sA.i-1)) (fun h4 => ?_) (fun h4 => ?_)
   ·skip
    replace h4:=decT h4
    refine xO (InK IntKind.i64 (tA.z+1)) (by simp only [InK] at *; omega) ?_
    refine xO (InK IntKind.i64 (tA.z+1)) (by simp only [InK] at *; omega) ?_
    refine xO (n≤tA.xs.length∧0≤tA.z+1∧tA.z+1 < ↑n) (by omega) ?_
    refine xO ((tA.z+1).toNat<tA.xs.length) (by omega) ?_
    refine xO (n≤tA.xs.length∧0≤tA.z∧tA.z < ↑n) (by omega) ?_
    refine xO (tA.z.toNat<tA.xs.length) (by omega) ?_
    refine xO (n≤tA.xs.length∧0≤tA.z∧tA.z < ↑n) (by omega) ?_
    refine xO (tA.z.toNat<tA.xs.length) (by omega) ?_
    refine xE (tA.xs.getD (tA.z+1).toNat dnN:DnR) fun _ => ?_
    refine xO (InK IntKind.i64 (tA.z+1)) (by simp only [InK] at *; omega) ?_
    refine xO (n≤(tA.xs.set tA.z.toNat (tA.xs.getD (tA.z+1).toNat dnN)).length∧0≤tA.z+1∧tA.z+1 < ↑n) (by first | (simp; done) | (simp; omega)) ?_
    refine xO ((tA.z+1).toNat<(tA.xs.set tA.z.toNat (tA.xs.getD (tA.z+1).toNat dnN)).length) (by first | (simp; done) | (simp; omega)) ?_
    refine xE (tA.xs.getD tA.z.toNat dnN:DnR) fun _ => ?_
    refine xO (InK IntKind.i64 (tA.z+1)) (by simp only [InK] at *; omega) ?_
    exact xJ hJC ⟨tA.z+1,(tA.xs.set tA.z.toNat (tA.xs.getD (tA.z+1).toNat dnN)).set (tA.z+1).toNat (tA.xs.getD tA.z.toNat dnN)⟩ (by show(b-(tA.z+1)).toNat<(b-tA.z).toNat; omega) (shA_next (by omega) (by omega) hTA (by omega) (by omega))
   ·skip
    replace h4:=decF h4
    exact xR (tA.xs) (shA_end hx (by omega) hTA (fun h=>by omega))
 ·skip
  replace h1:=decF h1
  refine xO (InK IntKind.i64 (b-m)) (by simp only [InK] at *; omega) ?_
  refine xB (b-m==1) (fun h5 => ?_) (fun h5 => ?_)
  ·skip
   replace h5:=decT h5
   (refine xLoop xsCI Tryz.func89 [0,0,1,1,0,1,0,1] [.b 4,.c [1,1,1,0,1,0,1],.c [1,1]] [0,1,2,3,4,14,15] [0] (fun s:BsS=>[(0,.slice (g 0).a n (g 0).c),(1,.int .i64 a),(2,.int .i64 m),(3,.int .i64 b),(4,cmpF),(14,.int .i64 s.i),(15,.int .i64 s.j)]) (fun _=>[(0,.i 0)]) (fun _=>[.sl (g 0).a (g 0).c encD dnN 14 xs 46]) (fun _=>⟨[(0,[])],1⟩) (SbI a m i0) (fun s=>(s.j-s.i).toNat) ⟨a,m⟩ (by show a≤a∧a≤m∧m≤m∧(((i0:Int)=m-1∧a≤m-1∧m-1≤m)∨(¬(i0:Int)=m-1∧m=m)); omega) (fun sB JB hB hJB => ?_); have hE3:=hf_eq (x:=sB.i) (y:=sB.j) (by omega))
   refine xB (decide (sB.i<sB.j)) (fun h6 => ?_) (fun h6 => ?_)
   ·skip
    replace h6:=decT h6
    refine xO (InK IntKind.i64 (sB.i+sB.j)) (by simp only [InK] at *; omega) ?_
    refine xO ((0:Int)≤(1:Int)) (by omega) ?_
    refine xO (InK IntKind.i64 (bShr IntKind.u64 (IntKind.u64.wrap (sB.i+sB.j)) 1)) (by simp only [InK] at *; omega) ?_
    refine xO (n≤xs.length∧0≤m∧m < ↑n) (by omega) ?_
    refine xO (m.toNat<xs.length) (by omega) ?_
    refine xO (n≤xs.length∧0≤bShr IntKind.u64 (IntKind.u64.wrap (sB.i+sB.j)) 1∧bShr IntKind.u64 (IntKind.u64.wrap (sB.i+sB.j)) 1 < ↑n) (by omega) ?_
    refine xO ((bShr IntKind.u64 (IntKind.u64.wrap (sB.i+sB.j)) 1).toNat<xs.length) (by omega) ?_
    have hL3:=lessZ hs (by omega) hx (p:=m) (q:=bShr IntKind.u64 (IntKind.u64.wrap (sB.i+sB.j)) 1) (by omega) (by omega) (by omega)
    refine xCy [] [] (Tg.n) ⟨[(0,[])],50⟩ Tryz.call49 (fun F' h=>(t_cmp (xs.getD m.toNat dnN) (xs.getD (bShr IntKind.u64 (IntKind.u64.wrap (sB.i+sB.j)) 1).toNat dnN)).fr) fun xn7 n7 hxn7 => ?_
    subst hxn7
    refine xB (!decide (cmpI (xs.getD m.toNat dnN).cm (xs.getD (bShr IntKind.u64 (IntKind.u64.wrap (sB.i+sB.j)) 1).toNat dnN).cm<0)) (fun h8 => ?_) (fun h8 => ?_)
    ·skip
     replace h8:=ntT h8
     replace h8:=decF h8
     refine xO (InK IntKind.i64 (bShr IntKind.u64 (IntKind.u64.wrap (sB.i+sB.j)) 1+1)) (by simp only [InK] at *; omega) ?_
     first | exact xJ hJB ⟨bShr IntKind.u64 (IntKind.u64.wrap (sB.i+sB.j)) 1+1,sB.j⟩ (by show(sB.j-(bShr IntKind.u64 (IntKind.u64.wrap (sB.i+sB.j)) 1+1)).toNat<(sB.j-sB.i).toNat; omega) (by show a≤bShr IntKind.u64 (IntKind.u64.wrap (sB.i+sB.j)) 1+1∧bShr IntKind.u64 (IntKind.u64.wrap (sB.i+sB.j)) 1+1≤sB.j∧sB.j≤m∧(((i0:Int)=m-1∧bShr IntKind.u64 (IntKind.u64.wrap (sB.i+sB.j)) 1+1≤m-1∧m-1≤sB.j)∨(¬(i0:Int)=m-1∧sB.j=m)); omega) | exact xJ hJB ⟨sB.i,bShr IntKind.u64 (IntKind.u64.wrap (sB.i+sB.j)) 1⟩ (by show(bShr IntKind.u64 (IntKind.u64.wrap (sB.i+sB.j)) 1-sB.i).toNat<(sB.j-sB.i).toNat; omega) (by show a≤sB.i∧sB.i≤bShr IntKind.u64 (IntKind.u64.wrap (sB.i+sB.j)) 1∧bShr IntKind.u64 (IntKind.u64.wrap (sB.i+sB.j)) 1≤m∧(((i0:Int)=m-1∧sB.i≤m-1∧m-1≤bShr IntKind.u64 (IntKind.u64.wrap (sB.i+sB.j)) 1)∨(¬(i0:Int)=m-1∧bShr IntKind.u64 (IntKind.u64.wrap (sB.i+sB.j)) 1=m)); omega)
    ·skip
     replace h8:=ntF h8
     replace h8:=decT h8
     first | exact xJ hJB ⟨bShr IntKind.u64 (IntKind.u64.wrap (sB.i+sB.j)) 1+1,sB.j⟩ (by show(sB.j-(bShr IntKind.u64 (IntKind.u64.wrap (sB.i+sB.j)) 1+1)).toNat<(sB.j-sB.i).toNat; omega) (by show a≤bShr IntKind.u64 (IntKind.u64.wrap (sB.i+sB.j)) 1+1∧bShr IntKind.u64 (IntKind.u64.wrap (sB.i+sB.j)) 1+1≤sB.j∧sB.j≤m∧(((i0:Int)=m-1∧bShr IntKind.u64 (IntKind.u64.wrap (sB.i+sB.j)) 1+1≤m-1∧m-1≤sB.j)∨(¬(i0:Int)=m-1∧sB.j=m)); omega) | exact xJ hJB ⟨sB.i,bShr IntKind.u64 (IntKind.u64.wrap (sB.i+sB.j)) 1⟩ (by show(bShr IntKind.u64 (IntKind.u64.wrap (sB.i+sB.j)) 1-sB.i).toNat<(sB.j-sB.i).toNat; omega) (by show a≤sB.i∧sB.i≤bShr IntKind.u64 (IntKind.u64.wrap (sB.i+sB.j)) 1∧bShr IntKind.u64 (IntKind.u64.wrap (sB.i+sB.j)) 1≤m∧(((i0:Int)=m-1∧sB.i≤m-1∧m-1≤bShr IntKind.u64 (IntKind.u64.wrap (sB.i+sB.j)) 1)∨(¬(i0:Int)=m-1∧bShr IntKind.u64 (IntKind.u64.wrap (sB.i+sB.j)) 1=m)); omega)
   ·skip
    replace h6:=decF h6
    refine xLoop xsCI Tryz.func89 [0,1,0,1,1,1,0,1,0,1] [.b 6,.c [1,1,1,1,0,1,0,1],.c [1,1]] [0,1,2,3,4,14,17] [0] (fun t:JnS=>[(0,.slice (g 0).a n (g 0).c),(1,.int .i64 a),(2,.int .i64 m),(3,.int .i64 b),(4,cmpF),(14,.int .i64 sB.i),(17,.int .i64 t.z)]) (fun _=>[(0,.i 0)]) (fun t=>[.sl (g 0).a (g 0).c encD dnN 14 t.xs 46]) (fun _=>⟨[(0,[])],1⟩) (SkI n L B xs m i0) (fun t=>t.z.toNat) ⟨m,xs⟩ ⟨hl,.inl ⟨rfl,rfl⟩⟩ (fun tB JD hTB hJD => ?_)
    refine xB (decide (tB.z>sB.i)) (fun h9 => ?_) (fun h9 => ?_)
    ·skip
     replace h9:=decT h9
     refine xO (InK IntKind.i64 (tB.z-1)) (by simp only [InK] at *; omega) ?_
     refine xO (InK IntKind.i64 (tB.z-1)) (by simp only [InK] at *; omega) ?_
     refine xO (n≤tB.xs.length∧0≤tB.z-1∧tB.z-1 < ↑n) (by omega) ?_
     refine xO ((tB.z-1).toNat<tB.xs.length) (by omega) ?_
     refine xO (n≤tB.xs.length∧0≤tB.z∧tB.z < ↑n) (by omega) ?_
     refine xO (tB.z.toNat<tB.xs.length) (by omega) ?_
     refine xO (n≤tB.xs.length∧0≤tB.z∧tB.z < ↑n) (by omega) ?_
     refine xO (tB.z.toNat<tB.xs.length) (by omega) ?_
     refine xE (tB.xs.getD (tB.z-1).toNat dnN:DnR) fun _ => ?_
     refine xO (InK IntKind.i64 (tB.z-1)) (by simp only [InK] at *; omega) ?_
     refine xO (n≤(tB.xs.set tB.z.toNat (tB.xs.getD (tB.z-1).toNat dnN)).length∧0≤tB.z-1∧tB.z-1 < ↑n) (by first | (simp; done) | (simp; omega)) ?_
     refine xO ((tB.z-1).toNat<(tB.xs.set tB.z.toNat (tB.xs.getD (tB.z-1).toNat dnN)).length) (by first | (simp; done) | (simp; omega)) ?_
     refine xE (tB.xs.getD tB.z.toNat dnN:DnR) fun _ => ?_
     refine xO (InK IntKind.i64 (tB.z-1)) (by simp only [InK] at *; omega) ?_
     exact xJ hJD ⟨tB.z-1,(tB.xs.set tB.z.toNat (tB.xs.getD (tB.z-1).toNat dnN)).set (tB.z-1).toNat (tB.xs.getD tB.z.toNat dnN)⟩ (by show(tB.z-1).toNat<tB.z.toNat; omega) (shB_next hx (by omega) hTB (by omega) (by omega))
    ·skip
     replace h9:=decF h9
     exact xR (tB.xs) (shB_end (i:=sB.i) hx (by omega) (by omega) hTB (fun h=>by omega) (by omega))
  ·skip
   replace h5:=decF h5
   refine xO (InK IntKind.i64 (a+b)) (by simp only [InK] at *; omega) ?_
   refine xO ((0:Int)≤(1:Int)) (by omega) ?_
   refine xO (InK IntKind.i64 (bShr IntKind.u64 (IntKind.u64.wrap (a+b)) 1)) (by simp only [InK] at *; omega) ?_
   refine xO (InK IntKind.i64 (bShr IntKind.u64 (IntKind.u64.wrap (a+b)) 1+m)) (by simp only [InK] at *; omega) ?_
   refine xB (decide (m>bShr IntKind.u64 (IntKind.u64.wrap (a+b)) 1)) (fun h10 => ?_) (fun h10 => ?_)
   ·skip
    replace h10:=decT h10
    refine xO (InK IntKind.i64 (bShr IntKind.u64 (IntKind.u64.wrap (a+b)) 1+m-b)) (by simp only [InK] at *; omega) ?_
    refine xO (InK IntKind.i64 (bShr IntKind.u64 (IntKind.u64.wrap (a+b)) 1+m-1)) (by simp only [InK] at *; omega) ?_
    first | (refine xLoop xsCI Tryz.func89 [0,0,1,1,1,1,1,1,1] [.b 8,.c [1,1,1,1,1,1,1,1]] [0,1,2,3,4,18,19,20,21,22] [0] (fun s:BsS=>[(0,.slice (g 0).a n (g 0).c),(1,.int .i64 a),(2,.int .i64 m),(3,.int .i64 b),(4,cmpF),(18,.int .i64 (bShr IntKind.u64 (IntKind.u64.wrap (a+b)) 1)),(19,.int .i64 (bShr IntKind.u64 (IntKind.u64.wrap (a+b)) 1+m)),(20,.int .i64 s.i),(21,.int .i64 s.j),(22,.int .i64 (bShr IntKind.u64 (IntKind.u64.wrap (a+b)) 1+m-1))]) (fun _=>[(0,.i 0)]) (fun _=>[.sl (g 0).a (g 0).c encD dnN 14 xs 46]) (fun _=>⟨[(0,[])],1⟩) (SmJ a m b (bShr IntKind.u64 (IntKind.u64.wrap (a+b)) 1) i0) (fun s=>(s.j-s.i).toNat) ⟨bShr IntKind.u64 (IntKind.u64.wrap (a+b)) 1+m-b,bShr IntKind.u64 (IntKind.u64.wrap (a+b)) 1⟩ (SmJ.mk (by omega)) (fun sM JM hM hJM => ?_); have hE4:=hf_eq (x:=sM.i) (y:=sM.j) (by omega)) | (refine xLoop xsCI Tryz.func89 [0,0,1,1,1,1,1,1,1] [.b 8,.c [1,1,1,1,1,1,1,1]] [0,1,2,3,4,18,19,20,21,22] [0] (fun s:BsS=>[(0,.slice (g 0).a n (g 0).c),(1,.int .i64 a),(2,.int .i64 m),(3,.int .i64 b),(4,cmpF),(18,.int .i64 (bShr IntKind.u64 (IntKind.u64.wrap (a+b)) 1)),(19,.int .i64 (bShr IntKind.u64 (IntKind.u64.wrap (a+b)) 1+m)),(20,.int .i64 s.i),(21,.int .i64 s.j),(22,.int .i64 (bShr IntKind.u64 (IntKind.u64.wrap (a+b)) 1+m-1))]) (fun _=>[(0,.i 0)]) (fun _=>[.sl (g 0).a (g 0).c encD dnN 14 xs 46]) (fun _=>⟨[(0,[])],1⟩) (SmJ a m b (bShr IntKind.u64 (IntKind.u64.wrap (a+b)) 1) i0) (fun s=>(s.j-s.i).toNat) ⟨a,m⟩ (SmJ.mk (by omega)) (fun sM JM hM hJM => ?_); have hE4:=hf_eq (x:=sM.i) (y:=sM.j) (by omega))
    refine xB (decide (sM.i<sM.j)) (fun h11 => ?_) (fun h11 => ?_)
    ·skip
     replace h11:=decT h11
     refine xO (InK IntKind.i64 (sM.i+sM.j)) (by simp only [InK] at *; omega) ?_
     refine xO ((0:Int)≤(1:Int)) (by omega) ?_
     refine xO (InK IntKind.i64 (bShr IntKind.u64 (IntKind.u64.wrap (sM.i+sM.j)) 1)) (by simp only [InK] at *; omega) ?_
     refine xO (InK IntKind.i64 (bShr IntKind.u64 (IntKind.u64.wrap (a+b)) 1+m-1-bShr IntKind.u64 (IntKind.u64.wrap (sM.i+sM.j)) 1)) (by simp only [InK] at *; omega) ?_
     refine xO (n≤xs.length∧0≤bShr IntKind.u64 (IntKind.u64.wrap (a+b)) 1+m-1-bShr IntKind.u64 (IntKind.u64.wrap (sM.i+sM.j)) 1∧bShr IntKind.u64 (IntKind.u64.wrap (a+b)) 1+m-1-bShr IntKind.u64 (IntKind.u64.wrap (sM.i+sM.j)) 1 < ↑n) (by omega) ?_
     refine xO ((bShr IntKind.u64 (IntKind.u64.wrap (a+b)) 1+m-1-bShr IntKind.u64 (IntKind.u64.wrap (sM.i+sM.j)) 1).toNat<xs.length) (by omega) ?_
     refine xO (n≤xs.length∧0≤bShr IntKind.u64 (IntKind.u64.wrap (sM.i+sM.j)) 1∧bShr IntKind.u64 (IntKind.u64.wrap (sM.i+sM.j)) 1 < ↑n) (by omega) ?_
     refine xO ((bShr IntKind.u64 (IntKind.u64.wrap (sM.i+sM.j)) 1).toNat<xs.length) (by omega) ?_
     have hL4:=lessZ hs (by omega) hx (p:=bShr IntKind.u64 (IntKind.u64.wrap (a+b)) 1+m-1-bShr IntKind.u64 (IntKind.u64.wrap (sM.i+sM.j)) 1) (q:=bShr IntKind.u64 (IntKind.u64.wrap (sM.i+sM.j)) 1) (by omega) (by omega) (by omega)
     refine xCy [] [] (Tg.n) ⟨[(0,[])],50⟩ Tryz.call49 (fun F' h=>(t_cmp (xs.getD (bShr IntKind.u64 (IntKind.u64.wrap (a+b)) 1+m-1-bShr IntKind.u64 (IntKind.u64.wrap (sM.i+sM.j)) 1).toNat dnN) (xs.getD (bShr IntKind.u64 (IntKind.u64.wrap (sM.i+sM.j)) 1).toNat dnN)).fr) fun xn12 n12 hxn12 => ?_
     subst hxn12
     refine xT (!decide (cmpI (xs.getD (bShr IntKind.u64 (IntKind.u64.wrap (a+b)) 1+m-1-bShr IntKind.u64 (IntKind.u64.wrap (sM.i+sM.j)) 1).toNat dnN).cm (xs.getD (bShr IntKind.u64 (IntKind.u64.wrap (sM.i+sM.j)) 1).toNat dnN).cm<0)) (nd_true (by omega)) ?_
     refine xO (InK IntKind.i64 (bShr IntKind.u64 (IntKind.u64.wrap (sM.i+sM.j)) 1+1)) (by simp only [InK] at *; omega) ?_
     first | exact xJ hJM ⟨bShr IntKind.u64 (IntKind.u64.wrap (sM.i+sM.j)) 1+1,sM.j⟩ (by show(sM.j-(bShr IntKind.u64 (IntKind.u64.wrap (sM.i+sM.j)) 1+1)).toNat<(sM.j-sM.i).toNat; omega) (SmJ.mk (by omega)) | exact xJ hJM ⟨sM.i,bShr IntKind.u64 (IntKind.u64.wrap (sM.i+sM.j)) 1⟩ (by show(bShr IntKind.u64 (IntKind.u64.wrap (sM.i+sM.j)) 1-sM.i).toNat<(sM.j-sM.i).toNat; omega) (SmJ.mk (by omega))
    ·skip
     replace h11:=decF h11
     refine xO (InK IntKind.i64 (bShr IntKind.u64 (IntKind.u64.wrap (a+b)) 1+m-sM.i)) (by simp only [InK] at *; omega) ?_
     refine xT (decide (sM.i<m)) (decide_eq_true (by omega)) ?_
     refine xF (decide (m<bShr IntKind.u64 (IntKind.u64.wrap (a+b)) 1+m-sM.i)) (decide_eq_false (by omega)) ?_
     refine xT (decide (a<sM.i)) (decide_eq_true (by omega)) ?_
     refine xF (decide (sM.i<bShr IntKind.u64 (IntKind.u64.wrap (a+b)) 1)) (decide_eq_false (by omega)) ?_
     refine xT (decide (bShr IntKind.u64 (IntKind.u64.wrap (a+b)) 1<bShr IntKind.u64 (IntKind.u64.wrap (a+b)) 1+m-sM.i)) (decide_eq_true (by omega)) ?_
     refine xT (decide (bShr IntKind.u64 (IntKind.u64.wrap (a+b)) 1+m-sM.i<b)) (decide_eq_true (by omega)) ?_
     refine xCy [⟨0,(g 0).a,(g 0).c⟩] [0] ((Tg.l [])) ⟨[(0,[])],65⟩ Tryz.call89 (fun F' h=>(t_symI (n) _ _ _ ih (bShr IntKind.u64 (IntKind.u64.wrap (a+b)) 1) (bShr IntKind.u64 (IntKind.u64.wrap (a+b)) 1+m-sM.i) (b) _ (xs) hx (by omega) (by omega) (by omega)).fr) fun xn15 n15 hxn15 => ?_
     subst hxn15
     exact xR (tab n (fB L B (iS (bShr IntKind.u64 (IntKind.u64.wrap (a+b)) 1+m-sM.i) b i0))) (sm_eq (by simp only [iS]; (repeat' split) <;> omega))
   ·skip
    replace h10:=decF h10
    refine xO (InK IntKind.i64 (bShr IntKind.u64 (IntKind.u64.wrap (a+b)) 1+m-1)) (by simp only [InK] at *; omega) ?_
    first | (refine xLoop xsCI Tryz.func89 [0,0,1,1,1,1,1,1,1] [.b 8,.c [1,1,1,1,1,1,1,1]] [0,1,2,3,4,18,19,20,21,22] [0] (fun s:BsS=>[(0,.slice (g 0).a n (g 0).c),(1,.int .i64 a),(2,.int .i64 m),(3,.int .i64 b),(4,cmpF),(18,.int .i64 (bShr IntKind.u64 (IntKind.u64.wrap (a+b)) 1)),(19,.int .i64 (bShr IntKind.u64 (IntKind.u64.wrap (a+b)) 1+m)),(20,.int .i64 s.i),(21,.int .i64 s.j),(22,.int .i64 (bShr IntKind.u64 (IntKind.u64.wrap (a+b)) 1+m-1))]) (fun _=>[(0,.i 0)]) (fun _=>[.sl (g 0).a (g 0).c encD dnN 14 xs 46]) (fun _=>⟨[(0,[])],1⟩) (SmJ a m b (bShr IntKind.u64 (IntKind.u64.wrap (a+b)) 1) i0) (fun s=>(s.j-s.i).toNat) ⟨bShr IntKind.u64 (IntKind.u64.wrap (a+b)) 1+m-b,bShr IntKind.u64 (IntKind.u64.wrap (a+b)) 1⟩ (SmJ.mk (by omega)) (fun sM JM hM hJM => ?_); have hE4:=hf_eq (x:=sM.i) (y:=sM.j) (by omega)) | (refine xLoop xsCI Tryz.func89 [0,0,1,1,1,1,1,1,1] [.b 8,.c [1,1,1,1,1,1,1,1]] [0,1,2,3,4,18,19,20,21,22] [0] (fun s:BsS=>[(0,.slice (g 0).a n (g 0).c),(1,.int .i64 a),(2,.int .i64 m),(3,.int .i64 b),(4,cmpF),(18,.int .i64 (bShr IntKind.u64 (IntKind.u64.wrap (a+b)) 1)),(19,.int .i64 (bShr IntKind.u64 (IntKind.u64.wrap (a+b)) 1+m)),(20,.int .i64 s.i),(21,.int .i64 s.j),(22,.int .i64 (bShr IntKind.u64 (IntKind.u64.wrap (a+b)) 1+m-1))]) (fun _=>[(0,.i 0)]) (fun _=>[.sl (g 0).a (g 0).c encD dnN 14 xs 46]) (fun _=>⟨[(0,[])],1⟩) (SmJ a m b (bShr IntKind.u64 (IntKind.u64.wrap (a+b)) 1) i0) (fun s=>(s.j-s.i).toNat) ⟨a,m⟩ (SmJ.mk (by omega)) (fun sM JM hM hJM => ?_); have hE4:=hf_eq (x:=sM.i) (y:=sM.j) (by omega))
    refine xB (decide (sM.i<sM.j)) (fun h16 => ?_) (fun h16 => ?_)
    ·skip
     replace h16:=decT h16
     refine xO (InK IntKind.i64 (sM.i+sM.j)) (by simp only [InK] at *; omega) ?_
     refine xO ((0:Int)≤(1:Int)) (by omega) ?_
     refine xO (InK IntKind.i64 (bShr IntKind.u64 (IntKind.u64.wrap (sM.i+sM.j)) 1)) (by simp only [InK] at *; omega) ?_
     refine xO (InK IntKind.i64 (bShr IntKind.u64 (IntKind.u64.wrap (a+b)) 1+m-1-bShr IntKind.u64 (IntKind.u64.wrap (sM.i+sM.j)) 1)) (by simp only [InK] at *; omega) ?_
     refine xO (n≤xs.length∧0≤bShr IntKind.u64 (IntKind.u64.wrap (a+b)) 1+m-1-bShr IntKind.u64 (IntKind.u64.wrap (sM.i+sM.j)) 1∧bShr IntKind.u64 (IntKind.u64.wrap (a+b)) 1+m-1-bShr IntKind.u64 (IntKind.u64.wrap (sM.i+sM.j)) 1 < ↑n) (by omega) ?_
     refine xO ((bShr IntKind.u64 (IntKind.u64.wrap (a+b)) 1+m-1-bShr IntKind.u64 (IntKind.u64.wrap (sM.i+sM.j)) 1).toNat<xs.length) (by omega) ?_
     refine xO (n≤xs.length∧0≤bShr IntKind.u64 (IntKind.u64.wrap (sM.i+sM.j)) 1∧bShr IntKind.u64 (IntKind.u64.wrap (sM.i+sM.j)) 1 < ↑n) (by omega) ?_
     refine xO ((bShr IntKind.u64 (IntKind.u64.wrap (sM.i+sM.j)) 1).toNat<xs.length) (by omega) ?_
     have hL4:=lessZ hs (by omega) hx (p:=bShr IntKind.u64 (IntKind.u64.wrap (a+b)) 1+m-1-bShr IntKind.u64 (IntKind.u64.wrap (sM.i+sM.j)) 1) (q:=bShr IntKind.u64 (IntKind.u64.wrap (sM.i+sM.j)) 1) (by omega) (by omega) (by omega)
     refine xCy [] [] (Tg.n) ⟨[(0,[])],50⟩ Tryz.call49 (fun F' h=>(t_cmp (xs.getD (bShr IntKind.u64 (IntKind.u64.wrap (a+b)) 1+m-1-bShr IntKind.u64 (IntKind.u64.wrap (sM.i+sM.j)) 1).toNat dnN) (xs.getD (bShr IntKind.u64 (IntKind.u64.wrap (sM.i+sM.j)) 1).toNat dnN)).fr) fun xn17 n17 hxn17 => ?_
     subst hxn17
     refine xB (!decide (cmpI (xs.getD (bShr IntKind.u64 (IntKind.u64.wrap (a+b)) 1+m-1-bShr IntKind.u64 (IntKind.u64.wrap (sM.i+sM.j)) 1).toNat dnN).cm (xs.getD (bShr IntKind.u64 (IntKind.u64.wrap (sM.i+sM.j)) 1).toNat dnN).cm<0)) (fun h18 => ?_) (fun h18 => ?_)
     ·skip
      replace h18:=ntT h18
      replace h18:=decF h18
      refine xO (InK IntKind.i64 (bShr IntKind.u64 (IntKind.u64.wrap (sM.i+sM.j)) 1+1)) (by simp only [InK] at *; omega) ?_
      first | exact xJ hJM ⟨bShr IntKind.u64 (IntKind.u64.wrap (sM.i+sM.j)) 1+1,sM.j⟩ (by show(sM.j-(bShr IntKind.u64 (IntKind.u64.wrap (sM.i+sM.j)) 1+1)).toNat<(sM.j-sM.i).toNat; omega) (SmJ.mk (by omega)) | exact xJ hJM ⟨sM.i,bShr IntKind.u64 (IntKind.u64.wrap (sM.i+sM.j)) 1⟩ (by show(bShr IntKind.u64 (IntKind.u64.wrap (sM.i+sM.j)) 1-sM.i).toNat<(sM.j-sM.i).toNat; omega) (SmJ.mk (by omega))
     ·skip
      replace h18:=ntF h18
      replace h18:=decT h18
      first | exact xJ hJM ⟨bShr IntKind.u64 (IntKind.u64.wrap (sM.i+sM.j)) 1+1,sM.j⟩ (by show(sM.j-(bShr IntKind.u64 (IntKind.u64.wrap (sM.i+sM.j)) 1+1)).toNat<(sM.j-sM.i).toNat; omega) (SmJ.mk (by omega)) | exact xJ hJM ⟨sM.i,bShr IntKind.u64 (IntKind.u64.wrap (sM.i+sM.j)) 1⟩ (by show(bShr IntKind.u64 (IntKind.u64.wrap (sM.i+sM.j)) 1-sM.i).toNat<(sM.j-sM.i).toNat; omega) (SmJ.mk (by omega))
    ·skip
     replace h16:=decF h16
     refine xO (InK IntKind.i64 (bShr IntKind.u64 (IntKind.u64.wrap (a+b)) 1+m-sM.i)) (by simp only [InK] at *; omega) ?_
     refine xT (decide (sM.i<m)) (decide_eq_true (by omega)) ?_
     refine xT (decide (m<bShr IntKind.u64 (IntKind.u64.wrap (a+b)) 1+m-sM.i)) (decide_eq_true (by omega)) ?_
     refine xCy [⟨0,(g 0).a,(g 0).c⟩] [0] ((Tg.l [])) ⟨[(0,[])],55⟩ Tryz.call112 (fun F' h=>(t_rotH (n) _ _ hs (sM.i) (m) (bShr IntKind.u64 (IntKind.u64.wrap (a+b)) 1+m-sM.i) (xs) (hx.trans (sm_eq (by omega))) (by omega) (by omega) (by omega) (by omega) (by omega) (by omega)).fr) fun xn20 n20 hxn20 => ?_
     subst hxn20
     refine xT (decide (a<sM.i)) (decide_eq_true (by omega)) ?_
     refine xT (decide (sM.i<bShr IntKind.u64 (IntKind.u64.wrap (a+b)) 1)) (decide_eq_true (by omega)) ?_
     refine xCy [⟨0,(g 0).a,(g 0).c⟩] [0] ((Tg.l [])) ⟨[(0,[])],105⟩ Tryz.call89 (fun F' h=>(t_symI (n) _ _ _ ih (a) (sM.i) (bShr IntKind.u64 (IntKind.u64.wrap (a+b)) 1) _ (tab n (fB L B (bShr IntKind.u64 (IntKind.u64.wrap (a+b)) 1+m-sM.i-1).toNat)) rfl (tab_len _ _) (by omega) (by omega)).fr) fun xn23 n23 hxn23 => ?_
     subst hxn23
     refine xT (decide (bShr IntKind.u64 (IntKind.u64.wrap (a+b)) 1<bShr IntKind.u64 (IntKind.u64.wrap (a+b)) 1+m-sM.i)) (decide_eq_true (by omega)) ?_
     refine xT (decide (bShr IntKind.u64 (IntKind.u64.wrap (a+b)) 1+m-sM.i<b)) (decide_eq_true (by omega)) ?_
     refine xCy [⟨0,(g 0).a,(g 0).c⟩] [0] ((Tg.l [])) ⟨[(0,[])],152⟩ Tryz.call89 (fun F' h=>(t_symI (n) _ _ _ ih (bShr IntKind.u64 (IntKind.u64.wrap (a+b)) 1) (bShr IntKind.u64 (IntKind.u64.wrap (a+b)) 1+m-sM.i) (b) _ (tab n (fB L B (iS sM.i (bShr IntKind.u64 (IntKind.u64.wrap (a+b)) 1) (bShr IntKind.u64 (IntKind.u64.wrap (a+b)) 1+m-sM.i-1).toNat))) rfl (tab_len _ _) (by omega) (by unfold iS; split <;> omega)).fr) fun xn26 n26 hxn26 => ?_
     subst hxn26
     exact xR (tab n (fB L B (iS (bShr IntKind.u64 (IntKind.u64.wrap (a+b)) 1+m-sM.i) b (iS sM.i (bShr IntKind.u64 (IntKind.u64.wrap (a+b)) 1) (bShr IntKind.u64 (IntKind.u64.wrap (a+b)) 1+m-sM.i-1).toNat)))) (sm_eq (by simp only [iS]; (repeat' split) <;> omega))
theorem t_symB(n:Nat)(L:Nat→DnR)(B:DnR)(hs:Srt n L B)(hn:n≤1000)(k:Nat)(ih:SymH n L B k)(a m b:Int)(i0:Nat)(xs:List DnR)(hk:(b-a).toNat≤k+1)(ho:SmOk n a m b i0)(hl:xs.length=n)(hx:xs=tab n (fB L B i0))(hi:¬(i0:Int)=m-1): Ct Tryz.prog 89 (smS n L B a m b i0 xs):=by
 refine cX 220 xsCI Tryz.func89 fun g F => ?_
 have hE:=hf_eq (x:=a) (y:=b) (by omega)
 refine xO (InK IntKind.i64 (m-a)) (by simp only [InK] at *; omega) ?_
 refine xB (m-a==1) (fun h1 => ?_) (fun h1 => ?_)
 ·skip
  replace h1:=decT h1
  (refine xLoop xsCI Tryz.func89 [0,0,1,1,0,1,0] [.b 0,.c [1,1,1,0,1,0],.c [1]] [0,1,2,3,4,10,11] [0] (fun s:BsS=>[(0,.slice (g 0).a n (g 0).c),(1,.int .i64 a),(2,.int .i64 m),(3,.int .i64 b),(4,cmpF),(10,.int .i64 s.i),(11,.int .i64 s.j)]) (fun _=>[(0,.i 0)]) (fun _=>[.sl (g 0).a (g 0).c encD dnN 14 xs 46]) (fun _=>⟨[(0,[])],1⟩) (SaI a m b i0) (fun s=>(s.j-s.i).toNat) ⟨m,b⟩ (by show m≤m∧m≤b∧b≤b∧(((i0:Int)=a∧b=b)∨(¬(i0:Int)=a∧m=m)); omega) (fun sA JA hA hJA => ?_); have hE2:=hf_eq (x:=sA.i) (y:=sA.j) (by omega))
  refine xB (decide (sA.i<sA.j)) (fun h2 => ?_) (fun h2 => ?_)
  ·skip
   replace h2:=decT h2
   refine xO (InK IntKind.i64 (sA.i+sA.j)) (by simp only [InK] at *; omega) ?_
   refine xO ((0:Int)≤(1:Int)) (by omega) ?_
   refine xO (InK IntKind.i64 (bShr IntKind.u64 (IntKind.u64.wrap (sA.i+sA.j)) 1)) (by simp only [InK] at *; omega) ?_
   refine xO (n≤xs.length∧0≤bShr IntKind.u64 (IntKind.u64.wrap (sA.i+sA.j)) 1∧bShr IntKind.u64 (IntKind.u64.wrap (sA.i+sA.j)) 1 < ↑n) (by omega) ?_
   refine xO ((bShr IntKind.u64 (IntKind.u64.wrap (sA.i+sA.j)) 1).toNat<xs.length) (by omega) ?_
   refine xO (n≤xs.length∧0≤a∧a < ↑n) (by omega) ?_
   refine xO (a.toNat<xs.length) (by omega) ?_
   have hL2:=lessZ hs (by omega) hx (p:=bShr IntKind.u64 (IntKind.u64.wrap (sA.i+sA.j)) 1) (q:=a) (by omega) (by omega) (by omega)
   refine xCy [] [] (Tg.n) ⟨[(0,[])],50⟩ Tryz.call49 (fun F' h=>(t_cmp (xs.getD (bShr IntKind.u64 (IntKind.u64.wrap (sA.i+sA.j)) 1).toNat dnN) (xs.getD a.toNat dnN)).fr) fun xn3 n3 hxn3 => ?_
   subst hxn3
   refine xF (decide (cmpI (xs.getD (bShr IntKind.u64 (IntKind.u64.wrap (sA.i+sA.j)) 1).toNat dnN).cm (xs.getD a.toNat dnN).cm<0)) (decide_eq_false (by omega)) ?_
   first | exact xJ hJA ⟨bShr IntKind.u64 (IntKind.u64.wrap (sA.i+sA.j)) 1+1,sA.j⟩ (by show(sA.j-(bShr IntKind.u64 (IntKind.u64.wrap (sA.i+sA.j)) 1+1)).toNat<(sA.j-sA.i).toNat; omega) (by show m≤bShr IntKind.u64 (IntKind.u64.wrap (sA.i+sA.j)) 1+1∧bShr IntKind.u64 (IntKind.u64.wrap (sA.i+sA.j)) 1+1≤sA.j∧sA.j≤b∧(((i0:Int)=a∧sA.j=b)∨(¬(i0:Int)=a∧bShr IntKind.u64 (IntKind.u64.wrap (sA.i+sA.j)) 1+1=m)); omega) | exact xJ hJA ⟨sA.i,bShr IntKind.u64 (IntKind.u64.wrap (sA.i+sA.j)) 1⟩ (by show(bShr IntKind.u64 (IntKind.u64.wrap (sA.i+sA.j)) 1-sA.i).toNat<(sA.j-sA.i).toNat; omega) (by show m≤sA.i∧sA.i≤bShr IntKind.u64 (IntKind.u64.wrap (sA.i+sA.j)) 1∧bShr IntKind.u64 (IntKind.u64.wrap (sA.i+sA.j)) 1≤b∧(((i0:Int)=a∧bShr IntKind.u64 (IntKind.u64.wrap (sA.i+sA.j)) 1=b)∨(¬(i0:Int)=a∧sA.i=m)); omega)
  ·skip
   replace h2:=decF h2
   refine xLoop xsCI Tryz.func89 [0,1,0,1,1,1,0,1,0] [.b 2,.c [1,1,1,1,0,1,0],.c [1]] [0,1,2,3,4,10,13] [0] (fun t:JnS=>[(0,.slice (g 0).a n (g 0).c),(1,.int .i64 a),(2,.int .i64 m),(3,.int .i64 b),(4,cmpF),(10,.int .i64 sA.i),(13,.int .i64 t.z)]) (fun _=>[(0,.i 0)]) (fun t=>[.sl (g 0).a (g 0).c encD dnN 14 t.xs 46]) (fun _=>⟨[(0,[])],1⟩) (ShI n L B xs a b i0) (fun t=>(b-t.z).toNat) ⟨a,xs⟩ ⟨hl,by first | exact .inl ⟨by omega,by show a≤a; omega,by show a≤b-1; omega,hx.trans (sm_eq (by show i0=a.toNat; omega))⟩ | exact .inr ⟨by omega,rfl,rfl⟩⟩ (fun tA JC hTA hJC => ?_)
   refine xO (InK IntKind.i64 (sA.i-1)) (by simp only [InK] at *; omega) ?_
   refine xF (decide (tA.z<sA.i-1)) (decide_eq_false (by omega)) ?_
   exact xR (tA.xs) (shA_end hx (by omega) hTA (fun h=>by omega))
 ·skip
  replace h1:=decF h1
  refine xO (InK IntKind.i64 (b-m)) (by simp only [InK] at *; omega) ?_
  refine xB (b-m==1) (fun h4 => ?_) (fun h4 => ?_)
  ·skip
   replace h4:=decT h4
   (refine xLoop xsCI Tryz.func89 [0,0,1,1,0,1,0,1] [.b 4,.c [1,1,1,0,1,0,1],.c [1,1]] [0,1,2,3,4,14,15] [0] (fun s:BsS=>[(0,.slice (g 0).a n (g 0).c),(1,.int .i64 a),(2,.int .i64 m),(3,.int .i64 b),(4,cmpF),(14,.int .i64 s.i),(15,.int .i64 s.j)]) (fun _=>[(0,.i 0)]) (fun _=>[.sl (g 0).a (g 0).c encD dnN 14 xs 46]) (fun _=>⟨[(0,[])],1⟩) (SbI a m i0) (fun s=>(s.j-s.i).toNat) ⟨a,m⟩ (by show a≤a∧a≤m∧m≤m∧(((i0:Int)=m-1∧a≤m-1∧m-1≤m)∨(¬(i0:Int)=m-1∧m=m)); omega) (fun sB JB hB hJB => ?_); have hE3:=hf_eq (x:=sB.i) (y:=sB.j) (by omega))
   refine xB (decide (sB.i<sB.j)) (fun h5 => ?_) (fun h5 => ?_)
   ·skip
    replace h5:=decT h5
    refine xO (InK IntKind.i64 (sB.i+sB.j)) (by simp only [InK] at *; omega) ?_
    refine xO ((0:Int)≤(1:Int)) (by omega) ?_
    refine xO (InK IntKind.i64 (bShr IntKind.u64 (IntKind.u64.wrap (sB.i+sB.j)) 1)) (by simp only [InK] at *; omega) ?_
    refine xO (n≤xs.length∧0≤m∧m < ↑n) (by omega) ?_
    refine xO (m.toNat<xs.length) (by omega) ?_
    refine xO (n≤xs.length∧0≤bShr IntKind.u64 (IntKind.u64.wrap (sB.i+sB.j)) 1∧bShr IntKind.u64 (IntKind.u64.wrap (sB.i+sB.j)) 1 < ↑n) (by omega) ?_
    refine xO ((bShr IntKind.u64 (IntKind.u64.wrap (sB.i+sB.j)) 1).toNat<xs.length) (by omega) ?_
    have hL3:=lessZ hs (by omega) hx (p:=m) (q:=bShr IntKind.u64 (IntKind.u64.wrap (sB.i+sB.j)) 1) (by omega) (by omega) (by omega)
    refine xCy [] [] (Tg.n) ⟨[(0,[])],50⟩ Tryz.call49 (fun F' h=>(t_cmp (xs.getD m.toNat dnN) (xs.getD (bShr IntKind.u64 (IntKind.u64.wrap (sB.i+sB.j)) 1).toNat dnN)).fr) fun xn6 n6 hxn6 => ?_
    subst hxn6
    refine xT (!decide (cmpI (xs.getD m.toNat dnN).cm (xs.getD (bShr IntKind.u64 (IntKind.u64.wrap (sB.i+sB.j)) 1).toNat dnN).cm<0)) (nd_true (by omega)) ?_
    refine xO (InK IntKind.i64 (bShr IntKind.u64 (IntKind.u64.wrap (sB.i+sB.j)) 1+1)) (by simp only [InK] at *; omega) ?_
    first | exact xJ hJB ⟨bShr IntKind.u64 (IntKind.u64.wrap (sB.i+sB.j)) 1+1,sB.j⟩ (by show(sB.j-(bShr IntKind.u64 (IntKind.u64.wrap (sB.i+sB.j)) 1+1)).toNat<(sB.j-sB.i).toNat; omega) (by show a≤bShr IntKind.u64 (IntKind.u64.wrap (sB.i+sB.j)) 1+1∧bShr IntKind.u64 (IntKind.u64.wrap (sB.i+sB.j)) 1+1≤sB.j∧sB.j≤m∧(((i0:Int)=m-1∧bShr IntKind.u64 (IntKind.u64.wrap (sB.i+sB.j)) 1+1≤m-1∧m-1≤sB.j)∨(¬(i0:Int)=m-1∧sB.j=m)); omega) | exact xJ hJB ⟨sB.i,bShr IntKind.u64 (IntKind.u64.wrap (sB.i+sB.j)) 1⟩ (by show(bShr IntKind.u64 (IntKind.u64.wrap (sB.i+sB.j)) 1-sB.i).toNat<(sB.j-sB.i).toNat; omega) (by show a≤sB.i∧sB.i≤bShr IntKind.u64 (IntKind.u64.wrap (sB.i+sB.j)) 1∧bShr IntKind.u64 (IntKind.u64.wrap (sB.i+sB.j)) 1≤m∧(((i0:Int)=m-1∧sB.i≤m-1∧m-1≤bShr IntKind.u64 (IntKind.u64.wrap (sB.i+sB.j)) 1)∨(¬(i0:Int)=m-1∧bShr IntKind.u64 (IntKind.u64.wrap (sB.i+sB.j)) 1=m)); omega)
   ·skip
    replace h5:=decF h5
    refine xLoop xsCI Tryz.func89 [0,1,0,1,1,1,0,1,0,1] [.b 6,.c [1,1,1,1,0,1,0,1],.c [1,1]] [0,1,2,3,4,14,17] [0] (fun t:JnS=>[(0,.slice (g 0).a n (g 0).c),(1,.int .i64 a),(2,.int .i64 m),(3,.int .i64 b),(4,cmpF),(14,.int .i64 sB.i),(17,.int .i64 t.z)]) (fun _=>[(0,.i 0)]) (fun t=>[.sl (g 0).a (g 0).c encD dnN 14 t.xs 46]) (fun _=>⟨[(0,[])],1⟩) (SkI n L B xs m i0) (fun t=>t.z.toNat) ⟨m,xs⟩ ⟨hl,.inl ⟨rfl,rfl⟩⟩ (fun tB JD hTB hJD => ?_)
    refine xF (decide (tB.z>sB.i)) (decide_eq_false (by omega)) ?_
    exact xR (tB.xs) (shB_end (i:=sB.i) hx (by omega) (by omega) hTB (fun h=>by omega) (by omega))
  ·skip
   replace h4:=decF h4
   refine xO (InK IntKind.i64 (a+b)) (by simp only [InK] at *; omega) ?_
   refine xO ((0:Int)≤(1:Int)) (by omega) ?_
   refine xO (InK IntKind.i64 (bShr IntKind.u64 (IntKind.u64.wrap (a+b)) 1)) (by simp only [InK] at *; omega) ?_
   refine xO (InK IntKind.i64 (bShr IntKind.u64 (IntKind.u64.wrap (a+b)) 1+m)) (by simp only [InK] at *; omega) ?_
   refine xB (decide (m>bShr IntKind.u64 (IntKind.u64.wrap (a+b)) 1)) (fun h7 => ?_) (fun h7 => ?_)
   ·skip
    replace h7:=decT h7
    refine xO (InK IntKind.i64 (bShr IntKind.u64 (IntKind.u64.wrap (a+b)) 1+m-b)) (by simp only [InK] at *; omega) ?_
    refine xO (InK IntKind.i64 (bShr IntKind.u64 (IntKind.u64.wrap (a+b)) 1+m-1)) (by simp only [InK] at *; omega) ?_
    first | (refine xLoop xsCI Tryz.func89 [0,0,1,1,1,1,1,1,1] [.b 8,.c [1,1,1,1,1,1,1,1]] [0,1,2,3,4,18,19,20,21,22] [0] (fun s:BsS=>[(0,.slice (g 0).a n (g 0).c),(1,.int .i64 a),(2,.int .i64 m),(3,.int .i64 b),(4,cmpF),(18,.int .i64 (bShr IntKind.u64 (IntKind.u64.wrap (a+b)) 1)),(19,.int .i64 (bShr IntKind.u64 (IntKind.u64.wrap (a+b)) 1+m)),(20,.int .i64 s.i),(21,.int .i64 s.j),(22,.int .i64 (bShr IntKind.u64 (IntKind.u64.wrap (a+b)) 1+m-1))]) (fun _=>[(0,.i 0)]) (fun _=>[.sl (g 0).a (g 0).c encD dnN 14 xs 46]) (fun _=>⟨[(0,[])],1⟩) (SmJ a m b (bShr IntKind.u64 (IntKind.u64.wrap (a+b)) 1) i0) (fun s=>(s.j-s.i).toNat) ⟨bShr IntKind.u64 (IntKind.u64.wrap (a+b)) 1+m-b,bShr IntKind.u64 (IntKind.u64.wrap (a+b)) 1⟩ (SmJ.mk (by omega)) (fun sM JM hM hJM => ?_); have hE4:=hf_eq (x:=sM.i) (y:=sM.j) (by omega)) | (refine xLoop xsCI Tryz.func89 [0,0,1,1,1,1,1,1,1] [.b 8,.c [1,1,1,1,1,1,1,1]] [0,1,2,3,4,18,19,20,21,22] [0] (fun s:BsS=>[(0,.slice (g 0).a n (g 0).c),(1,.int .i64 a),(2,.int .i64 m),(3,.int .i64 b),(4,cmpF),(18,.int .i64 (bShr IntKind.u64 (IntKind.u64.wrap (a+b)) 1)),(19,.int .i64 (bShr IntKind.u64 (IntKind.u64.wrap (a+b)) 1+m)),(20,.int .i64 s.i),(21,.int .i64 s.j),(22,.int .i64 (bShr IntKind.u64 (IntKind.u64.wrap (a+b)) 1+m-1))]) (fun _=>[(0,.i 0)]) (fun _=>[.sl (g 0).a (g 0).c encD dnN 14 xs 46]) (fun _=>⟨[(0,[])],1⟩) (SmJ a m b (bShr IntKind.u64 (IntKind.u64.wrap (a+b)) 1) i0) (fun s=>(s.j-s.i).toNat) ⟨a,m⟩ (SmJ.mk (by omega)) (fun sM JM hM hJM => ?_); have hE4:=hf_eq (x:=sM.i) (y:=sM.j) (by omega))
    refine xB (decide (sM.i<sM.j)) (fun h8 => ?_) (fun h8 => ?_)
    ·skip
     replace h8:=decT h8
     refine xO (InK IntKind.i64 (sM.i+sM.j)) (by simp only [InK] at *; omega) ?_
     refine xO ((0:Int)≤(1:Int)) (by omega) ?_
     refine xO (InK IntKind.i64 (bShr IntKind.u64 (IntKind.u64.wrap (sM.i+sM.j)) 1)) (by simp only [InK] at *; omega) ?_
     refine xO (InK IntKind.i64 (bShr IntKind.u64 (IntKind.u64.wrap (a+b)) 1+m-1-bShr IntKind.u64 (IntKind.u64.wrap (sM.i+sM.j)) 1)) (by simp only [InK] at *; omega) ?_
     refine xO (n≤xs.length∧0≤bShr IntKind.u64 (IntKind.u64.wrap (a+b)) 1+m-1-bShr IntKind.u64 (IntKind.u64.wrap (sM.i+sM.j)) 1∧bShr IntKind.u64 (IntKind.u64.wrap (a+b)) 1+m-1-bShr IntKind.u64 (IntKind.u64.wrap (sM.i+sM.j)) 1 < ↑n) (by omega) ?_
     refine xO ((bShr IntKind.u64 (IntKind.u64.wrap (a+b)) 1+m-1-bShr IntKind.u64 (IntKind.u64.wrap (sM.i+sM.j)) 1).toNat<xs.length) (by omega) ?_
     refine xO (n≤xs.length∧0≤bShr IntKind.u64 (IntKind.u64.wrap (sM.i+sM.j)) 1∧bShr IntKind.u64 (IntKind.u64.wrap (sM.i+sM.j)) 1 < ↑n) (by omega) ?_
     refine xO ((bShr IntKind.u64 (IntKind.u64.wrap (sM.i+sM.j)) 1).toNat<xs.length) (by omega) ?_
     have hL4:=lessZ hs (by omega) hx (p:=bShr IntKind.u64 (IntKind.u64.wrap (a+b)) 1+m-1-bShr IntKind.u64 (IntKind.u64.wrap (sM.i+sM.j)) 1) (q:=bShr IntKind.u64 (IntKind.u64.wrap (sM.i+sM.j)) 1) (by omega) (by omega) (by omega)
     refine xCy [] [] (Tg.n) ⟨[(0,[])],50⟩ Tryz.call49 (fun F' h=>(t_cmp (xs.getD (bShr IntKind.u64 (IntKind.u64.wrap (a+b)) 1+m-1-bShr IntKind.u64 (IntKind.u64.wrap (sM.i+sM.j)) 1).toNat dnN) (xs.getD (bShr IntKind.u64 (IntKind.u64.wrap (sM.i+sM.j)) 1).toNat dnN)).fr) fun xn9 n9 hxn9 => ?_
     subst hxn9
     refine xT (!decide (cmpI (xs.getD (bShr IntKind.u64 (IntKind.u64.wrap (a+b)) 1+m-1-bShr IntKind.u64 (IntKind.u64.wrap (sM.i+sM.j)) 1).toNat dnN).cm (xs.getD (bShr IntKind.u64 (IntKind.u64.wrap (sM.i+sM.j)) 1).toNat dnN).cm<0)) (nd_true (by omega)) ?_
     refine xO (InK IntKind.i64 (bShr IntKind.u64 (IntKind.u64.wrap (sM.i+sM.j)) 1+1)) (by simp only [InK] at *; omega) ?_
     first | exact xJ hJM ⟨bShr IntKind.u64 (IntKind.u64.wrap (sM.i+sM.j)) 1+1,sM.j⟩ (by show(sM.j-(bShr IntKind.u64 (IntKind.u64.wrap (sM.i+sM.j)) 1+1)).toNat<(sM.j-sM.i).toNat; omega) (SmJ.mk (by omega)) | exact xJ hJM ⟨sM.i,bShr IntKind.u64 (IntKind.u64.wrap (sM.i+sM.j)) 1⟩ (by show(bShr IntKind.u64 (IntKind.u64.wrap (sM.i+sM.j)) 1-sM.i).toNat<(sM.j-sM.i).toNat; omega) (SmJ.mk (by omega))
    ·skip
     replace h8:=decF h8
     refine xO (InK IntKind.i64 (bShr IntKind.u64 (IntKind.u64.wrap (a+b)) 1+m-sM.i)) (by simp only [InK] at *; omega) ?_
     refine xT (decide (sM.i<m)) (decide_eq_true (by omega)) ?_
     refine xF (decide (m<bShr IntKind.u64 (IntKind.u64.wrap (a+b)) 1+m-sM.i)) (decide_eq_false (by omega)) ?_
     refine xT (decide (a<sM.i)) (decide_eq_true (by omega)) ?_
     refine xF (decide (sM.i<bShr IntKind.u64 (IntKind.u64.wrap (a+b)) 1)) (decide_eq_false (by omega)) ?_
     refine xT (decide (bShr IntKind.u64 (IntKind.u64.wrap (a+b)) 1<bShr IntKind.u64 (IntKind.u64.wrap (a+b)) 1+m-sM.i)) (decide_eq_true (by omega)) ?_
     refine xT (decide (bShr IntKind.u64 (IntKind.u64.wrap (a+b)) 1+m-sM.i<b)) (decide_eq_true (by omega)) ?_
     refine xCy [⟨0,(g 0).a,(g 0).c⟩] [0] ((Tg.l [])) ⟨[(0,[])],65⟩ Tryz.call89 (fun F' h=>(t_symI (n) _ _ _ ih (bShr IntKind.u64 (IntKind.u64.wrap (a+b)) 1) (bShr IntKind.u64 (IntKind.u64.wrap (a+b)) 1+m-sM.i) (b) _ (xs) hx (by omega) (by omega) (by omega)).fr) fun xn12 n12 hxn12 => ?_
     subst hxn12
     exact xR (tab n (fB L B (iS (bShr IntKind.u64 (IntKind.u64.wrap (a+b)) 1+m-sM.i) b i0))) (sm_eq (by simp only [iS]; (repeat' split) <;> omega))
   ·skip
    replace h7:=decF h7
    refine xO (InK IntKind.i64 (bShr IntKind.u64 (IntKind.u64.wrap (a+b)) 1+m-1)) (by simp only [InK] at *; omega) ?_
    first | (refine xLoop xsCI Tryz.func89 [0,0,1,1,1,1,1,1,1] [.b 8,.c [1,1,1,1,1,1,1,1]] [0,1,2,3,4,18,19,20,21,22] [0] (fun s:BsS=>[(0,.slice (g 0).a n (g 0).c),(1,.int .i64 a),(2,.int .i64 m),(3,.int .i64 b),(4,cmpF),(18,.int .i64 (bShr IntKind.u64 (IntKind.u64.wrap (a+b)) 1)),(19,.int .i64 (bShr IntKind.u64 (IntKind.u64.wrap (a+b)) 1+m)),(20,.int .i64 s.i),(21,.int .i64 s.j),(22,.int .i64 (bShr IntKind.u64 (IntKind.u64.wrap (a+b)) 1+m-1))]) (fun _=>[(0,.i 0)]) (fun _=>[.sl (g 0).a (g 0).c encD dnN 14 xs 46]) (fun _=>⟨[(0,[])],1⟩) (SmJ a m b (bShr IntKind.u64 (IntKind.u64.wrap (a+b)) 1) i0) (fun s=>(s.j-s.i).toNat) ⟨bShr IntKind.u64 (IntKind.u64.wrap (a+b)) 1+m-b,bShr IntKind.u64 (IntKind.u64.wrap (a+b)) 1⟩ (SmJ.mk (by omega)) (fun sM JM hM hJM => ?_); have hE4:=hf_eq (x:=sM.i) (y:=sM.j) (by omega)) | (refine xLoop xsCI Tryz.func89 [0,0,1,1,1,1,1,1,1] [.b 8,.c [1,1,1,1,1,1,1,1]] [0,1,2,3,4,18,19,20,21,22] [0] (fun s:BsS=>[(0,.slice (g 0).a n (g 0).c),(1,.int .i64 a),(2,.int .i64 m),(3,.int .i64 b),(4,cmpF),(18,.int .i64 (bShr IntKind.u64 (IntKind.u64.wrap (a+b)) 1)),(19,.int .i64 (bShr IntKind.u64 (IntKind.u64.wrap (a+b)) 1+m)),(20,.int .i64 s.i),(21,.int .i64 s.j),(22,.int .i64 (bShr IntKind.u64 (IntKind.u64.wrap (a+b)) 1+m-1))]) (fun _=>[(0,.i 0)]) (fun _=>[.sl (g 0).a (g 0).c encD dnN 14 xs 46]) (fun _=>⟨[(0,[])],1⟩) (SmJ a m b (bShr IntKind.u64 (IntKind.u64.wrap (a+b)) 1) i0) (fun s=>(s.j-s.i).toNat) ⟨a,m⟩ (SmJ.mk (by omega)) (fun sM JM hM hJM => ?_); have hE4:=hf_eq (x:=sM.i) (y:=sM.j) (by omega))
    refine xB (decide (sM.i<sM.j)) (fun h13 => ?_) (fun h13 => ?_)
    ·skip
     replace h13:=decT h13
     refine xO (InK IntKind.i64 (sM.i+sM.j)) (by simp only [InK] at *; omega) ?_
     refine xO ((0:Int)≤(1:Int)) (by omega) ?_
     refine xO (InK IntKind.i64 (bShr IntKind.u64 (IntKind.u64.wrap (sM.i+sM.j)) 1)) (by simp only [InK] at *; omega) ?_
     refine xO (InK IntKind.i64 (bShr IntKind.u64 (IntKind.u64.wrap (a+b)) 1+m-1-bShr IntKind.u64 (IntKind.u64.wrap (sM.i+sM.j)) 1)) (by simp only [InK] at *; omega) ?_
     refine xO (n≤xs.length∧0≤bShr IntKind.u64 (IntKind.u64.wrap (a+b)) 1+m-1-bShr IntKind.u64 (IntKind.u64.wrap (sM.i+sM.j)) 1∧bShr IntKind.u64 (IntKind.u64.wrap (a+b)) 1+m-1-bShr IntKind.u64 (IntKind.u64.wrap (sM.i+sM.j)) 1 < ↑n) (by omega) ?_
     refine xO ((bShr IntKind.u64 (IntKind.u64.wrap (a+b)) 1+m-1-bShr IntKind.u64 (IntKind.u64.wrap (sM.i+sM.j)) 1).toNat<xs.length) (by omega) ?_
     refine xO (n≤xs.length∧0≤bShr IntKind.u64 (IntKind.u64.wrap (sM.i+sM.j)) 1∧bShr IntKind.u64 (IntKind.u64.wrap (sM.i+sM.j)) 1 < ↑n) (by omega) ?_
     refine xO ((bShr IntKind.u64 (IntKind.u64.wrap (sM.i+sM.j)) 1).toNat<xs.length) (by omega) ?_
     have hL4:=lessZ hs (by omega) hx (p:=bShr IntKind.u64 (IntKind.u64.wrap (a+b)) 1+m-1-bShr IntKind.u64 (IntKind.u64.wrap (sM.i+sM.j)) 1) (q:=bShr IntKind.u64 (IntKind.u64.wrap (sM.i+sM.j)) 1) (by omega) (by omega) (by omega)
     refine xCy [] [] (Tg.n) ⟨[(0,[])],50⟩ Tryz.call49 (fun F' h=>(t_cmp (xs.getD (bShr IntKind.u64 (IntKind.u64.wrap (a+b)) 1+m-1-bShr IntKind.u64 (IntKind.u64.wrap (sM.i+sM.j)) 1).toNat dnN) (xs.getD (bShr IntKind.u64 (IntKind.u64.wrap (sM.i+sM.j)) 1).toNat dnN)).fr) fun xn14 n14 hxn14 => ?_
     subst hxn14
     refine xT (!decide (cmpI (xs.getD (bShr IntKind.u64 (IntKind.u64.wrap (a+b)) 1+m-1-bShr IntKind.u64 (IntKind.u64.wrap (sM.i+sM.j)) 1).toNat dnN).cm (xs.getD (bShr IntKind.u64 (IntKind.u64.wrap (sM.i+sM.j)) 1).toNat dnN).cm<0)) (nd_true (by omega)) ?_
     refine xO (InK IntKind.i64 (bShr IntKind.u64 (IntKind.u64.wrap (sM.i+sM.j)) 1+1)) (by simp only [InK] at *; omega) ?_
     first | exact xJ hJM ⟨bShr IntKind.u64 (IntKind.u64.wrap (sM.i+sM.j)) 1+1,sM.j⟩ (by show(sM.j-(bShr IntKind.u64 (IntKind.u64.wrap (sM.i+sM.j)) 1+1)).toNat<(sM.j-sM.i).toNat; omega) (SmJ.mk (by omega)) | exact xJ hJM ⟨sM.i,bShr IntKind.u64 (IntKind.u64.wrap (sM.i+sM.j)) 1⟩ (by show(bShr IntKind.u64 (IntKind.u64.wrap (sM.i+sM.j)) 1-sM.i).toNat<(sM.j-sM.i).toNat; omega) (SmJ.mk (by omega))
    ·skip
     replace h13:=decF h13
     refine xO (InK IntKind.i64 (bShr IntKind.u64 (IntKind.u64.wrap (a+b)) 1+m-sM.i)) (by simp only [InK] at *; omega) ?_
     refine xF (decide (sM.i<m)) (decide_eq_false (by omega)) ?_
     refine xT (decide (a<sM.i)) (decide_eq_true (by omega)) ?_
     refine xB (decide (sM.i<bShr IntKind.u64 (IntKind.u64.wrap (a+b)) 1)) (fun h15 => ?_) (fun h15 => ?_)
     ·skip
      replace h15:=decT h15
      refine xCy [⟨0,(g 0).a,(g 0).c⟩] [0] ((Tg.l [])) ⟨[(0,[])],60⟩ Tryz.call89 (fun F' h=>(t_symI (n) _ _ _ ih (a) (sM.i) (bShr IntKind.u64 (IntKind.u64.wrap (a+b)) 1) _ (xs) hx (by omega) (by omega) (by omega)).fr) fun xn18 n18 hxn18 => ?_
      subst hxn18
      refine xF (decide (bShr IntKind.u64 (IntKind.u64.wrap (a+b)) 1<bShr IntKind.u64 (IntKind.u64.wrap (a+b)) 1+m-sM.i)) (decide_eq_false (by omega)) ?_
      exact xR (tab n (fB L B (iS sM.i (bShr IntKind.u64 (IntKind.u64.wrap (a+b)) 1) i0))) (sm_eq (by simp only [iS]; (repeat' split) <;> omega))
     ·skip
      replace h15:=decF h15
      refine xF (decide (bShr IntKind.u64 (IntKind.u64.wrap (a+b)) 1<bShr IntKind.u64 (IntKind.u64.wrap (a+b)) 1+m-sM.i)) (decide_eq_false (by omega)) ?_
      exact xR (xs) (hx.trans (sm_eq (by simp only [iS]; split <;> omega)))
end Go.Proofs.YthijdhenekmojaaGreatDoor
/- Sorting: whole. -/
set_option linter.unusedSimpArgs false
set_option maxRecDepth 100000
set_option maxHeartbeats 0
namespace Go.Proofs.YthijdhenekmojaaGreatDoor
open Go.Sx
theorem symH(n:Nat)(L:Nat→DnR)(B:DnR)(hs:Srt n L B)(hn:n≤1000): ∀k,SymH n L B k
 | 0=>fun a m b i0 xs hk ho hl hx=>absurd hk (by omega)
 | k+1=>fun a m b i0 xs hk ho hl hx=>(Classical.em ((i0:Int)=m-1)).elim (fun hi=>t_symA n L B hs hn k (symH n L B hs hn k) a m b i0 xs hk ho hl hx hi) (fun hi=>t_symB n L B hs hn k (symH n L B hs hn k) a m b i0 xs hk ho hl hx hi)
theorem t_sym(n:Nat)(L:Nat→DnR)(B:DnR)(hs:Srt n L B)(hn:n≤1000)(a m b:Int)(i0:Nat)(xs:List DnR)(hx:xs=tab n (fB L B i0))(hl:xs.length=n)(ho:SmOk n a m b i0): Ct Tryz.prog 89 (smS n L B a m b i0 xs):=symH n L B hs hn (b-a).toNat a m b i0 xs (Nat.le_refl _) ho hl hx
theorem t_insZ(n:Nat)(L:Nat→DnR)(B:DnR)(hs:Srt n L B)(a b:Int)(i0:Nat)(xs:List DnR)(hx:xs=tab n (fB L B i0))(ha:0≤a)(hab:a≤b)(hbn:b≤n)(hi:i0<n)(hn:n≤1000):
  Ct Tryz.prog 88 (⟨[.s (.s 0 n),.s (.i .i64 a),.s (.i .i64 b),.s (.o cmpF)],[srtE xs],1,fun x=>x=tab n (fB L B (iAt a.toNat i0 b.toNat)),fun _=>[],fun x=>[srtE x]⟩:Sp (List DnR)):=by
 have h:=t_ins n L B hs a.toNat b.toNat i0 (by omega) (by omega) hi hn
 rw [Int.toNat_of_nonneg ha,Int.toNat_of_nonneg (by omega),←hx] at h
 exact h
structure StS where
 i:Int
 j:Int
 p:Nat
 xs:List DnR
abbrev St1(n:Nat)(L:Nat→DnR)(B:DnR)(i0:Nat)(s:StS): Prop:=s.xs=tab n (fB L B s.p)∧s.xs.length=n∧s.p<n∧((s.i=0∧s.j=20∧s.p=i0)∨(s.i=20∧s.j=40∧20≤n∧((s.p=19)∨(s.p+1=n∧20<n))))
abbrev St2(n:Nat)(L:Nat→DnR)(B:DnR)(s:StS): Prop:=s.xs=tab n (fB L B s.p)∧s.xs.length=n∧s.p<n∧((s.i=20∧(s.p+1=n∨(s.p=19∧20<n)))∨(s.i=40∧s.p+1=n))
theorem st1_next{n:Nat}{L:Nat→DnR}{B:DnR}{i0:Nat}{s:StS}(hn:n≤31)(h0:i0=0∨i0+1=n)(hI:St1 n L B i0 s)(h:s.j≤n): St1 n L B i0 ⟨s.j,s.j+20,iAt s.i.toNat s.p s.j.toNat,tab n (fB L B (iAt s.i.toNat s.p s.j.toNat))⟩:=by
 obtain⟨h1,h2,h3,h4⟩:=hI
 have e:iAt s.i.toNat s.p s.j.toNat<n∧((iAt s.i.toNat s.p s.j.toNat=19)∨(iAt s.i.toNat s.p s.j.toNat+1=n∧20<n)):=by
  unfold iAt
  split <;> omega
 exact⟨rfl,tab_len _ _,e.1,.inr ⟨by show s.j=20; omega,by show s.j+20=40; omega,by omega,e.2⟩⟩
theorem st2_0{n:Nat}{L:Nat→DnR}{B:DnR}{i0:Nat}{s:StS}(hn:n≤31)(h0:i0=0∨i0+1=n)(hI:St1 n L B i0 s)(h:¬s.j≤n): St2 n L B ⟨20,0,iAt s.i.toNat s.p n,tab n (fB L B (iAt s.i.toNat s.p n))⟩:=by
 obtain⟨h1,h2,h3,h4⟩:=hI
 have e:iAt s.i.toNat s.p n<n∧(iAt s.i.toNat s.p n+1=n∨(iAt s.i.toNat s.p n=19∧20<n)):=by
  unfold iAt
  split <;> omega
 exact⟨rfl,tab_len _ _,e.1,.inl ⟨rfl,e.2⟩⟩
theorem st2_next{n:Nat}{L:Nat→DnR}{B:DnR}{s:StS}(hn:n≤31)(hI:St2 n L B s)(h:s.i<n): St2 n L B ⟨s.i*2,0,iS (0+s.i) n s.p,tab n (fB L B (iS (0+s.i) n s.p))⟩:=by
 obtain⟨h1,h2,h3,h4⟩:=hI
 have e:iS (0+s.i) n s.p+1=n:=by
  unfold iS
  split <;> omega
 exact⟨rfl,tab_len _ _,by show iS (0+s.i) n s.p<n; omega,.inr ⟨by show s.i*2=40; omega,e⟩⟩
theorem st2_end{n:Nat}{L:Nat→DnR}{B:DnR}{s:StS}(hI:St2 n L B s)(h:¬s.i<n): s.xs=tab n (fB L B (n-1)):=by
 rw [hI.1]
 exact sm_eq (by omega)
theorem t_stable(n:Nat)(L:Nat→DnR)(B:DnR)(hs:Srt n L B)(i0:Nat)(h0:i0=0∨i0+1=n)(h1:1≤n)(hn:n≤31)(nz:Int)(hnz:nz=n)(xs:List DnR)(hx:xs=tab n (fB L B i0))(hl:xs.length=n):
  Ct Tryz.prog 72 (⟨[.s (.s 0 n),.s (.i .i64 nz),.s (.o cmpF)],[srtE xs],1,fun x=>x=tab n (fB L B (n-1)),fun _=>[],fun x=>[srtE x]⟩:Sp (List DnR)):=by
 subst hnz
 refine cX 63 xsCI Tryz.func72 fun g F => ?_
 refine xLoop xsCI Tryz.func72 [0,0,1,1] [.b 0,.c [1,1,1]] [0,1,2,6,7,8] [0] (fun s:StS=>[(0,.slice (g 0).a n (g 0).c),(1,.int .i64 n),(2,cmpF),(6,.int .i64 20),(7,.int .i64 s.i),(8,.int .i64 s.j)]) (fun _=>[(0,.i 0)]) (fun s=>[.sl (g 0).a (g 0).c encD dnN 14 s.xs 46]) (fun _=>⟨[(0,[])],1⟩) (St1 n L B i0) (fun s=>(60-s.j).toNat) ⟨0,20,i0,xs⟩ ⟨hx,hl,by show i0<n; omega,.inl ⟨rfl,rfl,rfl⟩⟩ (fun s J hI hJ => ?_)
 refine xB (decide (s.j≤↑n)) (fun h1 => ?_) (fun h1 => ?_)
 ·skip
  replace h1:=decT h1
  refine xCy [⟨0,(g 0).a,(g 0).c⟩] [0] ((Tg.l [])) ⟨[(0,[])],47⟩ Tryz.call88 (fun F' h=>(t_insZ (n) _ _ hs (s.i) (s.j) _ (s.xs) hI.1 (by omega) (by omega) (by omega) (by omega) (by omega)).fr) fun xn2 n2 hxn2 => ?_
  subst hxn2
  refine xO (InK IntKind.i64 (s.j+20)) (by simp only [InK] at *; omega) ?_
  exact xJ hJ ⟨s.j,s.j+20,iAt s.i.toNat s.p s.j.toNat,tab n (fB L B (iAt s.i.toNat s.p s.j.toNat))⟩ (by show(60-(s.j+20)).toNat<(60-s.j).toNat; omega) (st1_next hn h0 hI (by omega))
 ·skip
  replace h1:=decF h1
  refine xCy [⟨0,(g 0).a,(g 0).c⟩] [0] ((Tg.l [])) ⟨[(0,[])],47⟩ Tryz.call88 (fun F' h=>(t_insZ (n) _ _ hs (s.i) (↑n) _ (s.xs) hI.1 (by omega) (by omega) (by omega) (by omega) (by omega)).fr) fun xn3 n3 hxn3 => ?_
  subst hxn3
  refine xLoop xsCI Tryz.func72 [0,1,1,1,1] [.b 2] [0,1,2,6] [0] (fun s:StS=>[(0,.slice (g 0).a n (g 0).c),(1,.int .i64 n),(2,cmpF),(6,.int .i64 s.i)]) (fun _=>[(0,.i 0)]) (fun s=>[.sl (g 0).a (g 0).c encD dnN 14 s.xs 46]) (fun _=>⟨[(0,[])],1⟩) (St2 n L B) (fun s=>(60-s.i).toNat) ⟨20,0,iAt s.i.toNat s.p n,tab n (fB L B (iAt s.i.toNat s.p n))⟩ (st2_0 hn h0 hI (by omega)) (fun t J2 hI2 hJ2 => ?_)
  refine xB (decide (t.i < ↑n)) (fun h4 => ?_) (fun h4 => ?_)
  ·skip
   replace h4:=decT h4
   refine xO (InK IntKind.i64 (2*t.i)) (by simp only [InK] at *; omega) ?_
   refine xLoop xsCI Tryz.func72 [0,0,1,0,1,0,0,1,1,1,1] [.b 4,.c [1,1,0,1,0,0,1,1,1,1],.b 3,.j J2,.b 2] [0,1,2,6,7,8] [0] (fun _:Unit=>[(0,.slice (g 0).a n (g 0).c),(1,.int .i64 n),(2,cmpF),(6,.int .i64 t.i),(7,.int .i64 0),(8,.int .i64 (2*t.i))]) (fun _=>[(0,.i 0)]) (fun _=>[.sl (g 0).a (g 0).c encD dnN 14 t.xs 46]) (fun _=>⟨[(0,[])],1⟩) (fun _=>True) (fun _=>0) () trivial (fun u J3 hI3 hJ3 => ?_)
   refine xF (decide (2*t.i≤↑n)) (decide_eq_false (by omega)) ?_
   refine xO (InK IntKind.i64 (0+t.i)) (by simp only [InK] at *; omega) ?_
   refine xT (decide (0+t.i < ↑n)) (decide_eq_true (by omega)) ?_
   refine xCy [⟨0,(g 0).a,(g 0).c⟩] [0] ((Tg.l [])) ⟨[(0,[])],52⟩ Tryz.call89 (fun F' h=>(t_sym (n) _ _ hs (by omega) (0) (0+t.i) (↑n) _ (t.xs) hI2.1 (by omega) (by omega)).fr) fun xn6 n6 hxn6 => ?_
   subst hxn6
   refine xO (InK IntKind.i64 (t.i*2)) (by simp only [InK] at *; omega) ?_
   exact xJ hJ2 ⟨t.i*2,0,iS (0+t.i) n t.p,tab n (fB L B (iS (0+t.i) n t.p))⟩ (by show(60-t.i*2).toNat<(60-t.i).toNat; omega) (st2_next hn hI2 (by omega))
  ·skip
   replace h4:=decF h4
   exact xR (t.xs) (st2_end hI2 (by omega))
end Go.Proofs.YthijdhenekmojaaGreatDoor
/- Sorting: of none; of all that ModelOne sorts. -/
set_option linter.unusedSimpArgs false
set_option maxRecDepth 100000
set_option maxHeartbeats 0
namespace Go.Proofs.YthijdhenekmojaaGreatDoor
open Go.Sx
theorem t_insNil: Ct Tryz.prog 88 (⟨[.s (.s 0 0),.s (.i .i64 0),.s (.i .i64 0),.s (.o cmpF)],[srtE []],1,fun _=>True,fun _=>[],fun _=>[srtE []]⟩:Sp Unit):=by
 refine cX 53 xsCI Tryz.func88 fun g F => ?_
 refine xO (InK IntKind.i64 (0+1)) (by simp only [InK] at *; omega) ?_
 refine xLoop xsCI Tryz.func88 [0,1] [.b 0] [0,1,2,3,8] [0] (fun _:Unit=>[(0,.slice (g 0).a 0 (g 0).c),(1,.int .i64 0),(2,.int .i64 0),(3,cmpF),(8,.int .i64 1)]) (fun _=>[(0,.i 0)]) (fun s=>[.sl (g 0).a (g 0).c encD dnN 14 [] 46]) (fun _=>⟨[(0,[])],1⟩) (fun _=>True) (fun _=>0) () trivial (fun s J hI hJ => ?_)
 refine xF (decide ((1:Int)<(0:Int))) rfl ?_
 exact xR () trivial
theorem t_stableNil: Ct Tryz.prog 72 (⟨[.s (.s 0 0),.s (.i .i64 0),.s (.o cmpF)],[srtE []],1,fun _=>True,fun _=>[],fun _=>[srtE []]⟩:Sp Unit):=by
 refine cX 63 xsCI Tryz.func72 fun g F => ?_
 refine xLoop xsCI Tryz.func72 [0,0,1,1] [.b 0,.c [1,1,1]] [0,1,2,6,7,8] [0] (fun _:Unit=>[(0,.slice (g 0).a 0 (g 0).c),(1,.int .i64 0),(2,cmpF),(6,.int .i64 20),(7,.int .i64 0),(8,.int .i64 20)]) (fun _=>[(0,.i 0)]) (fun s=>[.sl (g 0).a (g 0).c encD dnN 14 [] 46]) (fun _=>⟨[(0,[])],1⟩) (fun _=>True) (fun _=>0) () trivial (fun s J hI hJ => ?_)
 refine xF (decide ((20:Int)≤(0:Int))) rfl ?_
 refine xCy [⟨0,(g 0).a,(g 0).c⟩] [0] ((Tg.l [])) ⟨[(0,[])],47⟩ Tryz.call88 (fun F' h=>(t_insNil).fr) fun _ n1 _ => ?_
 refine xLoop xsCI Tryz.func72 [0,1,1,1,1] [.b 2] [0,1,2,6] [0] (fun _:Unit=>[(0,.slice (g 0).a 0 (g 0).c),(1,.int .i64 0),(2,cmpF),(6,.int .i64 20)]) (fun _=>[(0,.i 0)]) (fun s=>[.sl (g 0).a (g 0).c encD dnN 14 [] 46]) (fun _=>⟨[(0,[])],1⟩) (fun _=>True) (fun _=>0) () trivial (fun t J2 hI2 hJ2 => ?_)
 refine xF (decide ((20:Int)<(0:Int))) rfl ?_
 exact xR () trivial
/-- in order, but for the greatest one, that is first or last -/
def SrtTo(xs ys:List DnR): Prop:=(xs=[]∧ys=[])∨∃(n:Nat) (L:Nat→DnR) (B:DnR) (i0:Nat),Srt n L B∧(i0=0∨i0+1=n)∧1≤n∧n≤31∧xs=tab n (fB L B i0)∧ys=tab n (fB L B (n-1))
abbrev srtS(n:Nat)(xs ys:List DnR): Sp (List DnR):=⟨[.s (.s 0 n),.s (.o cmpF)],[srtE xs],1,fun x=>x=ys,fun _=>[],fun x=>[srtE x]⟩
theorem t_sortNil: Ct Tryz.prog 48 (⟨[.s (.s 0 0),.s (.o cmpF)],[srtE []],1,fun _=>True,fun _=>[],fun _=>[srtE []]⟩:Sp Unit):=by
 refine cX 9 xsCI Tryz.func48 fun g F => ?_
 refine xCy [⟨0,(g 0).a,(g 0).c⟩] [0] ((Tg.l [])) ⟨[(0,[])],43⟩ Tryz.call72 (fun F' h=>(t_stableNil).fr) fun _ n1 _ => ?_
 exact xR () trivial
theorem t_sort1(n:Nat)(L:Nat→DnR)(B:DnR)(hs:Srt n L B)(i0:Nat)(h0:i0=0∨i0+1=n)(h1:1≤n)(hn:n≤31)(xs:List DnR)(hx:xs=tab n (fB L B i0))(hl:xs.length=n): Ct Tryz.prog 48 (srtS n xs (tab n (fB L B (n-1)))):=by
 refine cX 9 xsCI Tryz.func48 fun g F => ?_
 refine xCy [⟨0,(g 0).a,(g 0).c⟩] [0] ((Tg.l [])) ⟨[(0,[])],43⟩ Tryz.call72 (fun F' h=>(t_stable (n) _ _ hs _ h0 (by omega) (by omega) (↑n) rfl (xs) hx (by omega)).fr) fun xn1 n1 hxn1 => ?_
 subst hxn1
 exact xR (tab n (fB L B (n-1))) rfl
theorem t_sort(n:Nat)(xs ys:List DnR)(hl:xs.length=n)(h:SrtTo xs ys): Ct Tryz.prog 48 (srtS n xs ys):=by
 rcases h with ⟨rfl,rfl⟩ | ⟨m,L,B,i0,hs,h0,h1,hn,rfl,rfl⟩
 ·subst hl
  intro g F w hi
  refine(t_sortNil g F w hi).mono ?_
  rintro e w' ⟨v,L',he,⟨x,ν,hx,rfl,rfl⟩,hin⟩
  exact⟨_,_,he,⟨[],ν,rfl,rfl,rfl⟩,hin⟩
 ·have e:m=n:=by rw [←hl,tab_len]
  subst e
  exact t_sort1 m L B hs i0 h0 h1 hn _ rfl hl
end Go.Proofs.YthijdhenekmojaaGreatDoor
/- Model: those that took effect, in order. -/
set_option linter.unusedSimpArgs false
set_option maxRecDepth 100000
set_option maxHeartbeats 0
namespace Go.Proofs.YthijdhenekmojaaGreatDoor
open Go.Sx
def xoC: Cx:=⟨[47],[],[],[]⟩
theorem xoI: Inl Tryz.prog xoC:=inl_ok ⟨Tryz.call47,trivial⟩ trivial
theorem oneD: ∀y,∀u∈encD y,u.oneCell'=true:=by
 intro y u hu
 simp only [encD,List.mem_cons,List.not_mem_nil,or_false] at hu
 rcases hu with rfl | rfl | rfl | rfl | rfl | rfl | rfl | rfl | rfl | rfl | rfl | rfl | rfl | rfl <;> rfl
theorem srt_len{xs zs:List DnR}(h:SrtTo xs zs): zs.length=xs.length:=by
 rcases h with ⟨rfl,rfl⟩ | ⟨n,L,B,i0,_,_,_,_,rfl,rfl⟩
 ·rfl
 ·rw [tab_len,tab_len]
section
variable {P:Program} {F:Fr} {Ψ : Value→List Ent→Prop} {S:List Kont→TM→List Ent→Prop} {o:Out2}
theorem xApN{α : Type}(n:Nat){xs:List α}(hxn:xs.length=n)(i:Nat)(a:Option Addr)(c:Nat)(enc : α→List Value)(d : α)(sz:Nat)  (te:TypeId)(ys:List α)(g:Tg)(h1:∀y,∀u∈enc y,u.oneCell'=true)(by':Nat)(xv:Value)
  (hlen:xs.length+ys.length≤9223372036854775807∧(xs.length+ys.length)*by'≤140737488355328)
  (hs:∀F,Src o.hd.sL F xv (cellsOf enc ys) ys.length)
  (hn:∀a' c',OK2 P F Ψ S (o.hd.k (.slice a' (xs++ys).length c') g (o.hd.sL.set i (.sl a' c' enc d sz (xs++ys) te)) o.hd.sG))
  (h:(o.hd.tag,appO P o.hd.st o.hd.oo,o.hd.sL[i]?)=(10,some (.slice a n c,xv,(te,sz,by')),some (.sl a c enc d sz xs te)):=by kernel_rfl) (he:o.el=o.er:=by kernel_rfl):OK2 P F Ψ S o:=by
 subst hxn
 exact xAp i a c enc d sz xs te ys g h1 by' xv hlen hs hn h he
end
structure OrS where
 i:Nat
 ys:List DnR
 a:Option Addr
 c:Nat
abbrev OrI(xs:List DnR)(s:OrS): Prop:=s.i≤xs.length∧s.ys=xs.take s.i∧s.ys.length=s.i
theorem or_next{xs:List DnR}{s:OrS}{a:Option Addr}{c:Nat}(hI:OrI xs s)(h:s.i<xs.length): OrI xs ⟨s.i+1,s.ys++[xs.getD s.i dnN],a,c⟩:=by
 refine⟨h, ?_,by show(s.ys++[xs.getD s.i dnN]).length=s.i+1; simp; exact hI.2.2⟩
 show s.ys++[xs.getD s.i dnN]=xs.take (s.i+1)
 have e:xs[s.i]? = some (xs.getD s.i dnN):=by simp [h]
 rw [List.take_add_one,e,hI.2.1]; rfl
theorem or_end{xs zs:List DnR}{s:OrS}(hI:OrI xs s)(h:¬s.i<xs.length)(hz:SrtTo xs zs): SrtTo s.ys zs:=by
 have e:s.ys=xs:=by rw [hI.2.1,List.take_of_length_le (by omega)]
 rw [e]; exact hz
theorem t_order(n:Nat)(xs zs:List DnR)(hl:xs.length=n)(hn:n≤31)(hp:∀i,i<n→¬(xs.getD i dnN).ki=6∧¬(xs.getD i dnN).ki=7∧(xs.getD i dnN).cm>0)(hz:SrtTo xs zs):
  Ct Tryz.prog 22 (⟨[.s (.s 0 n)],[srtE xs],1,fun x=>x=zs,fun x=>[.s (.s 1 x.length)],fun x=>[srtE xs,.sl 1 encD dnN 14 x 46]⟩:Sp (List DnR)):=by
 subst hl
 refine cX 35 xoI Tryz.func22 fun g F => ?_
 refine xW0 _ (view_nil encD dnN 14 46 sizedD) (xW0 _ (view_nil encD dnN 14 46 sizedD) (xLoop xoI Tryz.func22 [0,1,0,1,1] [.b 0,.c [1,1,1]] [3,4,7,8,9] [0,1,2] (fun s:OrS=>[(3,.slice s.a s.ys.length s.c),(4,.slice none 0 0),(7,.slice (g 0).a xs.length (g 0).c),(8,.int .i64 xs.length),(9,.int .i64 s.i)]) (fun _=>[(7,.i 0),(3,.i 1),(4,.i 2)]) (fun s=>[.sl (g 0).a (g 0).c encD dnN 14 xs 46,.sl s.a s.c encD dnN 14 s.ys 46,.sl none 0 encD dnN 14 [] 46]) (fun _=>⟨[(0,[]),(1,[]),(2,[])],3⟩) (OrI xs) (fun s=>xs.length-s.i) ⟨0,[],none,0⟩ ⟨Nat.zero_le _,rfl,rfl⟩ (fun s J hI hJ => ?_)) sc_st) sc_st
 refine xB (decide ((↑s.i:Int)<(↑xs.length:Int))) (fun h1 => ?_) (fun h1 => ?_)
 ·skip
  replace h1:=decT h1
  refine xO (xs.length≤xs.length∧(0:Int)≤(↑s.i:Int)∧(↑s.i:Int)<(↑xs.length:Int)) (by omega) ?_
  refine xO ((↑s.i:Int).toNat<xs.length) (by omega) ?_
  refine xN fun b2 => ?_
  refine xN fun b3 => ?_
  refine xF ((xs.getD (↑s.i:Int).toNat dnN).ki==(6:Int)) (beq_eq_false_iff_ne.2 (hp _ (by omega)).1) ?_
  refine xF ((xs.getD (↑s.i:Int).toNat dnN).ki==(7:Int)) (beq_eq_false_iff_ne.2 (hp _ (by omega)).2.1) ?_
  refine xT (decide ((xs.getD (↑s.i:Int).toNat dnN).cm>(0:Int))) (decide_eq_true (hp _ (by omega)).2.2) ?_
  refine xN fun b4 => ?_
  refine xAp 1 (s.a) (s.c) encD dnN 14 (s.ys) 46 [xs.getD s.i dnN] (.i 1) oneD 176 (.slice (some ⟨b4,0,none⟩) 1 1) (by first | (simp; done) | (simp; omega)) (fun F=>(src_pts (i:=5) (n:=1) (c:=1) (cs:=cellsOf encD [xs.getD s.i dnN]) (t:=46) (by kernel_rfl))) (fun a1_ c1_ => ?_)
  refine xO (InK IntKind.i64 (↑s.i+1)) (by simp only [InK] at *; omega) ?_
  exact xJ hJ ⟨s.i+1,s.ys++[xs.getD s.i dnN],a1_,c1_⟩ (by show xs.length-(s.i+1)<xs.length-s.i; omega) (or_next hI (by omega))
 ·skip
  replace h1:=decF h1
  refine xCy [⟨0,s.a,s.c⟩] [1] ((Tg.l [])) ⟨[(0,[]),(2,[]),(1,[])],44⟩ Tryz.call48 (fun F' h=>(t_sort (s.ys.length) (s.ys) _ (by omega) (or_end hI (by omega) hz)).fr) fun xn5 n5 hxn5 => ?_
  subst hxn5
  refine xApN (s.ys.length) ((srt_len hz).trans (by have:=hI.2.2; omega)) 2 (s.a) (s.c) encD dnN 14 46 [] (.i 1) oneD 176 (.slice none 0 0) (by have:=srt_len hz; simp; omega) (fun F=>(src_slU (a:=none) (c:=0) (enc:=encD) (sz:=14) (i:=1) (d:=dnN) (xs:=[]) (t:=46) 0 (show 0≤([]:List DnR).length by simp) (by kernel_rfl))) (fun a2_ c2_ => ?_)
  exact xR (xn5++[]) (by simp)
end Go.Proofs.YthijdhenekmojaaGreatDoor
/- Contracts of the config's and the rows' functions. -/
set_option maxRecDepth 100000
set_option maxHeartbeats 0
namespace Go.Proofs.YthijdhenekmojaaGreatDoor
open Go.Sx
abbrev sU(args:List SA)(pre:List SE)(n:Nat)(ret:List SA)(post:List SE): Sp Unit:=⟨args,pre,n,fun _=>True,fun _=>ret,fun _=>post⟩
abbrev sB(args:List SA)(pre:List SE)(n:Nat)(b:Bool)(post:List SE): Sp Bool:=⟨args,pre,n,fun x=>x=b,fun x=>[.s (.bo x)],fun _=>post⟩
abbrev cfgS(c:Cfg): List SV:=[.i .i64 c.topics,.i .i64 c.small,.i .i64 c.slots,.i .i64 c.clients,.i .i64 c.s0,.i .i64 c.n0,.i .i64 c.s1,.i .i64 c.n1,.i .i64 c.retry]
theorem t_plan(c:Cfg)(hc:c.Ok): Ct Tryz.prog 26 (sU [.g (cfgS c)] [] 0 [.s .ni] []):=by
 simp only [Cfg.Ok] at hc
 refine cX 7 xxI Tryz.func26 fun g F => ?_
 refine xN fun b1 => ?_
 refine xN fun b2 => ?_
 refine xN fun b3 => ?_
 refine xN fun b4 => ?_
 refine xN fun b5 => ?_
 refine xN fun b6 => ?_
 refine xF (decide (c.topics<1)) (by first | (simp; done) | (simp; omega)) ?_
 refine xF (decide (c.topics>8)) (by first | (simp; done) | (simp; omega)) ?_
 refine xF (decide (c.small<4)) (by first | (simp; done) | (simp; omega)) ?_
 refine xF (decide (c.small>32)) (by first | (simp; done) | (simp; omega)) ?_
 refine xF (decide (c.slots<1)) (by first | (simp; done) | (simp; omega)) ?_
 refine xF (decide (c.slots>8)) (by first | (simp; done) | (simp; omega)) ?_
 refine xF (decide (c.clients<1)) (by first | (simp; done) | (simp; omega)) ?_
 refine xF (decide (c.clients>8)) (by first | (simp; done) | (simp; omega)) ?_
 refine xF (decide (c.retry<1)) (by first | (simp; done) | (simp; omega)) ?_
 refine xF (decide (c.retry>8)) (by first | (simp; done) | (simp; omega)) ?_
 refine xF (decide (c.s0<4)) (by first | (simp; done) | (simp; omega)) ?_
 refine xF (decide (c.s0>96)) (by first | (simp; done) | (simp; omega)) ?_
 refine xF (decide (c.n0<0)) (by first | (simp; done) | (simp; omega)) ?_
 refine xF (decide (c.n0>12)) (by first | (simp; done) | (simp; omega)) ?_
 refine xF (decide (c.s1<4)) (by first | (simp; done) | (simp; omega)) ?_
 refine xF (decide (c.s1>96)) (by first | (simp; done) | (simp; omega)) ?_
 refine xF (decide (c.n1<0)) (by first | (simp; done) | (simp; omega)) ?_
 refine xF (decide (c.n1>12)) (by first | (simp; done) | (simp; omega)) ?_
 refine xF (!decide (c.s1>c.s0)) (by first | (simp; done) | (simp; omega)) ?_
 exact xR () trivial
def mayB(k:Int): Bool:=decide (1≤k∧k≤2147483647)
theorem t_may(k:Int): Ct Tryz.prog 56 (sB [.s (.i .i64 k)] [] 0 (mayB k) []):=by
 refine cX 9 xxI Tryz.func56 fun g F => ?_
 refine xB (decide (k≥1)) (fun h1 => ?_) (fun h1 => ?_)
 ·skip
  replace h1:=decT h1
  exact xR (decide (k≤2147483647)) (by simp only [mayB]; simp; omega)
 ·skip
  replace h1:=decF h1
  exact xR (false) (by simp only [mayB]; simp; omega)
end Go.Proofs.YthijdhenekmojaaGreatDoor
/- Where a key's search starts; which class words fit. -/
set_option maxRecDepth 100000
set_option maxHeartbeats 0
namespace Go.Proofs.YthijdhenekmojaaGreatDoor
open Go.Sx
abbrev sI(args:List SA)(pre:List SE)(n:Nat)(fact:Int→Prop)(post:List SE): Sp Int:=⟨args,pre,n,fact,fun x=>[.s (.i .i64 x)],fun _=>post⟩
abbrev sW(args:List SA)(pre:List SE)(n:Nat)(fact:Int→Prop)(post:List SE): Sp Int:=⟨args,pre,n,fact,fun x=>[.s (.i .u64 x)],fun _=>post⟩
theorem wr64(r:Int): 0≤IntKind.u64.wrap r∧IntKind.u64.wrap r≤18446744073709551615:=by rw [wrapU64]; omega
theorem wr_id{x:Int}(h:0≤x∧x≤18446744073709551615): IntKind.u64.wrap x=x:=by rw [wrapU64]; omega
theorem t_mix(x:Int)(hx:InK .u64 x): Ct Tryz.prog 57 (sW [.s (.i .u64 x)] [] 0 (fun y=>0≤y∧y≤18446744073709551615) []):=by
 refine cX 17 xaI Tryz.func57 fun g F => ?_
 refine xO ((0:Int)≤(30:Int)) (by omega) ?_
 refine xO ((0:Int)≤(27:Int)) (by omega) ?_
 refine xO ((0:Int)≤(31:Int)) (by omega) ?_
 exact xR (IntKind.u64.wrap ↑(BitVec.ofInt IntKind.u64.bits (IntKind.u64.wrap (IntKind.u64.wrap ↑(BitVec.ofInt IntKind.u64.bits (IntKind.u64.wrap (IntKind.u64.wrap ↑(BitVec.ofInt IntKind.u64.bits x ^^^ BitVec.ofInt IntKind.u64.bits (bShr IntKind.u64 x 30)).toNat*13787848793156543929)) ^^^ BitVec.ofInt IntKind.u64.bits (bShr IntKind.u64 (IntKind.u64.wrap (IntKind.u64.wrap ↑(BitVec.ofInt IntKind.u64.bits x ^^^ BitVec.ofInt IntKind.u64.bits (bShr IntKind.u64 x 30)).toNat*13787848793156543929)) 27)).toNat*10723151780598845931)) ^^^ BitVec.ofInt IntKind.u64.bits (bShr IntKind.u64 (IntKind.u64.wrap (IntKind.u64.wrap ↑(BitVec.ofInt IntKind.u64.bits (IntKind.u64.wrap (IntKind.u64.wrap ↑(BitVec.ofInt IntKind.u64.bits x ^^^ BitVec.ofInt IntKind.u64.bits (bShr IntKind.u64 x 30)).toNat*13787848793156543929)) ^^^ BitVec.ofInt IntKind.u64.bits (bShr IntKind.u64 (IntKind.u64.wrap (IntKind.u64.wrap ↑(BitVec.ofInt IntKind.u64.bits x ^^^ BitVec.ofInt IntKind.u64.bits (bShr IntKind.u64 x 30)).toNat*13787848793156543929)) 27)).toNat*10723151780598845931)) 31)).toNat) (wr64 _)
theorem tm_rng{x t:Int}(hx:0≤x∧x≤18446744073709551615)(ht:1≤t∧t≤8): 0≤x.tmod (IntKind.u64.wrap t)∧x.tmod (IntKind.u64.wrap t)<8:=by
 rw [wr_id (by omega)]
 have h1:=Int.tmod_nonneg t hx.1
 have h2:=Int.tmod_lt_of_pos x (show 0<t by omega)
 omega
theorem tm_in{x t:Int}(hx:0≤x∧x≤18446744073709551615)(ht:1≤t∧t≤8): InK .i64 (x.tmod (IntKind.u64.wrap t)):=by
 have:=tm_rng hx ht
 simp only [InK]; omega
theorem t_start(c:Cfg)(hc:c.Ok)(k:Int): Ct Tryz.prog 31 (sI [.g (cfgS c),.s (.i .i64 k)] [] 0 (fun e=>e<0↔mayB k=false) []):=by
 have hc':=hc
 simp only [Cfg.Ok] at hc
 refine cX 21 xaI Tryz.func31 fun g F => ?_
 refine xN fun b1 => ?_
 refine xC Tryz.call26 (t_plan (c) (by assumption)) fun _ n2 _ => ?_
 refine xB (decide (k≥1)) (fun h3 => ?_) (fun h3 => ?_)
 ·skip
  replace h3:=decT h3
  refine xB (!decide (k≤2147483647)) (fun h4 => ?_) (fun h4 => ?_)
  ·skip
   replace h4:=ntT h4
   replace h4:=decF h4
   exact xR (-1) (by simp [mayB]; omega)
  ·skip
   replace h4:=ntF h4
   replace h4:=decT h4
   refine xC Tryz.call57 (t_mix (IntKind.u64.wrap k) (wr64 _)) fun xn6 n6 hxn6 => ?_
   refine xO (IntKind.u64.wrap c.topics≠0) (by rw [wr_id (by omega)]; omega) ?_
   refine xO (InK IntKind.i64 (xn6.tmod (IntKind.u64.wrap c.topics))) (tm_in hxn6 (by omega)) ?_
   exact xR (xn6.tmod (IntKind.u64.wrap c.topics)) (by have:=(tm_rng hxn6 (show 1≤c.topics∧c.topics≤8 by omega)).1; simp [mayB]; omega)
 ·skip
  replace h3:=decF h3
  exact xR (-1) (by simp [mayB]; omega)
def fitsC(c:Cfg)(n:Int): Int:=if n<1 then -1 else if c.s0≥n then 0 else if c.s1≥n then 1 else -1
theorem t_fits(c:Cfg)(hc:c.Ok)(n:Int): Ct Tryz.prog 59 (sI [.g (cfgS c),.s (.i .i64 n)] [] 0 (fun e=>e=fitsC c n) []):=by
 refine cX 16 xaI Tryz.func59 fun g F => ?_
 refine xN fun b1 => ?_
 refine xN fun b2 => ?_
 refine xC Tryz.call26 (t_plan (c) (by assumption)) fun _ n3 _ => ?_
 refine xB (decide (n<1)) (fun h4 => ?_) (fun h4 => ?_)
 ·skip
  replace h4:=decT h4
  exact xR (-1) (by unfold fitsC; omega)
 ·skip
  replace h4:=decF h4
  refine xT (decide ((0:Int) < ↑((2:Nat)-(0:Nat)))) rfl ?_
  refine xN fun b5 => ?_
  refine xB (decide (c.s0≥n)) (fun h6 => ?_) (fun h6 => ?_)
  ·skip
   replace h6:=decT h6
   exact xR (0) (by unfold fitsC; omega)
  ·skip
   replace h6:=decF h6
   refine xT (decide (IntKind.i64.wrap ((0:Int)+(1:Int)) < ↑((2:Nat)-(0:Nat)))) rfl ?_
   refine xN fun b7 => ?_
   refine xB (decide (c.s1≥n)) (fun h8 => ?_) (fun h8 => ?_)
   ·skip
    replace h8:=decT h8
    exact xR (IntKind.i64.wrap (0+1)) (by show(1:Int) = _; unfold fitsC; omega)
   ·skip
    replace h8:=decF h8
    refine xF (decide (IntKind.i64.wrap (IntKind.i64.wrap ((0:Int)+(1:Int))+(1:Int)) < ↑((2:Nat)-(0:Nat)))) rfl ?_
    exact xR (-1) (by unfold fitsC; omega)
end Go.Proofs.YthijdhenekmojaaGreatDoor
/- The model: what is created. -/
set_option maxRecDepth 100000
set_option maxHeartbeats 0
namespace Go.Proofs.YthijdhenekmojaaGreatDoor
open Go.Sx
def ekI(k:Int): Value:=.int .i64 k
def evT(x:Bool×PRow): Value:=.agg #[.bool x.1,.slice x.2.a x.2.xs.length x.2.c]
theorem kI: KeyOk Tryz.prog 3 ekI:=keyOk_int (kk:=.i64) (by kernel_rfl)
theorem kH: KeyOk Tryz.prog 116 ekP:=keyOk_two (by kernel_rfl)
abbrev TopM:= List (Int×Bool×PRow)
abbrev HanM:= List ((Int×Int)×PRow)
abbrev dS(cl ki ke:Int)(la:Bool)(wo:SV)(ha:Int)(pa:SV)(co:Int)(rw rk:SV)(n cm fr to_:Int): List SV:=[.i .i64 cl,.l .i64 ki,.i .i64 ke,.bo la,wo,.i .i64 ha,pa,.i .i64 co,rw,rk,.i .u64 n,.i .i64 cm,.i .i64 fr,.i .i64 to_]
structure RT where
 b:Bool
 T:TopM
def createM(c:Cfg)(T:TopM)(ke:Int)(la:Bool)(co:Int): RT:=
 if mayB ke=false then⟨co==1,T⟩ else
 if co=0 then(if (kget T ke).isSome=true∨(T.length:Int)=c.topics then⟨false,T⟩ else⟨true,kset T ke (la,.nil)⟩) else
 if co=14 then⟨(kget T ke).isSome,T⟩ else
 if co=15 then⟨!(kget T ke).isSome&&((T.length:Int)==c.topics),T⟩ else⟨co==17,T⟩
abbrev mdl(c:Cfg)(sv hv:SV)(mt:Nat): SE:=.pts 0 (cfgS c++[sv,.mb 1 mt,hv]) 81
abbrev topR(mt:Nat)(T:TopM): SE:=.rs 1 fun _=>KMap mt ekI evT T
theorem may_of{e k:Int}(h:e<0↔mayB k=false)(h2:¬e<0): mayB k=true:=by
 cases hm:mayB k with
 | true=>rfl
 | false=>exact absurd (h.2 hm) h2
theorem t_create(c:Cfg)(hc:c.Ok)(T:TopM)(mt:Nat)(sv hv:Value)(cl ke:Int)(la:Bool)(wo pa rw rk:Value)(ha co n cm fr to_:Int):
  Ct Tryz.prog 13 (⟨[.s (.p 0 0),.g (dS cl 1 ke la (.o wo) ha (.o pa) co (.o rw) (.o rk) n cm fr to_)],[mdl c (.o sv) (.o hv) mt,topR mt T],2,
   fun x=>x=createM c T ke la co,fun x=>[.s (.bo x.b)],fun x=>[mdl c (.o sv) (.o hv) mt,topR mt x.T]⟩:Sp RT):=by
 refine cX 148 xaI Tryz.func13 fun g F => ?_
 refine xN fun b1 => ?_
 refine xC Tryz.call31 (t_start (c) (by omega) (ke)) fun xn2 n2 hxn2 => ?_
 refine xB (decide (xn2<0)) (fun h3 => ?_) (fun h3 => ?_)
 ·skip
  replace h3:=decT h3
  exact xR ({b:=co==1,T:=T}) (by have hm:=hxn2.1 (by assumption); simp [createM,hm])
 ·skip
  replace h3:=decF h3
  refine xA ?_ ?_
  ·skip
   refine xMg 1 (mt) (T) (evT) kI (ke) (false,PRow.nil) true ?_
   refine xN fun b4 => ?_
   refine xN fun b5 => ?_
   refine xMl 1 (mt) (T) ekI evT ?_
   refine xB (co==0) (fun h6 => ?_) (fun h6 => ?_)
   ·skip
    replace h6:=decT h6
    refine xB ((kget T ke).isSome) (fun h7 => ?_) (fun h7 => ?_)
    ·skip
     exact xR ({b:=false,T:=T}) (by have hm:=may_of hxn2 (by assumption); simp [createM,hm, *])
    ·skip
     refine xB (↑(List.length T)==c.topics) (fun h8 => ?_) (fun h8 => ?_)
     ·skip
      replace h8:=decT h8
      exact xR ({b:=false,T:=T}) (by have hm:=may_of hxn2 (by assumption); simp [createM,hm, *])
     ·skip
      replace h8:=decF h8
      refine xMs 1 (mt) (T) (evT) kI (ke) (la,PRow.nil) ?_
      exact xR ({b:=true,T:=kset T ke (la,PRow.nil)}) (by have hm:=may_of hxn2 (by assumption); simp [createM,hm, *])
   ·skip
    replace h6:=decF h6
    refine xB (co==14) (fun h9 => ?_) (fun h9 => ?_)
    ·skip
     replace h9:=decT h9
     exact xR ({b:=(kget T ke).isSome,T:=T}) (by have hm:=may_of hxn2 (by assumption); simp [createM,hm, *])
    ·skip
     replace h9:=decF h9
     refine xB (co==15) (fun h10 => ?_) (fun h10 => ?_)
     ·skip
      replace h10:=decT h10
      refine xB (!(kget T ke).isSome) (fun h11 => ?_) (fun h11 => ?_)
      ·skip
       replace h11:=ntT h11
       exact xR ({b := ↑(List.length T)==c.topics,T:=T}) (by have hm:=may_of hxn2 (by assumption); simp [createM,hm, *])
      ·skip
       replace h11:=ntF h11
       exact xR ({b:=false,T:=T}) (by have hm:=may_of hxn2 (by assumption); simp [createM,hm, *])
     ·skip
      replace h10:=decF h10
      exact xR ({b:=co==17,T:=T}) (by have hm:=may_of hxn2 (by assumption); simp [createM,hm, *])
  ·skip
   refine xN fun b12 => ?_
   refine xMg 1 (mt) (T) (evT) kI (ke) (false,PRow.nil) true ?_
   refine xN fun b13 => ?_
   refine xMl 1 (mt) (T) ekI evT ?_
   refine xB (co==0) (fun h14 => ?_) (fun h14 => ?_)
   ·skip
    replace h14:=decT h14
    refine xB ((kget T ke).isSome) (fun h15 => ?_) (fun h15 => ?_)
    ·skip
     exact xR ({b:=false,T:=T}) (by have hm:=may_of hxn2 (by assumption); simp [createM,hm, *])
    ·skip
     refine xB (↑(List.length T)==c.topics) (fun h16 => ?_) (fun h16 => ?_)
     ·skip
      replace h16:=decT h16
      exact xR ({b:=false,T:=T}) (by have hm:=may_of hxn2 (by assumption); simp [createM,hm, *])
     ·skip
      replace h16:=decF h16
      refine xMs 1 (mt) (T) (evT) kI (ke) (la,PRow.nil) ?_
      exact xR ({b:=true,T:=kset T ke (la,PRow.nil)}) (by have hm:=may_of hxn2 (by assumption); simp [createM,hm, *])
   ·skip
    replace h14:=decF h14
    refine xB (co==14) (fun h17 => ?_) (fun h17 => ?_)
    ·skip
     replace h17:=decT h17
     exact xR ({b:=(kget T ke).isSome,T:=T}) (by have hm:=may_of hxn2 (by assumption); simp [createM,hm, *])
    ·skip
     replace h17:=decF h17
     refine xB (co==15) (fun h18 => ?_) (fun h18 => ?_)
     ·skip
      replace h18:=decT h18
      refine xB (!(kget T ke).isSome) (fun h19 => ?_) (fun h19 => ?_)
      ·skip
       replace h19:=ntT h19
       exact xR ({b := ↑(List.length T)==c.topics,T:=T}) (by have hm:=may_of hxn2 (by assumption); simp [createM,hm, *])
      ·skip
       replace h19:=ntF h19
       exact xR ({b:=false,T:=T}) (by have hm:=may_of hxn2 (by assumption); simp [createM,hm, *])
     ·skip
      replace h18:=decF h18
      exact xR ({b:=co==17,T:=T}) (by have hm:=may_of hxn2 (by assumption); simp [createM,hm, *])
end Go.Proofs.YthijdhenekmojaaGreatDoor
/- Rows that are copied. -/
set_option maxRecDepth 100000
set_option maxHeartbeats 0
namespace Go.Proofs.YthijdhenekmojaaGreatDoor
open Go.Sx
abbrev sR(args:List SA)(pre:List SE)(n:Nat)(ret:List SA)(post:Sx.Rest→List SE): Sp Sx.Rest:=⟨args,pre,n,fun _=>True,fun _=>ret,post⟩
theorem t_cloneS(xs:List Int)(n:Nat)(hn:xs.length=n)(hl:xs.length≤1000000): Ct Tryz.prog 46 (sR [.s (.s 0 n)] [.sl 0 (encI .u64) 0 1 xs 42] 1 [.s (.s 1 n)] fun z=>[.sl 0 (encI .u64) 0 1 xs 42,.rd 1 (encI .u64) 0 1 xs 42 z]):=by
 subst hn
 intro g
 obtain⟨b,a,c,h,rfl⟩:=rf_eta g
 cases a with
 | none=>
  refine ctr_sl_nil (i:=0) rfl ?_
  rintro rfl rfl
  refine cXg 8 xaI Tryz.func46 fun F => ?_
  refine xWr (.i 7) _ ⟨[(0,[]),(7,[])],9⟩ (view_nilrd (encI .u64) 0 1 42 ⟨[],[],(0,0)⟩ (sizedI _)) ?_
  exact xR ⟨[],[],(0,0)⟩ trivial
 | some ad=>
  refine cXg 8 xaI Tryz.func46 fun F => ?_
  refine xN fun b1 => ?_
  refine xAf 42 (some ⟨b1,0,none⟩) 0 xs (sizedI .u64) (oneI _) 8 (.slice (some ad) xs.length c) (by omega) (fun F=>src_sl (i:=0) (d:=0) (sz:=1) (t:=42) (by kernel_rfl)) (fun a' c' r => ?_)
  exact xR r trivial
theorem t_cloneR(xs:List Int)(z0:Sx.Rest)(n:Nat)(hn:xs.length=n)(hl:xs.length≤1000000): Ct Tryz.prog 46 (sR [.s (.s 0 n)] [.rd 0 (encI .u64) 0 1 xs 42 z0] 1 [.s (.s 1 n)] fun z=>[.rd 0 (encI .u64) 0 1 xs 42 z0,.rd 1 (encI .u64) 0 1 xs 42 z]):=by
 subst hn
 intro g
 obtain⟨b,a,c,h,rfl⟩:=rf_eta g
 cases a with
 | none=>
  refine ctr_rd_nil ?_
  rintro rfl rfl
  refine cXg 8 xaI Tryz.func46 fun F => ?_
  refine xWr (.i 7) _ ⟨[(0,[]),(7,[])],9⟩ (view_nilrd (encI .u64) 0 1 42 ⟨[],[],(0,0)⟩ (sizedI _)) ?_
  exact xR ⟨[],[],(0,0)⟩ trivial
 | some ad=>
  refine cXg 8 xaI Tryz.func46 fun F => ?_
  refine xN fun b1 => ?_
  refine xAf 42 (some ⟨b1,0,none⟩) 0 xs (sizedI .u64) (oneI _) 8 (.slice (some ad) xs.length c) (by omega) (fun F=>src_rd (i:=0) (d:=0) (sz:=1) (t:=42) (r:=z0) (by kernel_rfl)) (fun a' c' r => ?_)
  exact xR r trivial
end Go.Proofs.YthijdhenekmojaaGreatDoor
/- The model: what stays, and what is looked up. -/
set_option linter.unusedSimpArgs false
set_option maxRecDepth 100000
set_option maxHeartbeats 0
namespace Go.Proofs.YthijdhenekmojaaGreatDoor
open Go.Sx
abbrev mdl2(c:Cfg)(sv:SV)(mt mh:Nat): SE:=.pts 0 (cfgS c++[sv,.mb 1 mt,.mb 2 mh]) 81
abbrev hpR(mh:Nat)(H:HanM)(ps:List PRow): SE:=.rs 2 fun _=>HP 42 mh H ps
structure RP where
 b:Bool
 T:TopM
 ps:List PRow
def fitsB(c:Cfg)(T:TopM)(ke:Int)(n:Int): Bool:=(kget T ke).isSome&&(if ((kget T ke).getD (false,.nil)).1=true then decide (fitsC c n≥0) else decide (n≤c.small))
/-- is something kept? -/
def pubK(c:Cfg)(T:TopM)(ke n co:Int): Bool:=mayB ke&&decide (n≠0)&&decide (co=0)&&fitsB c T ke n
def pubB(c:Cfg)(T:TopM)(ke n co:Int): Bool:=
 if mayB ke=false∨n=0 then co==1 else
 if co=0 then fitsB c T ke n else if co=12 then !(kget T ke).isSome else
 if co=21 then(kget T ke).isSome && !fitsB c T ke n else decide (co=18∨co=16∨co=17)
def pubR(c:Cfg)(T:TopM)(ps:List PRow)(ke:Int)(ws:List Int)(co:Int)(x:RP): Prop:=
 x.b=pubB c T ke ws.length co∧(if pubK c T ke ws.length co=true then ∃q:PRow,q.xs=ws∧x.T=kset T ke (((kget T ke).getD (false,.nil)).1,q)∧x.ps=ps++[q] else x.T=T∧(x.ps=ps∨x.ps=ps++[]))
def PoolOk(T:TopM)(H:HanM)(ps:List PRow): Prop:=(∀x∈T,x.2.2 = .nil∨x.2.2∈ps)∧∀x∈H,x.2 = .nil∨x.2∈ps
theorem kget_mem{κ β : Type}[DecidableEq κ]{l:List (κ×β)}{k : κ}{x : β}(h:kget l k=some x): ∃k',(k',x)∈l:=by
 unfold kget at h
 cases hf:l.find? (fun x=>x.1==k) with
 | none=>rw [hf] at h; cases h
 | some y=>
  rw [hf] at h
  simp only [Option.map_some,Option.some.injEq] at h
  subst h
  exact⟨y.1,List.mem_of_find?_eq_some hf⟩
theorem pool_row{T:TopM}{H:HanM}{ps:List PRow}(h:PoolOk T H ps)(k:Int): ((kget T k).getD (false,.nil)).2 = .nil∨((kget T k).getD (false,.nil)).2∈ps:=by
 cases hk:kget T k with
 | none=>exact .inl rfl
 | some x=>
  obtain⟨k',hm⟩:=kget_mem hk
  exact h.1 _ hm
end Go.Proofs.YthijdhenekmojaaGreatDoor
/- The model: what is created, beside what handles name. -/
set_option maxRecDepth 100000
set_option maxHeartbeats 0
namespace Go.Proofs.YthijdhenekmojaaGreatDoor
open Go.Sx
theorem t_create2(c:Cfg)(hc:c.Ok)(T:TopM)(mt mh:Nat)(sv:Value)(cl ke:Int)(la:Bool)(wo pa rw rk:Value)(ha co n cm fr to_:Int):
  Ct Tryz.prog 13 (⟨[.s (.p 0 0),.g (dS cl 1 ke la (.o wo) ha (.o pa) co (.o rw) (.o rk) n cm fr to_)],[mdl2 c (.o sv) mt mh,topR mt T],3,
   fun x=>x=createM c T ke la co,fun x=>[.s (.bo x.b)],fun x=>[mdl2 c (.o sv) mt mh,topR mt x.T]⟩:Sp RT):=by
 refine cX 148 xaI Tryz.func13 fun g F => ?_
 refine xN fun b1 => ?_
 refine xC Tryz.call31 (t_start (c) (by omega) (ke)) fun xn2 n2 hxn2 => ?_
 refine xB (decide (xn2<0)) (fun h3 => ?_) (fun h3 => ?_)
 ·skip
  replace h3:=decT h3
  exact xR ({b:=co==1,T:=T}) (by have hm:=hxn2.1 (by assumption); simp [createM,hm])
 ·skip
  replace h3:=decF h3
  refine xA ?_ ?_
  ·skip
   refine xMg 1 (mt) (T) (evT) kI (ke) (false,PRow.nil) true ?_
   refine xN fun b4 => ?_
   refine xN fun b5 => ?_
   refine xMl 1 (mt) (T) ekI evT ?_
   refine xB (co==0) (fun h6 => ?_) (fun h6 => ?_)
   ·skip
    replace h6:=decT h6
    refine xB ((kget T ke).isSome) (fun h7 => ?_) (fun h7 => ?_)
    ·skip
     exact xR ({b:=false,T:=T}) (by have hm:=may_of hxn2 (by assumption); simp [createM,hm, *])
    ·skip
     refine xB (↑(List.length T)==c.topics) (fun h8 => ?_) (fun h8 => ?_)
     ·skip
      replace h8:=decT h8
      exact xR ({b:=false,T:=T}) (by have hm:=may_of hxn2 (by assumption); simp [createM,hm, *])
     ·skip
      replace h8:=decF h8
      refine xMs 1 (mt) (T) (evT) kI (ke) (la,PRow.nil) ?_
      exact xR ({b:=true,T:=kset T ke (la,PRow.nil)}) (by have hm:=may_of hxn2 (by assumption); simp [createM,hm, *])
   ·skip
    replace h6:=decF h6
    refine xB (co==14) (fun h9 => ?_) (fun h9 => ?_)
    ·skip
     replace h9:=decT h9
     exact xR ({b:=(kget T ke).isSome,T:=T}) (by have hm:=may_of hxn2 (by assumption); simp [createM,hm, *])
    ·skip
     replace h9:=decF h9
     refine xB (co==15) (fun h10 => ?_) (fun h10 => ?_)
     ·skip
      replace h10:=decT h10
      refine xB (!(kget T ke).isSome) (fun h11 => ?_) (fun h11 => ?_)
      ·skip
       replace h11:=ntT h11
       exact xR ({b := ↑(List.length T)==c.topics,T:=T}) (by have hm:=may_of hxn2 (by assumption); simp [createM,hm, *])
      ·skip
       replace h11:=ntF h11
       exact xR ({b:=false,T:=T}) (by have hm:=may_of hxn2 (by assumption); simp [createM,hm, *])
     ·skip
      replace h10:=decF h10
      exact xR ({b:=co==17,T:=T}) (by have hm:=may_of hxn2 (by assumption); simp [createM,hm, *])
  ·skip
   refine xN fun b12 => ?_
   refine xMg 1 (mt) (T) (evT) kI (ke) (false,PRow.nil) true ?_
   refine xN fun b13 => ?_
   refine xMl 1 (mt) (T) ekI evT ?_
   refine xB (co==0) (fun h14 => ?_) (fun h14 => ?_)
   ·skip
    replace h14:=decT h14
    refine xB ((kget T ke).isSome) (fun h15 => ?_) (fun h15 => ?_)
    ·skip
     exact xR ({b:=false,T:=T}) (by have hm:=may_of hxn2 (by assumption); simp [createM,hm, *])
    ·skip
     refine xB (↑(List.length T)==c.topics) (fun h16 => ?_) (fun h16 => ?_)
     ·skip
      replace h16:=decT h16
      exact xR ({b:=false,T:=T}) (by have hm:=may_of hxn2 (by assumption); simp [createM,hm, *])
     ·skip
      replace h16:=decF h16
      refine xMs 1 (mt) (T) (evT) kI (ke) (la,PRow.nil) ?_
      exact xR ({b:=true,T:=kset T ke (la,PRow.nil)}) (by have hm:=may_of hxn2 (by assumption); simp [createM,hm, *])
   ·skip
    replace h14:=decF h14
    refine xB (co==14) (fun h17 => ?_) (fun h17 => ?_)
    ·skip
     replace h17:=decT h17
     exact xR ({b:=(kget T ke).isSome,T:=T}) (by have hm:=may_of hxn2 (by assumption); simp [createM,hm, *])
    ·skip
     replace h17:=decF h17
     refine xB (co==15) (fun h18 => ?_) (fun h18 => ?_)
     ·skip
      replace h18:=decT h18
      refine xB (!(kget T ke).isSome) (fun h19 => ?_) (fun h19 => ?_)
      ·skip
       replace h19:=ntT h19
       exact xR ({b := ↑(List.length T)==c.topics,T:=T}) (by have hm:=may_of hxn2 (by assumption); simp [createM,hm, *])
      ·skip
       replace h19:=ntF h19
       exact xR ({b:=false,T:=T}) (by have hm:=may_of hxn2 (by assumption); simp [createM,hm, *])
     ·skip
      replace h18:=decF h18
      exact xR ({b:=co==17,T:=T}) (by have hm:=may_of hxn2 (by assumption); simp [createM,hm, *])
end Go.Proofs.YthijdhenekmojaaGreatDoor
/- The model: what is removed. -/
set_option maxRecDepth 100000
set_option maxHeartbeats 0
namespace Go.Proofs.YthijdhenekmojaaGreatDoor
open Go.Sx
def removeM(T:TopM)(ke:Int)(co:Int): RT:=
 if mayB ke=false then⟨co==1,T⟩ else
 if (kget T ke).isSome=true∧co=0 then⟨true,kdel T ke⟩ else
 if (kget T ke).isSome=false∧co=12 then⟨true,T⟩ else⟨co==17,T⟩
theorem t_remove(c:Cfg)(hc:c.Ok)(T:TopM)(mt:Nat)(sv hv:Value)(cl ke:Int)(la:Bool)(wo pa rw rk:Value)(ha co n cm fr to_:Int):
  Ct Tryz.prog 13 (⟨[.s (.p 0 0),.g (dS cl 2 ke la (.o wo) ha (.o pa) co (.o rw) (.o rk) n cm fr to_)],[mdl c (.o sv) (.o hv) mt,topR mt T],2,
   fun x=>x=removeM T ke co,fun x=>[.s (.bo x.b)],fun x=>[mdl c (.o sv) (.o hv) mt,topR mt x.T]⟩:Sp RT):=by
 refine cX 148 xaI Tryz.func13 fun g F => ?_
 refine xN fun b1 => ?_
 refine xC Tryz.call31 (t_start (c) (by omega) (ke)) fun xn2 n2 hxn2 => ?_
 refine xB (decide (xn2<0)) (fun h3 => ?_) (fun h3 => ?_)
 ·skip
  replace h3:=decT h3
  exact xR ({b:=co==1,T:=T}) (by have hm:=hxn2.1 (by assumption); simp [removeM,hm])
 ·skip
  replace h3:=decF h3
  refine xA ?_ ?_
  ·skip
   refine xMg 1 (mt) (T) (evT) kI (ke) (false,PRow.nil) true ?_
   refine xN fun b4 => ?_
   refine xB ((kget T ke).isSome) (fun h5 => ?_) (fun h5 => ?_)
   ·skip
    refine xB (co==0) (fun h6 => ?_) (fun h6 => ?_)
    ·skip
     replace h6:=decT h6
     refine xMd 1 (mt) (T) (evT) kI (ke) ?_
     exact xR ({b:=true,T:=kdel T ke}) (by have hm:=may_of hxn2 (by assumption); simp [removeM,hm, *])
    ·skip
     replace h6:=decF h6
     refine xF (!(kget T ke).isSome) (by have hm:=may_of hxn2 (by assumption); simp [removeM,hm, *]) ?_
     exact xR ({b:=co==17,T:=T}) (by have hm:=may_of hxn2 (by assumption); simp [removeM,hm, *])
   ·skip
    refine xT (!(kget T ke).isSome) (by have hm:=may_of hxn2 (by assumption); simp [removeM,hm, *]) ?_
    refine xB (co==12) (fun h7 => ?_) (fun h7 => ?_)
    ·skip
     replace h7:=decT h7
     exact xR ({b:=true,T:=T}) (by have hm:=may_of hxn2 (by assumption); simp [removeM,hm, *])
    ·skip
     replace h7:=decF h7
     exact xR ({b:=co==17,T:=T}) (by have hm:=may_of hxn2 (by assumption); simp [removeM,hm, *])
  ·skip
   refine xN fun b8 => ?_
   refine xMg 1 (mt) (T) (evT) kI (ke) (false,PRow.nil) true ?_
   refine xB ((kget T ke).isSome) (fun h9 => ?_) (fun h9 => ?_)
   ·skip
    refine xB (co==0) (fun h10 => ?_) (fun h10 => ?_)
    ·skip
     replace h10:=decT h10
     refine xMd 1 (mt) (T) (evT) kI (ke) ?_
     exact xR ({b:=true,T:=kdel T ke}) (by have hm:=may_of hxn2 (by assumption); simp [removeM,hm, *])
    ·skip
     replace h10:=decF h10
     refine xF (!(kget T ke).isSome) (by have hm:=may_of hxn2 (by assumption); simp [removeM,hm, *]) ?_
     exact xR ({b:=co==17,T:=T}) (by have hm:=may_of hxn2 (by assumption); simp [removeM,hm, *])
   ·skip
    refine xT (!(kget T ke).isSome) (by have hm:=may_of hxn2 (by assumption); simp [removeM,hm, *]) ?_
    refine xB (co==12) (fun h11 => ?_) (fun h11 => ?_)
    ·skip
     replace h11:=decT h11
     exact xR ({b:=true,T:=T}) (by have hm:=may_of hxn2 (by assumption); simp [removeM,hm, *])
    ·skip
     replace h11:=decF h11
     exact xR ({b:=co==17,T:=T}) (by have hm:=may_of hxn2 (by assumption); simp [removeM,hm, *])
end Go.Proofs.YthijdhenekmojaaGreatDoor
/- The model: what is read, if it isn't told to be there. -/
set_option linter.unusedSimpArgs false
set_option maxRecDepth 100000
set_option maxHeartbeats 0
namespace Go.Proofs.YthijdhenekmojaaGreatDoor
open Go.Sx
def readN(T:TopM)(ke:Int)(co:Int): Bool:=
 if mayB ke=false then co==1 else
 if co=12 then !(kget T ke).isSome else if co=20 then(kget T ke).isSome&&((((kget T ke).getD (false,.nil)).2.xs.length:Int)==0) else decide (co=19∨co=17)
theorem t_readN(c:Cfg)(hc:c.Ok)(T:TopM)(mt:Nat)(sv hv:Value)(cl ke:Int)(la:Bool)(wo pa rw rk:Value)(ha co n cm fr to_:Int)(hco:co≠0):
  Ct Tryz.prog 13 (⟨[.s (.p 0 0),.g (dS cl 4 ke la (.o wo) ha (.o pa) co (.o rw) (.o rk) n cm fr to_)],[mdl c (.o sv) (.o hv) mt,topR mt T],2,
   fun x=>x=readN T ke co,fun x=>[.s (.bo x)],fun x=>[mdl c (.o sv) (.o hv) mt,topR mt T]⟩:Sp Bool):=by
 refine cX 148 xbI Tryz.func13 fun g F => ?_
 refine xN fun b1 => ?_
 refine xC Tryz.call31 (t_start (c) (by omega) (ke)) fun xn2 n2 hxn2 => ?_
 refine xB (decide (xn2<0)) (fun h3 => ?_) (fun h3 => ?_)
 ·skip
  replace h3:=decT h3
  exact xR (co==1) (by have hm:=hxn2.1 (by assumption); simp [readN,hm])
 ·skip
  replace h3:=decF h3
  refine xA ?_ ?_
  ·skip
   refine xMg 1 (mt) (T) (evT) kI (ke) (false,PRow.nil) true ?_
   refine xN fun b4 => ?_
   refine xN fun b5 => ?_
   refine xN fun b6 => ?_
   refine xF (co==0) (by first | (simp; done) | (simp; omega)) ?_
   refine xB (co==12) (fun h7 => ?_) (fun h7 => ?_)
   ·skip
    replace h7:=decT h7
    exact xR (!(kget T ke).isSome) (by have hm:=may_of hxn2 (by assumption); simp [readN,hm, *])
   ·skip
    replace h7:=decF h7
    refine xB (co==20) (fun h8 => ?_) (fun h8 => ?_)
    ·skip
     replace h8:=decT h8
     refine xB ((kget T ke).isSome) (fun h9 => ?_) (fun h9 => ?_)
     ·skip
      exact xR ((↑((kget T ke).getD (false,PRow.nil)).snd.xs.length:Int)==(0:Int)) (by have hm:=may_of hxn2 (by assumption); simp [readN,hm, *])
     ·skip
      exact xR (false) (by have hm:=may_of hxn2 (by assumption); simp [readN,hm, *])
    ·skip
     replace h8:=decF h8
     refine xB (co==19) (fun h10 => ?_) (fun h10 => ?_)
     ·skip
      replace h10:=decT h10
      exact xR (true) (by have hm:=may_of hxn2 (by assumption); simp [readN,hm, *])
     ·skip
      replace h10:=decF h10
      refine xB (co==17) (fun h11 => ?_) (fun h11 => ?_)
      ·skip
       replace h11:=decT h11
       exact xR (true) (by have hm:=may_of hxn2 (by assumption); simp [readN,hm, *])
      ·skip
       replace h11:=decF h11
       exact xR (false) (by have hm:=may_of hxn2 (by assumption); simp [readN,hm, *])
  ·skip
   refine xN fun b12 => ?_
   refine xMg 1 (mt) (T) (evT) kI (ke) (false,PRow.nil) true ?_
   refine xN fun b13 => ?_
   refine xN fun b14 => ?_
   refine xF (co==0) (by first | (simp; done) | (simp; omega)) ?_
   refine xB (co==12) (fun h15 => ?_) (fun h15 => ?_)
   ·skip
    replace h15:=decT h15
    exact xR (!(kget T ke).isSome) (by have hm:=may_of hxn2 (by assumption); simp [readN,hm, *])
   ·skip
    replace h15:=decF h15
    refine xB (co==20) (fun h16 => ?_) (fun h16 => ?_)
    ·skip
     replace h16:=decT h16
     refine xB ((kget T ke).isSome) (fun h17 => ?_) (fun h17 => ?_)
     ·skip
      exact xR ((↑((kget T ke).getD (false,PRow.nil)).snd.xs.length:Int)==(0:Int)) (by have hm:=may_of hxn2 (by assumption); simp [readN,hm, *])
     ·skip
      exact xR (false) (by have hm:=may_of hxn2 (by assumption); simp [readN,hm, *])
    ·skip
     replace h16:=decF h16
     refine xB (co==19) (fun h18 => ?_) (fun h18 => ?_)
     ·skip
      replace h18:=decT h18
      exact xR (true) (by have hm:=may_of hxn2 (by assumption); simp [readN,hm, *])
     ·skip
      replace h18:=decF h18
      refine xB (co==17) (fun h19 => ?_) (fun h19 => ?_)
      ·skip
       replace h19:=decT h19
       exact xR (true) (by have hm:=may_of hxn2 (by assumption); simp [readN,hm, *])
      ·skip
       replace h19:=decF h19
       exact xR (false) (by have hm:=may_of hxn2 (by assumption); simp [readN,hm, *])
end Go.Proofs.YthijdhenekmojaaGreatDoor
/- The model: a new one; what a topic is. -/
set_option linter.unusedSimpArgs false
set_option maxRecDepth 100000
set_option maxHeartbeats 0
namespace Go.Proofs.YthijdhenekmojaaGreatDoor
open Go.Sx
structure NwT where
 mt:Nat
 mh:Nat
abbrev schA: SE:=.pts 0 [.sp 1 2 2] 85
abbrev schB: SE:=.pts 1 [.l .i64 1,.l .i64 0,.l .i64 3,.l .i64 0] 84
theorem t_new(c:Cfg)(hc:c.Ok): Ct Tryz.prog 8 (⟨[.g (cfgS c),.s (.sp 0 1 1)],[schA,schB],2,fun _=>True,fun _=>[.s (.p 2 0)],fun x=>[schA,schB,.pts 2 (cfgS c++[.sp 0 1 1,.mb 3 x.mt,.mb 4 x.mh]) 81,.rs 3 fun _=>KMap x.mt ekI evT [],.rs 4 fun _=>HP 42 x.mh [] []]⟩:Sp NwT):=by
 refine cX 19 xaI Tryz.func8 fun g F => ?_
 refine xN fun b1 => ?_
 refine xC Tryz.call26 (t_plan (c) (by omega)) fun _ n2 _ => ?_
 refine xF (decide ((↑(1:Nat):Int)<(1:Int))) rfl ?_
 refine xF (decide ((↑(1:Nat):Int)>(8:Int))) rfl ?_
 refine xT (decide ((0:Int)<(↑(1:Nat):Int))) rfl ?_
 refine xF (decide ((↑(2:Nat):Int)<(1:Int))) rfl ?_
 refine xF (decide ((↑(2:Nat):Int)>(6:Int))) rfl ?_
 refine xT (decide ((0:Int)<(↑(2:Nat):Int))) rfl ?_
 refine xN fun b3 => ?_
 refine xF (decide ((0:Int)≥(↑(1:Nat):Int))) rfl ?_
 refine xT (decide (IntKind.i64.wrap ((0:Int)+(1:Int))<(↑(2:Nat):Int))) rfl ?_
 refine xN fun b4 => ?_
 refine xF (decide ((0:Int)≥(↑(1:Nat):Int))) rfl ?_
 refine xF (decide (IntKind.i64.wrap (IntKind.i64.wrap ((0:Int)+(1:Int))+(1:Int))<(↑(2:Nat):Int))) rfl ?_
 refine xF (decide (IntKind.i64.wrap ((0:Int)+(1:Int))<(↑(1:Nat):Int))) rfl ?_
 refine xN fun b5 => ?_
 refine xN fun b6 => ?_
 refine xN fun b7 => ?_
 refine xEndL [5,6] [.raw b5 (.map #[] 0),.raw b6 (.map #[] 0)] [.res (KMap b5 ekI evT []),.res (HP 42 b6 [] [])] [66,67] pv_new ?_
 exact xR ({mt:=b5,mh:=b6}) (by assumption)
end Go.Proofs.YthijdhenekmojaaGreatDoor
/- Model: is a row of ops linear? -/
set_option linter.unusedSimpArgs false
set_option maxRecDepth 100000
set_option maxHeartbeats 0
namespace Go.Proofs.YthijdhenekmojaaGreatDoor
open Go.Sx
def stepM(c:Cfg)(T:TopM)(x:DnR): RT:=if x.ki=1 then createM c T x.ke false x.co else if x.ki=2 then removeM T x.ke x.co else⟨readN T x.ke x.co,T⟩
def runM(c:Cfg): TopM→List DnR→Bool
 | _,[]=>true
 | T,x :: r=>(stepM c T x).b&&runM c (stepM c T x).T r
abbrev KiOk(x:DnR): Prop:=x.ki=1∨x.ki=2∨(x.ki=4∧¬x.co=0)
theorem t_doD(c:Cfg)(hc:c.Ok)(T:TopM)(mt mh:Nat)(sv:Value)(x:DnR)(hx:KiOk x):
  Ct Tryz.prog 13 (⟨[.s (.p 0 0),.g (dnG x)],[mdl2 c (.o sv) mt mh,topR mt T],3,fun r=>r=stepM c T x,fun r=>[.s (.bo r.b)],fun r=>[mdl2 c (.o sv) mt mh,topR mt r.T]⟩:Sp RT):=by
 obtain⟨ki,ke,co,cm,fr,to_⟩:=x
 simp only [KiOk] at hx
 rcases hx with rfl | rfl | ⟨rfl,hco⟩
 ·exact t_create2 c hc T mt mh sv 0 ke false (.slice none 0 0) (.slice none 0 0) (.slice none 0 0) (.slice none 0 0) 0 co 0 cm fr to_
 ·intro g F w hi
  refine(t_remove c hc T mt sv (.map (some mh)) 0 ke false (.slice none 0 0) (.slice none 0 0) (.slice none 0 0) (.slice none 0 0) 0 co 0 cm fr to_ g F w hi).mono ?_
  rintro e w' ⟨v,L',he,⟨x,ν,hx,rfl,rfl⟩,hin⟩
  exact⟨_,_,he,⟨x,ν,hx,rfl,rfl⟩,hin⟩
 ·intro g F w hi
  refine(t_readN c hc T mt sv (.map (some mh)) 0 ke false (.slice none 0 0) (.slice none 0 0) (.slice none 0 0) (.slice none 0 0) 0 co 0 cm fr to_ hco g F w hi).mono ?_
  rintro e w' ⟨v,L',he,⟨x,ν,hx,rfl,rfl⟩,hin⟩
  have hx:x=readN T ke co:=hx
  subst hx
  exact⟨_,_,he,⟨⟨readN T ke co,T⟩,ν,rfl,rfl,rfl⟩,hin⟩
theorem run_no{c:Cfg}{T T0:TopM}{zs:List DnR}{i:Nat}(h:i<zs.length)(hr:runM c T0 zs=runM c T (zs.drop i))(hb:(stepM c T (zs.getD i dnN)).b=false): false=runM c T0 zs:=by
 rw [hr,List.drop_eq_getElem_cons h]
 have e:zs[i]=zs.getD i dnN:=by simp [h]
 rw [e]
 simp only [runM]
 rw [hb]
 rfl
theorem run_yes{c:Cfg}{T T0:TopM}{zs:List DnR}{i:Nat}(h:i<zs.length)(hr:runM c T0 zs=runM c T (zs.drop i))(hb:¬(stepM c T (zs.getD i dnN)).b=false): runM c T0 zs=runM c (stepM c T (zs.getD i dnN)).T (zs.drop (i+1)):=by
 rw [hr,List.drop_eq_getElem_cons h]
 have e:zs[i]=zs.getD i dnN:=by simp [h]
 rw [e]
 simp only [runM]
 cases hq:(stepM c T (zs.getD i dnN)).b with
 | true=>simp
 | false=>exact absurd hq hb
theorem run_end{c:Cfg}{T T0:TopM}{zs:List DnR}{i:Nat}(h:¬i<zs.length)(hr:runM c T0 zs=runM c T (zs.drop i)): true=runM c T0 zs:=by
 rw [hr,List.drop_eq_nil_of_le (by omega)]
 rfl
structure RnS where
 i:Nat
 T:TopM
abbrev lnS(c:Cfg)(n:Nat)(xs:List DnR)(b:Bool): Sp Bool:=
 ⟨[.g (cfgS c),.s (.sp 0 1 1),.s (.s 2 n)],[schA,schB,.sl 2 encD dnN 14 xs 46],3,fun x=>x=b,fun x=>[.s (.bo x)],fun _=>[.sl 2 encD dnN 14 xs 46]⟩
def xnC: Cx:=⟨[],[],[],[]⟩
theorem xnI: Inl Tryz.prog xnC:=inl_ok trivial trivial
theorem t_linOk(c:Cfg)(hc:c.Ok)(n:Nat)(xs zs:List DnR)(hl:xs.length=n)(hn:n≤31)(hp:∀i,i<n→¬(xs.getD i dnN).ki=6∧¬(xs.getD i dnN).ki=7∧(xs.getD i dnN).cm>0)
  (hq:∀i,i<n→¬(xs.getD i dnN).cm=0∧¬(xs.getD i dnN).cm≤(xs.getD i dnN).fr∧¬(xs.getD i dnN).cm>(xs.getD i dnN).to_) (hz:SrtTo xs zs) (hk:∀i,i<n→KiOk (zs.getD i dnN)) :
  Ct Tryz.prog 25 (lnS c n xs (runM c [] zs)):=by
 subst hl
 have hzl:=srt_len hz
 refine cX 63 xnI Tryz.func25 fun g F => ?_
 refine xN fun b1 => ?_
 refine xCy [⟨(g 0).b,none,0⟩,⟨(g 1).b,none,0⟩] [0,1] (Tg.i 4) ⟨[(2,[]),(3,(List.replicate 9 .n)),(0,[.i 1]),(1,[.c,.c,.c,.c]),(4,[.n,.n,.n,.n,.n,.n,.n,.n,.n,.i 0,.i 5,.i 6]),(5,[]),(6,[])],44⟩ Tryz.call8 (fun F' h=>(t_new (c) hc).fr) fun xn2 n2 hxn2 => ?_
 refine xW0 _ (view_idx [0,4,5] (by kernel_rfl)) (xLoop xnI Tryz.func25 [0,1,0,1,1] [.b 0,.c [1,1,1]] [2,7,16,17,18] [0,1,2] (fun i:Nat=>[(2,.slice (g 2).a xs.length (g 2).c),(7,.pointer (some ⟨(n2 2).b,0,none⟩)),(16,.slice (g 2).a xs.length (g 2).c),(17,.int .i64 xs.length),(18,.int .i64 i)]) (fun _=>[(2,.i 2),(7,.i 4),(16,.i 2)]) (fun _=>[.sl (g 2).a (g 2).c encD dnN 14 xs 46,SE.e (fun _=>⟨(n2 2).b,none,0⟩) (mdl2 c (.o (.slice (some ⟨(g 0).b,0,none⟩) 1 1)) xn2.mt xn2.mh),.res (KMap xn2.mt ekI evT [])]) (fun _=>⟨[(2,[]),(4,[.n,.n,.n,.n,.n,.n,.n,.n,.n,.n,.i 5,.n]),(5,[])],10⟩) (fun i=>i≤xs.length) (fun i=>xs.length-i) 0 (Nat.zero_le _) (fun s J hI hJ => ?_)) sc_st
 refine xB (decide ((↑s:Int)<(↑xs.length:Int))) (fun h3 => ?_) (fun h3 => ?_)
 ·skip
  replace h3:=decT h3
  refine xO (xs.length≤xs.length∧(0:Int)≤(↑s:Int)∧(↑s:Int)<(↑xs.length:Int)) (by omega) ?_
  refine xO ((↑s:Int).toNat<xs.length) (by omega) ?_
  refine xN fun b4 => ?_
  refine xF ((xs.getD (↑s:Int).toNat dnN).cm==(0:Int)) (beq_eq_false_iff_ne.2 (hq _ (by omega)).1) ?_
  refine xT ((xs.getD (↑s:Int).toNat dnN).cm != (0:Int)) (bne_iff_ne.2 (hq _ (by omega)).1) ?_
  refine xF (decide ((xs.getD (↑s:Int).toNat dnN).cm≤(xs.getD (↑s:Int).toNat dnN).fr)) (decide_eq_false (hq _ (by omega)).2.1) ?_
  refine xF (decide ((xs.getD (↑s:Int).toNat dnN).cm>(xs.getD (↑s:Int).toNat dnN).to_)) (decide_eq_false (hq _ (by omega)).2.2) ?_
  refine xO (InK IntKind.i64 (↑s+1)) (by simp only [InK] at *; omega) ?_
  exact xJ hJ (s+1) (by show xs.length-(s+1)<xs.length-s; omega) (by show s+1≤xs.length; omega)
 ·skip
  replace h3:=decF h3
  refine xCy [⟨0,(g 2).a,(g 2).c⟩] [0] (Tg.i 11) ⟨[(4,[.n,.n,.n,.n,.n,.n,.n,.n,.n,.n,.i 5,.n]),(5,[]),(2,[]),(11,[])],51⟩ Tryz.call22 (fun F' h=>(t_order (xs.length) (xs) _ (by omega) (by omega) hp hz).fr) fun xn6 n6 hxn6 => ?_
  subst hxn6
  refine xW0 _ (view_idx [2,3,0,1] (by kernel_rfl)) (xLoop xnI Tryz.func25 [0,1,0,1,1,1] [.b 2,.c [1,1,1,1]] [7,50,51,52] [0,1,2,3] (fun t:RnS=>[(7,.pointer (some ⟨(n2 2).b,0,none⟩)),(50,.slice (n6 1).a xn6.length (n6 1).c),(51,.int .i64 xn6.length),(52,.int .i64 t.i)]) (fun _=>[(7,.i 4),(50,.i 6)]) (fun t=>[.sl (g 2).a (g 2).c encD dnN 14 xs 46,.sl (n6 1).a (n6 1).c encD dnN 14 xn6 46,SE.e (fun _=>⟨(n2 2).b,none,0⟩) (mdl2 c (.o (.slice (some ⟨(g 0).b,0,none⟩) 1 1)) xn2.mt xn2.mh),.res (KMap xn2.mt ekI evT t.T)]) (fun _=>⟨[(2,[]),(6,[]),(4,[.n,.n,.n,.n,.n,.n,.n,.n,.n,.n,.i 5,.n]),(5,[])],10⟩) (fun t=>t.i≤xn6.length∧runM c [] xn6=runM c t.T (xn6.drop t.i)) (fun t=>xn6.length-t.i) ⟨0,[]⟩ ⟨Nat.zero_le _,rfl⟩ (fun t J2 hI2 hJ2 => ?_)) sc_st
  refine xB (decide ((↑t.i:Int)<(↑xn6.length:Int))) (fun h7 => ?_) (fun h7 => ?_)
  ·skip
   replace h7:=decT h7
   refine xO (xn6.length≤xn6.length∧(0:Int)≤(↑t.i:Int)∧(↑t.i:Int)<(↑xn6.length:Int)) (by omega) ?_
   refine xO ((↑t.i:Int).toNat<xn6.length) (by omega) ?_
   refine xN fun b8 => ?_
   refine xCy [⟨(n2 2).b,none,0⟩,⟨0,none,0⟩,⟨0,none,0⟩] [2,3] (Tg.n) ⟨[(2,[]),(6,[]),(12,(List.replicate 14 .n)),(4,[.n,.n,.n,.n,.n,.n,.n,.n,.n,.n,.i 5,.i 999999]),(5,[])],54⟩ Tryz.call13 (fun F' h=>(t_doD (c) hc (t.2) (xn2.mt) (xn2.mh) (Value.slice (some {block:=(g 0).b,off:=0}) 1 1) (xn6.getD (↑t.i:Int).toNat dnN) (hk _ (by omega))).fr) fun xn11 n11 hxn11 => ?_
   subst hxn11
   refine xB (!(stepM c t.T (xn6.getD (↑t.i:Int).toNat dnN)).b) (fun h12 => ?_) (fun h12 => ?_)
   ·skip
    replace h12:=ntT h12
    exact xR (false) (run_no (by omega) hI2.2 (by assumption))
   ·skip
    replace h12:=ntF h12
    refine xO (InK IntKind.i64 (↑t.i+1)) (by simp only [InK] at *; omega) ?_
    refine xW0 _ (view_idx [0,1,3,4] (by kernel_rfl)) (xJ hJ2 ⟨t.i+1,(stepM c t.T (xn6.getD t.i dnN)).T⟩ (by show xn6.length-(t.i+1)<xn6.length-t.i; omega) ⟨by show t.i+1≤xn6.length; omega,run_yes (by omega) hI2.2 (by simpa using (by assumption))⟩) sc_st
  ·skip
   replace h7:=decF h7
   exact xR (true) (run_end (by omega) hI2.2)
end Go.Proofs.YthijdhenekmojaaGreatDoor
/- ModelOne: is a number in a row; a row without a number; an op that is told too late. -/
set_option linter.unusedSimpArgs false
set_option maxRecDepth 100000
set_option maxHeartbeats 0
namespace Go.Proofs.YthijdhenekmojaaGreatDoor
open Go.Sx
theorem has_no{th:List Int}{i:Nat}{k:Int}(hI:∀x∈th.take i,¬x=k)(h:i<th.length)(hk:¬th.getD i 0=k): ∀x∈th.take (i+1),¬x=k:=by
 have e:th[i]? = some (th.getD i 0):=by simp [h]
 intro x hx
 rw [List.take_add_one,e] at hx
 rcases List.mem_append.1 hx with hx | hx
 ·exact hI x hx
 ·have:x=th.getD i 0:=by simpa using hx
  rw [this]; exact hk
theorem has_yes{th:List Int}{i:Nat}{k:Int}(h:i<th.length)(hk:th.getD i 0=k): true=decide (k∈th):=by
 have e:th.getD i 0=th[i]:=by simp [h]
 rw [eq_comm,decide_eq_true_iff,←hk,e]
 exact List.getElem_mem h
theorem has_end{th:List Int}{i:Nat}{k:Int}(hI:∀x∈th.take i,¬x=k)(h:¬i<th.length): false=decide (k∈th):=by
 rw [List.take_of_length_le (by omega)] at hI
 rw [eq_comm,decide_eq_false_iff_not]
 exact fun hm=>hI k hm rfl
theorem t_has(th:List Int)(n:Nat)(hn:th.length=n)(k:Int)(hl:n≤1000): Ct Tryz.prog 23 (⟨[.s (.s 0 n),.s (.i .i64 k)],[.sl 0 (Go.Sx.encI .i64) 0 1 th 3],1,fun b=>b=decide (k∈th),fun b=>[.s (.bo b)],fun _=>[.sl 0 (Go.Sx.encI .i64) 0 1 th 3]⟩:Sp Bool):=by
 subst hn
 refine cX 18 xnI Tryz.func23 fun g F => ?_
 refine xLoop xnI Tryz.func23 [0,1,0,1] [.b 0,.c [1,1]] [0,1,5] [0] (fun i:Nat=>[(0,.slice (g 0).a th.length (g 0).c),(1,.int .i64 k),(5,.int .i64 i)]) (fun _=>[(0,.i 0)]) (fun _=>[.sl (g 0).a (g 0).c (Go.Sx.encI .i64) 0 1 th 3]) (fun _=>⟨[(0,[])],1⟩) (fun i=>i≤th.length∧∀x∈th.take i,¬x=k) (fun i=>th.length-i) 0 ⟨Nat.zero_le _,by simp⟩ (fun s J hI hJ => ?_)
 refine xB (decide ((↑s:Int)<(↑th.length:Int))) (fun h1 => ?_) (fun h1 => ?_)
 ·skip
  replace h1:=decT h1
  refine xO (th.length≤th.length∧(0:Int)≤(↑s:Int)∧(↑s:Int)<(↑th.length:Int)) (by omega) ?_
  refine xO ((↑s:Int).toNat<th.length) (by omega) ?_
  refine xB (th.getD s 0==k) (fun h2 => ?_) (fun h2 => ?_)
  ·skip
   replace h2:=decT h2
   exact xR (true) (has_yes (i:=s) (by omega) (by assumption))
  ·skip
   replace h2:=decF h2
   refine xO (InK IntKind.i64 (↑s+1)) (by simp only [InK] at *; omega) ?_
   exact xJ hJ (s+1) (by show th.length-(s+1)<th.length-s; omega) ⟨by show s+1≤th.length; omega,has_no hI.2 (by omega) (by assumption)⟩
 ·skip
  replace h1:=decF h1
  exact xR (false) (has_end hI.2 (by omega))
structure WoS where
 i:Nat
 ys:List Int
 a:Option Addr
 c:Nat
abbrev WoI(th:List Int)(k:Int)(s:WoS): Prop:=s.i≤th.length∧s.ys=(th.take s.i).filter (fun y => !(y==k))∧s.ys.length≤s.i
theorem wo_take{th:List Int}{i:Nat}(h:i<th.length): th.take (i+1)=th.take i++[th.getD i 0]:=by
 have e:th[i]? = some (th.getD i 0):=by simp [h]
 rw [List.take_add_one,e]; rfl
theorem wo_add{th:List Int}{k:Int}{s:WoS}{a:Option Addr}{c:Nat}(hI:WoI th k s)(h:s.i<th.length)(hk:¬th.getD s.i 0=k): WoI th k ⟨s.i+1,s.ys++[th.getD s.i 0],a,c⟩:=by
 refine⟨h, ?_,by show(s.ys++[th.getD s.i 0]).length≤s.i+1; simp; exact hI.2.2⟩
 show s.ys++[th.getD s.i 0]=(th.take (s.i+1)).filter _
 rw [wo_take h,List.filter_append,←hI.2.1]
 congr 1
 have:(!(th.getD s.i 0==k))=true:=by rw [beq_eq_false_iff_ne.2 hk]; rfl
 rw [List.filter_cons_of_pos (p:=fun y => !(y==k)) this]
 rfl
theorem wo_not{th:List Int}{k:Int}{s:WoS}(hI:WoI th k s)(h:s.i<th.length)(hk:th.getD s.i 0=k): WoI th k ⟨s.i+1,s.ys,s.a,s.c⟩:=by
 refine⟨h, ?_,by show s.ys.length≤s.i+1; have:=hI.2.2; omega⟩
 show s.ys=(th.take (s.i+1)).filter _
 rw [wo_take h,List.filter_append,←hI.2.1]
 have:¬(!(th.getD s.i 0==k))=true:=by rw [beq_iff_eq.2 hk]; simp
 rw [List.filter_cons_of_neg (p:=fun y => !(y==k)) this]
 simp
theorem wo_end{th:List Int}{k:Int}{s:WoS}(hI:WoI th k s)(h:¬s.i<th.length): s.ys=th.filter (fun y => !(y==k)):=by
 rw [hI.2.1,List.take_of_length_le (by omega)]
theorem t_without(th:List Int)(n:Nat)(hn:th.length=n)(k:Int)(hl:n≤1000): Ct Tryz.prog 24 (⟨[.s (.s 0 n),.s (.i .i64 k)],[.sl 0 (Go.Sx.encI .i64) 0 1 th 3],1,fun x=>x=th.filter (fun y => !(y==k)),fun x=>[.s (.s 1 x.length)],fun x=>[.sl 1 (Go.Sx.encI .i64) 0 1 x 3]⟩:Sp (List Int)):=by
 subst hn
 refine cX 27 xnI Tryz.func24 fun g F => ?_
 refine xW0 _ (view_nil (Go.Sx.encI .i64) 0 1 3 (sizedI _)) (xLoop xnI Tryz.func24 [0,1,0,1,1] [.b 0,.c [1,1,1]] [0,1,5,6] [0,1] (fun s:WoS=>[(0,.slice (g 0).a th.length (g 0).c),(1,.int .i64 k),(5,.slice s.a s.ys.length s.c),(6,.int .i64 s.i)]) (fun _=>[(0,.i 0),(5,.i 1)]) (fun s=>[.sl (g 0).a (g 0).c (Go.Sx.encI .i64) 0 1 th 3,.sl s.a s.c (Go.Sx.encI .i64) 0 1 s.ys 3]) (fun _=>⟨[(0,[]),(1,[])],2⟩) (WoI th k) (fun s=>th.length-s.i) ⟨0,[],none,0⟩ ⟨Nat.zero_le _,rfl,Nat.le_refl _⟩ (fun s J hI hJ => ?_)) sc_st
 refine xB (decide ((↑s.i:Int)<(↑th.length:Int))) (fun h1 => ?_) (fun h1 => ?_)
 ·skip
  replace h1:=decT h1
  refine xO (th.length≤th.length∧(0:Int)≤(↑s.i:Int)∧(↑s.i:Int)<(↑th.length:Int)) (by omega) ?_
  refine xO ((↑s.i:Int).toNat<th.length) (by omega) ?_
  refine xB (th.getD s.i 0 != k) (fun h2 => ?_) (fun h2 => ?_)
  ·skip
   replace h2:=ntT h2
   replace h2:=decF h2
   refine xO (th.length≤th.length∧(0:Int)≤(↑s.i:Int)∧(↑s.i:Int)<(↑th.length:Int)) (by omega) ?_
   refine xO ((↑s.i:Int).toNat<th.length) (by omega) ?_
   refine xN fun b3 => ?_
   refine xAp 1 (s.a) (s.c) (encI .i64) 0 1 (s.ys) 3 [th.getD (↑s.i:Int).toNat (0:Int)] (.i 1) (oneI _) 8 (.slice (some ⟨b3,0,none⟩) 1 1) (by first | (simp; done) | (simp; omega)) (fun F=>(src_pts (i:=2) (n:=1) (c:=1) (cs:=cellsOf (encI .i64) [th.getD (↑s.i:Int).toNat (0:Int)]) (t:=3) (by kernel_rfl))) (fun a1_ c1_ => ?_)
   refine xO (InK IntKind.i64 (↑s.i+1)) (by simp only [InK] at *; omega) ?_
   first | exact xJ hJ ⟨s.i+1,s.ys++[th.getD s.i 0],a1_,c1_⟩ (by show th.length-(s.i+1)<th.length-s.i; omega) (wo_add hI (by omega) (by assumption)) | exact xJ hJ ⟨s.i+1,s.ys,s.a,s.c⟩ (by show th.length-(s.i+1)<th.length-s.i; omega) (wo_not hI (by omega) (by assumption))
  ·skip
   replace h2:=ntF h2
   replace h2:=decT h2
   refine xO (InK IntKind.i64 (↑s.i+1)) (by simp only [InK] at *; omega) ?_
   first | exact xJ hJ ⟨s.i+1,s.ys++[th.getD s.i 0],a1_,c1_⟩ (by show th.length-(s.i+1)<th.length-s.i; omega) (wo_add hI (by omega) (by assumption)) | exact xJ hJ ⟨s.i+1,s.ys,s.a,s.c⟩ (by show th.length-(s.i+1)<th.length-s.i; omega) (wo_not hI (by omega) (by assumption))
 ·skip
  replace h1:=decF h1
  exact xR (s.ys) (wo_end hI (by omega))
theorem t_linBad(c:Cfg)(hc:c.Ok)(n:Nat)(xs:List DnR)(hl:xs.length=n)(h1:1≤n)(hn:n≤31)(hq:¬(xs.getD 0 dnN).cm=0∧¬(xs.getD 0 dnN).cm≤(xs.getD 0 dnN).fr∧(xs.getD 0 dnN).cm>(xs.getD 0 dnN).to_):
  Ct Tryz.prog 25 (lnS c n xs false):=by
 subst hl
 refine cX 63 xnI Tryz.func25 fun g F => ?_
 refine xN fun b1 => ?_
 refine xCy [⟨(g 0).b,none,0⟩,⟨(g 1).b,none,0⟩] [0,1] (Tg.i 4) ⟨[(2,[]),(3,(List.replicate 9 .n)),(0,[.i 1]),(1,[.c,.c,.c,.c]),(4,[.n,.n,.n,.n,.n,.n,.n,.n,.n,.i 0,.i 5,.i 6]),(5,[]),(6,[])],44⟩ Tryz.call8 (fun F' h=>(t_new (c) hc).fr) fun xn2 n2 hxn2 => ?_
 refine xLoop xnI Tryz.func25 [0,1,0,1,1] [.b 0,.c [1,1,1]] [16,17,18] [0] (fun _:Unit=>[(16,.slice (g 2).a xs.length (g 2).c),(17,.int .i64 xs.length),(18,.int .i64 0)]) (fun _=>[(16,.i 2)]) (fun _=>[.sl (g 2).a (g 2).c encD dnN 14 xs 46]) (fun _=>⟨[(2,[])],10⟩) (fun _=>True) (fun _=>0) () trivial (fun s J hI hJ => ?_)
 refine xT (decide ((0:Int)<(↑xs.length:Int))) (decide_eq_true (by omega)) ?_
 refine xO (xs.length≤xs.length∧(0:Int)≤(0:Int)∧(0:Int)<(↑xs.length:Int)) (by omega) ?_
 refine xO (Int.toNat 0<xs.length) (by omega) ?_
 refine xN fun b3 => ?_
 refine xF ((xs.getD (Int.toNat 0) dnN).cm==0) (beq_eq_false_iff_ne.2 hq.1) ?_
 refine xT ((xs.getD (Int.toNat 0) dnN).cm != 0) (bne_iff_ne.2 hq.1) ?_
 refine xF (decide ((xs.getD (Int.toNat 0) dnN).cm≤(xs.getD (Int.toNat 0) dnN).fr)) (decide_eq_false hq.2.1) ?_
 refine xT (decide ((xs.getD (Int.toNat 0) dnN).cm>(xs.getD (Int.toNat 0) dnN).to_)) (decide_eq_true hq.2.2) ?_
 exact xR (false) rfl
end Go.Proofs.YthijdhenekmojaaGreatDoor
/- ModelOne: one after the other, all is right (plain). -/
set_option linter.unusedSimpArgs false
namespace Go.Proofs.YthijdhenekmojaaGreatDoor
open Go.Sx
section
variable {κ β : Type} [DecidableEq κ]
theorem og_cons(x : κ×β)(l:List (κ×β))(k : κ): kget (x :: l) k=if x.1=k then some x.2 else kget l k:=by
 unfold kget
 rw [List.find?_cons]
 by_cases h:x.1=k
 ·rw [if_pos h,beq_iff_eq.2 h]; rfl
 ·rw [if_neg h,beq_eq_false_iff_ne.2 h]
theorem og_some(l:List (κ×β))(k : κ): (kget l k).isSome=decide (k∈l.map (·.1)):=by
 induction l with
 | nil=>rfl
 | cons x l ih=>
  rw [og_cons]
  by_cases h:x.1=k
  ·simp [h]
  ·simp [h,ih,Ne.symm h]
theorem os_none{l:List (κ×β)}{k : κ}(h:k∉l.map (·.1))(v : β): kset l k v=l++[(k,v)]:=by
 unfold kset
 have:l.findIdx? (fun x=>x.1==k)=none:=by
  rw [List.findIdx?_eq_none_iff]
  intro x hx
  exact beq_eq_false_iff_ne.2 fun e=>h (e▸List.mem_map_of_mem (f:=(·.1)) hx)
 rw [this]
theorem od_cons(x : κ×β)(l:List (κ×β))(k : κ): kdel (x :: l) k=if x.1=k then l else x :: kdel l k:=by
 unfold kdel
 rw [List.findIdx?_cons]
 by_cases h:x.1=k
 ·simp [h]
 ·rw [beq_eq_false_iff_ne.2 h]
  simp only [h,if_false,Bool.false_eq_true]
  cases l.findIdx? (fun x=>x.1==k) <;> simp
theorem od_map{l:List (κ×β)}(hn:(l.map (·.1)).Nodup)(k : κ): (kdel l k).map (·.1)=(l.map (·.1)).filter (fun y => !(y==k)):=by
 induction l with
 | nil=>rfl
 | cons x l ih=>
  rw [List.map_cons,List.nodup_cons] at hn
  rw [od_cons,List.map_cons]
  by_cases h:x.1=k
  ·have e:¬(fun y => !(y==k)) x.1=true:=by simp [h]
   rw [if_pos h,List.filter_cons_of_neg (p:=fun y => !(y==k)) e]
   symm
   rw [List.filter_eq_self]
   intro y hy
   have:y≠k:=fun e=>hn.1 (h▸e▸hy)
   simp [this]
  ·have e:(fun y => !(y==k)) x.1=true:=by simp [h]
   rw [if_neg h,List.filter_cons_of_pos (p:=fun y => !(y==k)) e,List.map_cons,ih hn.2]
end
structure LinI (c:Cfg) (th:List Int) (l:List DnR):Prop where
 run:∃T:TopM,(∀zs,runM c [] (l++zs)=runM c T zs)∧T.map (·.1)=th
 nd:th.Nodup
 rg:∀x∈th,1≤x∧x≤5
 ln:(th.length:Int)≤c.topics
 el:∀p:Nat,p<l.length→(l.getD p dnN).cm=2*(p:Int)+1∧(l.getD p dnN).fr=2*(p:Int)∧(l.getD p dnN).to_ = 2*(p:Int)+2∧((l.getD p dnN).ki=1∨(l.getD p dnN).ki=2)
theorem lin_0(c:Cfg)(hc:c.Ok): LinI c [] []:=by
 simp only [Cfg.Ok] at hc
 exact⟨⟨[],fun _=>rfl,rfl⟩,by simp,fun _ h=>(by cases h),by simp; omega,fun p h=>(by simp at h)⟩
theorem lin_add{c:Cfg}{th:List Int}{l:List DnR}(h:LinI c th l){x:DnR}{th':List Int}(hx:x.cm=2*(l.length:Int)+1∧x.fr=2*(l.length:Int)∧x.to_ = 2*(l.length:Int)+2∧(x.ki=1∨x.ki=2))
  (hs:∀T:TopM,T.map (·.1)=th→(stepM c T x).b=true∧(stepM c T x).T.map (·.1)=th') (hn:th'.Nodup) (hr:∀y∈th',1≤y∧y≤5) (hl:(th'.length:Int)≤c.topics):LinI c th' (l++[x]):=by
 obtain⟨T,hT,hm⟩:=h.run
 obtain⟨h1,h2⟩:=hs T hm
 refine⟨⟨(stepM c T x).T,fun zs => ?_,h2⟩,hn,hr,hl,fun p hp => ?_⟩
 ·rw [List.append_assoc,hT]
  show((stepM c T x).b && _) = _
  rw [h1]; rfl
 ·by_cases hq:p<l.length
  ·have e:(l++[x]).getD p dnN=l.getD p dnN:=by simp [hq,List.getElem?_append_left]
   rw [e]
   exact h.el p hq
  ·have hp':p=l.length:=by simp at hp; omega
   subst hp'
   have e:(l++[x]).getD l.length dnN=x:=by simp
   rw [e]
   exact hx
theorem may_ok{k:Int}(h:1≤k∧k≤5): ¬mayB k=false:=by
 unfold mayB
 simp
 omega
section
variable {c:Cfg} {th:List Int} {l:List DnR} {k:Int}
theorem lin_rem(h:LinI c th l)(hk:1≤k∧k≤5)(hi:k∈th){x:DnR}(hx:x.cm=2*(l.length:Int)+1∧x.fr=2*(l.length:Int)∧x.to_ = 2*(l.length:Int)+2)(e:x.ki=2∧x.ke=k∧x.co=0): LinI c (th.filter (fun y => !(y==k))) (l++[x]):=by
 refine lin_add h ⟨hx.1,hx.2.1,hx.2.2,.inr e.1⟩ (fun T hT => ?_) (h.nd.filter _) (fun y hy=>h.rg y (List.mem_filter.1 hy).1) ?_
 ·unfold stepM
  rw [if_neg (by rw [e.1]; omega),if_pos e.1,e.2.1,e.2.2]
  unfold removeM
  have hs:(kget T k).isSome=true:=by rw [og_some,hT]; exact decide_eq_true hi
  rw [if_neg (may_ok hk),if_pos ⟨hs,rfl⟩]
  refine⟨rfl, ?_⟩
  show(kdel T k).map (·.1) = _
  rw [od_map (by rw [hT]; exact h.nd),hT]
 ·have:=List.length_filter_le (fun y => !(y==k)) th
  have:=h.ln
  omega
theorem lin_same(h:LinI c th l){x:DnR}(hx:x.cm=2*(l.length:Int)+1∧x.fr=2*(l.length:Int)∧x.to_ = 2*(l.length:Int)+2∧(x.ki=1∨x.ki=2))(hs:∀T:TopM,T.map (·.1)=th→stepM c T x=⟨true,T⟩): LinI c th (l++[x]):=by
 refine lin_add h hx (fun T hT => ?_) h.nd h.rg h.ln
 rw [hs T hT]
 exact⟨rfl,hT⟩
theorem lin_remN(h:LinI c th l)(hk:1≤k∧k≤5)(hi:¬k∈th){x:DnR}(hx:x.cm=2*(l.length:Int)+1∧x.fr=2*(l.length:Int)∧x.to_ = 2*(l.length:Int)+2)(e:x.ki=2∧x.ke=k∧x.co=12): LinI c th (l++[x]):=by
 refine lin_same h ⟨hx.1,hx.2.1,hx.2.2,.inr e.1⟩ (fun T hT => ?_)
 unfold stepM
 rw [if_neg (by rw [e.1]; omega),if_pos e.1,e.2.1,e.2.2]
 unfold removeM
 have hs:(kget T k).isSome=false:=by rw [og_some,hT]; exact decide_eq_false hi
 rw [if_neg (may_ok hk),if_neg (by rw [hs]; simp),if_pos ⟨hs,rfl⟩]
theorem lin_there(h:LinI c th l)(hk:1≤k∧k≤5)(hi:k∈th){x:DnR}(hx:x.cm=2*(l.length:Int)+1∧x.fr=2*(l.length:Int)∧x.to_ = 2*(l.length:Int)+2)(e:x.ki=1∧x.ke=k∧x.co=14): LinI c th (l++[x]):=by
 refine lin_same h ⟨hx.1,hx.2.1,hx.2.2,.inl e.1⟩ (fun T hT => ?_)
 unfold stepM
 rw [if_pos e.1,e.2.1,e.2.2]
 unfold createM
 have hs:(kget T k).isSome=true:=by rw [og_some,hT]; exact decide_eq_true hi
 rw [if_neg (may_ok hk),if_neg (by omega),if_pos rfl,hs]
theorem lin_full(h:LinI c th l)(hk:1≤k∧k≤5)(hi:¬k∈th)(hf:(th.length:Int)=c.topics){x:DnR}(hx:x.cm=2*(l.length:Int)+1∧x.fr=2*(l.length:Int)∧x.to_ = 2*(l.length:Int)+2)(e:x.ki=1∧x.ke=k∧x.co=15): LinI c th (l++[x]):=by
 refine lin_same h ⟨hx.1,hx.2.1,hx.2.2,.inl e.1⟩ (fun T hT => ?_)
 unfold stepM
 rw [if_pos e.1,e.2.1,e.2.2]
 unfold createM
 have hs:(kget T k).isSome=false:=by rw [og_some,hT]; exact decide_eq_false hi
 have hl:T.length=th.length:=by rw [←hT,List.length_map]
 rw [if_neg (may_ok hk),if_neg (by omega),if_neg (by omega),if_pos rfl,hs,hl,hf]
 simp
theorem lin_new(h:LinI c th l)(hk:1≤k∧k≤5)(hi:¬k∈th)(hf:¬(th.length:Int)=c.topics){x:DnR}(hx:x.cm=2*(l.length:Int)+1∧x.fr=2*(l.length:Int)∧x.to_ = 2*(l.length:Int)+2)(e:x.ki=1∧x.ke=k∧x.co=0): LinI c (th++[k]) (l++[x]):=by
 have hln:=h.ln
 refine lin_add h ⟨hx.1,hx.2.1,hx.2.2,.inl e.1⟩ (fun T hT => ?_) ?_ ?_ (by simp; omega)
 ·unfold stepM
  rw [if_pos e.1,e.2.1,e.2.2]
  unfold createM
  have hs:(kget T k).isSome=false:=by rw [og_some,hT]; exact decide_eq_false hi
  have hl:T.length=th.length:=by rw [←hT,List.length_map]
  rw [if_neg (may_ok hk),if_pos rfl,if_neg (by rw [hs,hl]; simp; exact hf)]
  refine⟨rfl, ?_⟩
  show(kset T k (false,PRow.nil)).map (·.1) = _
  rw [os_none (by rw [hT]; exact hi),List.map_append,hT]
  rfl
 ·rw [List.nodup_append]
  refine⟨h.nd,by simp, ?_⟩
  intro a ha b hb
  rw [List.mem_singleton] at hb
  rw [hb]
  exact fun e=>hi (e▸ha)
 ·intro y hy
  rcases List.mem_append.1 hy with hy | hy
  ·exact h.rg y hy
  ·rw [List.mem_singleton.1 hy]; exact hk
/-- all of them, and one behind -/
theorem lin_all(h:LinI c th l): runM c [] l=true:=by
 obtain⟨T,hT,_⟩:=h.run
 have:=hT []
 rw [List.append_nil] at this
 rw [this]; rfl
theorem lin_w(h:LinI c th l){w:DnR}(e:w.ki=4∧w.ke=6)(b:Bool)(hb:(w.co=12∧b=true)∨(w.co=20∧b=false)): runM c [] (l++[w])=b:=by
 obtain⟨T,hT,hm⟩:=h.run
 rw [hT]
 have hs:(kget T 6).isSome=false:=by
  rw [og_some,hm]
  exact decide_eq_false fun hi=>by have:=h.rg 6 hi; omega
 have hmay:¬mayB 6=false:=by decide
 show((stepM c T w).b && _) = _
 unfold stepM
 rw [if_neg (by rw [e.1]; omega),if_neg (by rw [e.1]; omega),e.2]
 unfold readN
 rw [if_neg hmay,hs]
 rcases hb with ⟨h1,rfl⟩ | ⟨h1,rfl⟩
 ·rw [h1]; rfl
 ·rw [h1]; rfl
theorem lin_srt(h:LinI c th l){w:DnR}(hw:w.cm=2*(l.length:Int)+1): Srt (l.length+1) (fun p=>l.getD p dnN) w:=by
 refine⟨fun p q h1 h2 => ?_,fun p h1 => ?_⟩
 ·rw [(h.el p (by omega)).1,(h.el q (by omega)).1]; omega
 ·rw [(h.el p (by omega)).1,hw]; omega
theorem tab_last{l:List DnR}{w:DnR}: tab (l.length+1) (fB (fun p=>l.getD p dnN) w l.length)=l++[w]:=by
 rw [tab_of (l++[w])]
 simp only [List.length_append,List.length_singleton]
 refine tab_ext fun p hp => ?_
 unfold fB
 by_cases h1:p<l.length
 ·rw [if_pos h1]
  simp [h1,List.getElem?_append_left]
 ·rw [if_neg h1,if_pos (by omega)]
  have:p=l.length:=by omega
  subst this
  simp
theorem tab_first{l:List DnR}{w:DnR}: tab (l.length+1) (fB (fun p=>l.getD p dnN) w 0)=w :: l:=by
 rw [tab_of (w :: l)]
 simp only [List.length_cons]
 refine tab_ext fun p hp => ?_
 unfold fB
 rw [if_neg (Nat.not_lt_zero _)]
 by_cases h1:p=0
 ·rw [if_pos h1,h1]; rfl
 ·rw [if_neg h1]
  obtain⟨q,rfl⟩:=Nat.exists_eq_succ_of_ne_zero h1
  rfl
theorem srt_last(h:LinI c th l)(hl:l.length≤30){w:DnR}(hw:w.cm=2*(l.length:Int)+1): SrtTo (l++[w]) (l++[w]):=
 .inr ⟨l.length+1,_,w,l.length,lin_srt h hw,.inr rfl,by omega,by omega,tab_last.symm,by rw [Nat.add_sub_cancel]; exact tab_last.symm⟩
theorem srt_first(h:LinI c th l)(hl:l.length≤30){w:DnR}(hw:w.cm=2*(l.length:Int)+1): SrtTo (w :: l) (l++[w]):=
 .inr ⟨l.length+1,_,w,0,lin_srt h hw,.inl rfl,by omega,by omega,tab_first.symm,by rw [Nat.add_sub_cancel]; exact tab_last.symm⟩
theorem srt_all(h:LinI c th l)(hl:l.length≤30): SrtTo l l:=by
 by_cases h0:l=[]
 ·exact .inl ⟨h0,h0⟩
 ·have hp:1≤l.length:=by
   rcases l with _ | _
   ·exact absurd rfl h0
   ·simp
  have e:tab l.length (fB (fun p=>l.getD p dnN) (l.getD (l.length-1) dnN) (l.length-1))=l:=by
   conv=>rhs; rw [tab_of l]
   refine tab_ext fun p hp => ?_
   unfold fB
   by_cases h1:p<l.length-1
   ·rw [if_pos h1]
   ·rw [if_neg h1,if_pos (by omega)]
    have:p=l.length-1:=by omega
    rw [this]
  refine .inr ⟨l.length,_,_,l.length-1,⟨fun p q h1 h2 => ?_,fun p h1 => ?_⟩,.inr (by omega),hp,by omega,e.symm,e.symm⟩
  ·show(l.getD p dnN).cm<(l.getD q dnN).cm
   rw [(h.el p (by omega)).1,(h.el q (by omega)).1]; omega
  ·show(l.getD p dnN).cm < _
   rw [(h.el p (by omega)).1,(h.el _ (by omega)).1]; omega
end
/-- what is asked of a row -/
structure RowOk (xs:List DnR):Prop where
 p:∀i,i<xs.length→¬(xs.getD i dnN).ki=6∧¬(xs.getD i dnN).ki=7∧(xs.getD i dnN).cm>0
 q:∀i,i<xs.length→¬(xs.getD i dnN).cm=0∧¬(xs.getD i dnN).cm≤(xs.getD i dnN).fr∧¬(xs.getD i dnN).cm>(xs.getD i dnN).to_
 k:∀i,i<xs.length→KiOk (xs.getD i dnN)
theorem rowOk_mem{xs:List DnR}(h:∀x∈xs,KiOk x∧x.cm>0∧x.fr<x.cm∧x.cm≤x.to_): RowOk xs:=by
 have hm:∀i,i<xs.length→xs.getD i dnN∈xs:=by
  intro i hi
  have e:xs.getD i dnN=xs[i]:=by simp [hi]
  rw [e]
  exact List.getElem_mem hi
 refine⟨fun i hi => ?_,fun i hi => ?_,fun i hi=>(h _ (hm i hi)).1⟩
 ·obtain⟨h1,h2,h3⟩:=h _ (hm i hi)
  simp only [KiOk] at h1
  omega
 ·obtain⟨h1,h2,h3⟩:=h _ (hm i hi)
  omega
theorem lin_mem{c:Cfg}{th:List Int}{l:List DnR}(h:LinI c th l): ∀x∈l,KiOk x∧x.cm>0∧x.fr<x.cm∧x.cm≤x.to_:=by
 intro x hx
 obtain⟨p,hp,rfl⟩:=List.getElem_of_mem hx
 have e:l.getD p dnN=l[p]:=by simp [hp]
 have:=h.el p hp
 rw [e] at this
 obtain⟨h1,h2,h3,h4⟩:=this
 refine⟨?_,by omega,by omega,by omega⟩
 simp only [KiOk]
 omega
end Go.Proofs.YthijdhenekmojaaGreatDoor
/- The law's config. -/
set_option linter.unusedSimpArgs false
set_option maxRecDepth 100000
set_option maxHeartbeats 0
namespace Go.Proofs.YthijdhenekmojaaGreatDoor
open Go.Sx
def cf(t:Int): Cfg:={topics:=t,small:=4,slots:=2,clients:=3,s0:=5,n0:=2,s1:=8,n1:=2,retry:=2}
theorem cf_ok{t:Int}(h:1≤t∧t≤4): (cf t).Ok:=by simp only [Cfg.Ok,cf]; omega
theorem and3(n:Int): 0≤IntKind.i64.wrap (↑(BitVec.ofInt IntKind.i64.bits n &&& BitVec.ofInt IntKind.i64.bits 3).toNat)∧IntKind.i64.wrap (↑(BitVec.ofInt IntKind.i64.bits n &&& BitVec.ofInt IntKind.i64.bits 3).toNat)≤3:=by
 have h:(BitVec.ofInt IntKind.i64.bits n &&& BitVec.ofInt IntKind.i64.bits 3).toNat≤3:=by
  rw [BitVec.toNat_and]
  exact Nat.le_trans Nat.and_le_right (by decide)
 have h2:IntKind.i64.wrap (((BitVec.ofInt IntKind.i64.bits n &&& BitVec.ofInt IntKind.i64.bits 3).toNat:Nat):Int)=(((BitVec.ofInt IntKind.i64.bits n &&& BitVec.ofInt IntKind.i64.bits 3).toNat:Nat):Int):=by
  apply wrap_in
  simp only [InK]
  omega
 rw [h2]
 omega
theorem t_config(n:Int): Ct Tryz.prog 9 (⟨[.s (.i .i64 n)],[],0,fun t=>1≤t∧t≤4,fun t=>[.g (cfgS (cf t))],fun _=>[]⟩:Sp Int):=by
 refine cX 8 xaI Tryz.func9 fun g F => ?_
 refine xN fun b1 => ?_
 refine xO (InK IntKind.i64 (1+IntKind.i64.wrap ↑(BitVec.ofInt IntKind.i64.bits n &&& BitVec.ofInt IntKind.i64.bits 3).toNat)) (by have:=and3 n; simp only [InK]; omega) ?_
 refine xN fun b2 => ?_
 refine xN fun b3 => ?_
 refine xN fun b4 => ?_
 exact xR (1+IntKind.i64.wrap ↑(BitVec.ofInt IntKind.i64.bits n &&& BitVec.ofInt IntKind.i64.bits 3).toNat) (by have:=and3 n; show 1≤(1:Int) + _∧(1:Int) + _≤4; omega)
end Go.Proofs.YthijdhenekmojaaGreatDoor
/- The chapter's example. -/
set_option linter.unusedSimpArgs false
set_option maxRecDepth 100000
set_option maxHeartbeats 0
namespace Go.Proofs.YthijdhenekmojaaGreatDoor
open Go.Sx
theorem aw1{t:Int}(h:1≤t∧t≤4): createM (cf t) [] 5 false 0=⟨true,[(5,false,.nil)]⟩:=by
 unfold createM
 rw [if_neg (by decide),if_pos rfl,if_neg]
 ·rfl
 ·rintro(h1 | h1)
  ·cases h1
  ·simp [cf] at h1; omega
theorem t_awake: Ct Tryz.prog 7 (sB [] [] 0 true []):=by
 refine cX 30 xaI Tryz.func7 fun g F => ?_
 refine xC Tryz.call9 (t_config (1)) fun xn1 n1 hxn1 => ?_
 refine xN fun b2 => ?_
 refine xN fun b3 => ?_
 refine xC Tryz.call8 (t_new (cf xn1) (cf_ok (by assumption))) fun xn5 n5 hxn5 => ?_
 refine xC Tryz.call13 (t_readN (cf xn1) (cf_ok (by assumption)) ([]) (xn5.mt) (Value.slice (some {block:=b3,off:=0}) 1 1) (Value.map (some xn5.mh)) (0) (5) (false) (Value.slice none 0 0) (Value.slice none 0 0) (Value.slice none 0 0) (Value.slice none 0 0) (0) (12) (0) (0) (0) (0) (by omega)) fun xn8 n8 hxn8 => ?_
 subst hxn8
 refine xC Tryz.call13 (t_create (cf xn1) (cf_ok (by assumption)) ([]) (xn5.mt) (Value.slice (some {block:=b3,off:=0}) 1 1) (Value.map (some xn5.mh)) (0) (5) (false) (Value.slice none 0 0) (Value.slice none 0 0) (Value.slice none 0 0) (Value.slice none 0 0) (0) (0) (0) (0) (0) (0)) fun xn12 n12 hxn12 => ?_
 subst hxn12
 refine xC Tryz.call13 (t_readN (cf xn1) (cf_ok (by assumption)) ((createM (cf xn1) [] (5:Int) false (0:Int)).2) (xn5.mt) (Value.slice (some {block:=b3,off:=0}) 1 1) (Value.map (some xn5.mh)) (0) (5) (false) (Value.slice none 0 0) (Value.slice none 0 0) (Value.slice none 0 0) (Value.slice none 0 0) (0) (12) (0) (0) (0) (0) (by omega)) fun xn15 n15 hxn15 => ?_
 subst hxn15
 refine xT (readN [] 5 12) rfl ?_
 refine xT ((createM (cf xn1) [] 5 false 0).b) (by rw [aw1 hxn1]) ?_
 exact xR (!readN (createM (cf xn1) [] 5 false 0).T 5 12) (by rw [aw1 hxn1]; rfl)
end Go.Proofs.YthijdhenekmojaaGreatDoor
/- ModelOne: the row, op by op. -/
set_option linter.unusedSimpArgs false
set_option maxRecDepth 100000
set_option maxHeartbeats 0
namespace Go.Proofs.YthijdhenekmojaaGreatDoor
open Go.Sx
def xsch: Cx:=⟨[10],[],[],[]⟩
theorem xschI: Inl Tryz.prog xsch:=inl_ok ⟨Tryz.call10,trivial⟩ trivial
theorem tm5(x:Int): 1≤x.tmod 5+5∧x.tmod 5+5≤9:=by
 have h1:=Int.tmod_lt_of_pos x (show(0:Int)<5 by omega)
 have h2 : -5<x.tmod 5:=by
  rcases Int.le_total 0 x with h | h
  ·have:=Int.tmod_nonneg 5 h; omega
  ·have h3:=Int.tmod_lt_of_pos (-x) (show(0:Int)<5 by omega)
   rw [Int.neg_tmod] at h3
   omega
 omega
theorem tm5'(x:Int): 0≤(x.tmod 5+5).tmod 5∧(x.tmod 5+5).tmod 5≤4:=by
 have h:=tm5 x
 have h1:=Int.tmod_lt_of_pos (x.tmod 5+5) (show(0:Int)<5 by omega)
 have h2:=Int.tmod_nonneg 5 (show 0≤x.tmod 5+5 by omega)
 omega
structure OnS where
 i:Nat
 th:List Int
 a:Option Addr
 c:Nat
 l:List DnR
 a2:Option Addr
 c2:Nat
abbrev OnI(c:Cfg)(s:OnS): Prop:=s.i≤30∧s.l.length=s.i∧s.th.length≤8∧LinI c s.th s.l
/-- the key of a number -/
abbrev keyO(x:Int): Int:=1+(x.tmod 5+5).tmod 5
theorem keyO_rng(x:Int): 1≤keyO x∧keyO x≤5:=by
 have:=tm5' x
 unfold keyO
 omega
theorem on_len{c:Cfg}(hc:c.Ok){th:List Int}{l:List DnR}(h:LinI c th l): th.length≤8:=by
 have:=h.ln
 simp only [Cfg.Ok] at hc
 omega
theorem on_next{c:Cfg}(hc:c.Ok){s:OnS}(hI:OnI c s)(h:(s.i:Int)<30){th:List Int}{x:DnR}{a a2:Option Addr}{c1 c2:Nat}(hx:LinI c th (s.l++[x])): OnI c ⟨s.i+1,th,a,c1,s.l++[x],a2,c2⟩:=
 ⟨by show s.i+1≤30; omega,by show(s.l++[x]).length=s.i+1; simp; exact hI.2.1,on_len hc hx,hx⟩
theorem on_el{c:Cfg}{s:OnS}(hI:OnI c s){ki ke co:Int}: (⟨ki,ke,co,2*(s.i:Int)+1,2*(s.i:Int),2*(s.i:Int)+2⟩:DnR).cm=2*(s.l.length:Int)+1∧(⟨ki,ke,co,2*(s.i:Int)+1,2*(s.i:Int),2*(s.i:Int)+2⟩:DnR).fr=2*(s.l.length:Int)∧(⟨ki,ke,co,2*(s.i:Int)+1,2*(s.i:Int),2*(s.i:Int)+2⟩:DnR).to_ = 2*(s.l.length:Int)+2:=by
 rw [hI.2.1]; exact⟨rfl,rfl,rfl⟩
theorem t_oneL(n:Int)(ks:List Int)(a0:Option Addr)(c0:Nat)(hl0:ks.length≤maxLen)(F:Fr)(hr:RowF F a0 .i64 ks)(Ψ : Value→List Ent→Prop)(g:Nat→Rf)(c:Cfg)(hc:c.Ok)(b6:Nat)(JJ:Act→World→Prop)
  (hJJ:SeqEnd Tryz.prog Tryz.f6 (Tryz.f6.body.getD .skip) 148 F (Some_ Ψ) (fun s:OnS=>[(5,.bool true),(6,.pointer (some ⟨b6,0,none⟩)),(8,.slice s.a2 s.l.length s.c2)]) (fun s=>[.pts b6 ((cfgS c).map (SV.v g)) 30,.sl s.a2 s.c2 encD dnN 14 s.l 46]) (OnI c) [5,6,8] [0,2] [.c [1,1,1,1,1,1]] JJ) :
  Go Tryz.prog Tryz.f6 (Tryz.f6.body.getD .skip) 148 F (RetR F (Some_ Ψ)) [.c [0,1,0,1,1,1,1,1],.b 0,.j JJ,.c [1,1,1,1,1,1]]
   [(1,.slice a0 ks.length c0),(5,.bool true),(6,.pointer (some ⟨b6,0,none⟩)),(7,.slice none 0 0),(8,.slice none 0 0),(9,.int .i64 0)]
   [.pts b6 ((cfgS c).map (SV.v g)) 30,.sl none 0 (Go.Sx.encI .i64) 0 1 [] 3,.sl none 0 encD dnN 14 [] 46]:=by
 refine xG xschI [(6,.i 0),(7,.i 1),(8,.i 2)] ⟨[(0,List.replicate 9 .n),(1,[]),(2,[])],3⟩ Tryz.func6 ?_
 refine xLoop xschI Tryz.func6 [0,1,0,1,1,1,1,1] [.b 0,.j JJ,.c [1,1,1,1,1,1]] [1,5,6,7,8,9] [0,1,2] (fun s:OnS=>[(1,.slice a0 ks.length c0),(5,.bool true),(6,.pointer (some ⟨b6,0,none⟩)),(7,.slice s.a s.th.length s.c),(8,.slice s.a2 s.l.length s.c2),(9,.int .i64 s.i)]) (fun _=>[(6,.i 0),(7,.i 1),(8,.i 2)]) (fun s=>[.pts b6 ((cfgS c).map (SV.v g)) 30,.sl s.a s.c (Go.Sx.encI .i64) 0 1 s.th 3,.sl s.a2 s.c2 encD dnN 14 s.l 46]) (fun _=>⟨[(0,List.replicate 9 .n),(1,[]),(2,[])],3⟩) (OnI c) (fun s=>30-s.i) ⟨0,[],none,0,[],none,0⟩ ⟨by simp,rfl,by simp,lin_0 c hc⟩ (fun s J hI hJ => ?_)
 refine xB (decide ((↑s.i:Int)<(↑ks.length:Int))) (fun h1 => ?_) (fun h1 => ?_)
 ·skip
  replace h1:=decT h1
  refine xB (decide ((↑s.i:Int)<(30:Int))) (fun h2 => ?_) (fun h2 => ?_)
  ·skip
   replace h2:=decT h2
   refine xIx hr (ks.length) (c0) .i64 (↑s.i) (show ks.length≤(ks).length∧(0:Int)≤↑s.i∧↑s.i<((ks.length:Nat):Int) by omega) ?_
   refine xLd hr ((↑s.i:Int).toNat) (show(↑s.i:Int).toNat<(ks).length by omega) ?_
   refine xO ((5:Int)≠(0:Int)) (by omega) ?_
   refine xO (InK IntKind.i64 ((ks.getD s.i (0:Int)).tmod (5:Int)+(5:Int))) (by have:=tm5 (ks.getD s.i 0); simp only [InK]; omega) ?_
   refine xO ((5:Int)≠(0:Int)) (by omega) ?_
   refine xO (InK IntKind.i64 ((1:Int)+((ks.getD s.i (0:Int)).tmod (5:Int)+(5:Int)).tmod (5:Int))) (by have:=tm5' (ks.getD s.i 0); simp only [InK]; omega) ?_
   refine xCy [⟨0,s.a,s.c⟩] [1] (Tg.n) ⟨[(0,(List.replicate 9 .n)),(2,[]),(1,[])],57⟩ Tryz.call23 (fun F' h=>(t_has (s.th) (s.th.length) (by omega) ((1:Int)+((ks.getD (↑s.i:Int).toNat (0:Int)).tmod (5:Int)+(5:Int)).tmod (5:Int)) (by omega)).fr) fun xn3 n3 hxn3 => ?_
   subst hxn3
   refine xO (InK IntKind.i64 (2 * ↑s.i)) (by have:=tm5 (ks.getD (↑s.i:Int).toNat 0); simp only [InK]; omega) ?_
   refine xO (InK IntKind.i64 (2 * ↑s.i)) (by have:=tm5 (ks.getD (↑s.i:Int).toNat 0); simp only [InK]; omega) ?_
   refine xO (InK IntKind.i64 (2 * ↑s.i+2)) (by have:=tm5 (ks.getD (↑s.i:Int).toNat 0); simp only [InK]; omega) ?_
   refine xO (InK IntKind.i64 (2 * ↑s.i)) (by have:=tm5 (ks.getD (↑s.i:Int).toNat 0); simp only [InK]; omega) ?_
   refine xO (InK IntKind.i64 (2 * ↑s.i+1)) (by have:=tm5 (ks.getD (↑s.i:Int).toNat 0); simp only [InK]; omega) ?_
   refine xN fun b4 => ?_
   refine xIx hr (ks.length) (c0) .i64 (↑s.i) (show ks.length≤(ks).length∧(0:Int)≤↑s.i∧↑s.i<((ks.length:Nat):Int) by omega) ?_
   refine xLd hr ((↑s.i:Int).toNat) (show(↑s.i:Int).toNat<(ks).length by omega) ?_
   refine xO ((0:Int)≤(4:Int)) (by omega) ?_
   refine xB (IntKind.i64.wrap (↑(BitVec.ofInt IntKind.i64.bits (bShr IntKind.i64 (ks.getD (↑s.i:Int).toNat (0:Int)) (4:Int)) &&& BitVec.ofInt IntKind.i64.bits (1:Int)).toNat:Int)==(1:Int)) (fun h5 => ?_) (fun h5 => ?_)
   ·skip
    replace h5:=decT h5
    refine xB (decide ((1:Int)+((ks.getD s.i (0:Int)).tmod (5:Int)+(5:Int)).tmod (5:Int)∈s.th)) (fun h6 => ?_) (fun h6 => ?_)
    ·skip
     replace h6:=decT h6
     refine xCy [⟨0,s.a,s.c⟩] [2] (Tg.i 78) ⟨[(0,(List.replicate 9 .n)),(2,[]),(66,[.c,.c,.q 16 false,.c,.c,.c,.c,.c,.c,.c,.c,.q 65 false,.q 59 false,.q 62 false]),(78,[])],118⟩ Tryz.call24 (fun F' h=>(t_without (s.th) (s.th.length) (by omega) ((1:Int)+((ks.getD (↑s.i:Int).toNat (0:Int)).tmod (5:Int)+(5:Int)).tmod (5:Int)) (by omega)).fr) fun xn8 n8 hxn8 => ?_
     subst hxn8
     refine xN fun b9 => ?_
     refine xAp 1 (s.a2) (s.c2) encD dnN 14 (s.l) 46 [(⟨2,(1:Int)+((ks.getD (↑s.i:Int).toNat (0:Int)).tmod (5:Int)+(5:Int)).tmod (5:Int),0,2 * ↑s.i+1,2 * ↑s.i,2 * ↑s.i+2⟩:DnR)] (.i 2) oneD 176 (.slice (some ⟨b9,0,none⟩) 1 1) (by first | (simp; done) | (simp; omega)) (fun F=>(src_pts (i:=4) (n:=1) (c:=1) (cs:=cellsOf encD [(⟨2,(1:Int)+((ks.getD (↑s.i:Int).toNat (0:Int)).tmod (5:Int)+(5:Int)).tmod (5:Int),0,2 * ↑s.i+1,2 * ↑s.i,2 * ↑s.i+2⟩:DnR)]) (t:=46) (by kernel_rfl))) (fun a1_ c1_ => ?_)
     refine xO (InK IntKind.i64 (↑s.i+1)) (by have:=tm5 (ks.getD (↑s.i:Int).toNat 0); simp only [InK]; omega) ?_
     first | (refine xW0 _ (view_idx [0,3,1] (by kernel_rfl)) (xJ hJ ⟨s.i+1,s.th.filter (fun y => !(y==keyO (ks.getD s.i 0))),(n8 1).a,(n8 1).c,s.l++[⟨2,keyO (ks.getD s.i 0),0,2 * ↑s.i+1,2 * ↑s.i,2 * ↑s.i+2⟩],a1_,c1_⟩ (by show 30-(s.i+1)<30-s.i; omega) (on_next hc hI (by omega) (lin_rem hI.2.2.2 (keyO_rng _) (by assumption) (on_el hI) ⟨rfl,rfl,rfl⟩))) sc_st) | (refine xW0 _ (view_idx [0,2,1] (by kernel_rfl)) (xJ hJ ⟨s.i+1,s.th,s.a,s.c,s.l++[⟨1,keyO (ks.getD s.i 0),14,2 * ↑s.i+1,2 * ↑s.i,2 * ↑s.i+2⟩],a1_,c1_⟩ (by show 30-(s.i+1)<30-s.i; omega) (on_next hc hI (by omega) (lin_there hI.2.2.2 (keyO_rng _) (by assumption) (on_el hI) ⟨rfl,rfl,rfl⟩))) sc_st) | (refine xW0 _ (view_idx [0,2,1] (by kernel_rfl)) (xJ hJ ⟨s.i+1,s.th,s.a,s.c,s.l++[⟨1,keyO (ks.getD s.i 0),15,2 * ↑s.i+1,2 * ↑s.i,2 * ↑s.i+2⟩],a1_,c1_⟩ (by show 30-(s.i+1)<30-s.i; omega) (on_next hc hI (by omega) (lin_full hI.2.2.2 (keyO_rng _) (by assumption) (by assumption) (on_el hI) ⟨rfl,rfl,rfl⟩))) sc_st) | (refine xW0 _ (view_idx [0,2,1] (by kernel_rfl)) (xJ hJ ⟨s.i+1,s.th++[keyO (ks.getD s.i 0)],a2_,c2_,s.l++[⟨1,keyO (ks.getD s.i 0),0,2 * ↑s.i+1,2 * ↑s.i,2 * ↑s.i+2⟩],a1_,c1_⟩ (by show 30-(s.i+1)<30-s.i; omega) (on_next hc hI (by omega) (lin_new hI.2.2.2 (keyO_rng _) (by assumption) (by assumption) (on_el hI) ⟨rfl,rfl,rfl⟩))) sc_st) | (refine xW0 _ (view_idx [0,2,1] (by kernel_rfl)) (xJ hJ ⟨s.i+1,s.th,s.a,s.c,s.l++[⟨2,keyO (ks.getD s.i 0),12,2 * ↑s.i+1,2 * ↑s.i,2 * ↑s.i+2⟩],a1_,c1_⟩ (by show 30-(s.i+1)<30-s.i; omega) (on_next hc hI (by omega) (lin_remN hI.2.2.2 (keyO_rng _) (by assumption) (on_el hI) ⟨rfl,rfl,rfl⟩))) sc_st)
    ·skip
     replace h6:=decF h6
     refine xN fun b10 => ?_
     refine xAp 1 (s.a2) (s.c2) encD dnN 14 (s.l) 46 [(⟨2,(1:Int)+((ks.getD (↑s.i:Int).toNat (0:Int)).tmod (5:Int)+(5:Int)).tmod (5:Int),12,2 * ↑s.i+1,2 * ↑s.i,2 * ↑s.i+2⟩:DnR)] (.i 2) oneD 176 (.slice (some ⟨b10,0,none⟩) 1 1) (by first | (simp; done) | (simp; omega)) (fun F=>(src_pts (i:=4) (n:=1) (c:=1) (cs:=cellsOf encD [(⟨2,(1:Int)+((ks.getD (↑s.i:Int).toNat (0:Int)).tmod (5:Int)+(5:Int)).tmod (5:Int),12,2 * ↑s.i+1,2 * ↑s.i,2 * ↑s.i+2⟩:DnR)]) (t:=46) (by kernel_rfl))) (fun a1_ c1_ => ?_)
     refine xO (InK IntKind.i64 (↑s.i+1)) (by have:=tm5 (ks.getD (↑s.i:Int).toNat 0); simp only [InK]; omega) ?_
     first | (refine xW0 _ (view_idx [0,3,1] (by kernel_rfl)) (xJ hJ ⟨s.i+1,s.th.filter (fun y => !(y==keyO (ks.getD s.i 0))),(n8 1).a,(n8 1).c,s.l++[⟨2,keyO (ks.getD s.i 0),0,2 * ↑s.i+1,2 * ↑s.i,2 * ↑s.i+2⟩],a1_,c1_⟩ (by show 30-(s.i+1)<30-s.i; omega) (on_next hc hI (by omega) (lin_rem hI.2.2.2 (keyO_rng _) (by assumption) (on_el hI) ⟨rfl,rfl,rfl⟩))) sc_st) | (refine xW0 _ (view_idx [0,2,1] (by kernel_rfl)) (xJ hJ ⟨s.i+1,s.th,s.a,s.c,s.l++[⟨1,keyO (ks.getD s.i 0),14,2 * ↑s.i+1,2 * ↑s.i,2 * ↑s.i+2⟩],a1_,c1_⟩ (by show 30-(s.i+1)<30-s.i; omega) (on_next hc hI (by omega) (lin_there hI.2.2.2 (keyO_rng _) (by assumption) (on_el hI) ⟨rfl,rfl,rfl⟩))) sc_st) | (refine xW0 _ (view_idx [0,2,1] (by kernel_rfl)) (xJ hJ ⟨s.i+1,s.th,s.a,s.c,s.l++[⟨1,keyO (ks.getD s.i 0),15,2 * ↑s.i+1,2 * ↑s.i,2 * ↑s.i+2⟩],a1_,c1_⟩ (by show 30-(s.i+1)<30-s.i; omega) (on_next hc hI (by omega) (lin_full hI.2.2.2 (keyO_rng _) (by assumption) (by assumption) (on_el hI) ⟨rfl,rfl,rfl⟩))) sc_st) | (refine xW0 _ (view_idx [0,2,1] (by kernel_rfl)) (xJ hJ ⟨s.i+1,s.th++[keyO (ks.getD s.i 0)],a2_,c2_,s.l++[⟨1,keyO (ks.getD s.i 0),0,2 * ↑s.i+1,2 * ↑s.i,2 * ↑s.i+2⟩],a1_,c1_⟩ (by show 30-(s.i+1)<30-s.i; omega) (on_next hc hI (by omega) (lin_new hI.2.2.2 (keyO_rng _) (by assumption) (by assumption) (on_el hI) ⟨rfl,rfl,rfl⟩))) sc_st) | (refine xW0 _ (view_idx [0,2,1] (by kernel_rfl)) (xJ hJ ⟨s.i+1,s.th,s.a,s.c,s.l++[⟨2,keyO (ks.getD s.i 0),12,2 * ↑s.i+1,2 * ↑s.i,2 * ↑s.i+2⟩],a1_,c1_⟩ (by show 30-(s.i+1)<30-s.i; omega) (on_next hc hI (by omega) (lin_remN hI.2.2.2 (keyO_rng _) (by assumption) (on_el hI) ⟨rfl,rfl,rfl⟩))) sc_st)
   ·skip
    replace h5:=decF h5
    refine xB (decide ((1:Int)+((ks.getD s.i (0:Int)).tmod (5:Int)+(5:Int)).tmod (5:Int)∈s.th)) (fun h11 => ?_) (fun h11 => ?_)
    ·skip
     replace h11:=decT h11
     refine xN fun b12 => ?_
     refine xAp 1 (s.a2) (s.c2) encD dnN 14 (s.l) 46 [(⟨1,(1:Int)+((ks.getD (↑s.i:Int).toNat (0:Int)).tmod (5:Int)+(5:Int)).tmod (5:Int),14,2 * ↑s.i+1,2 * ↑s.i,2 * ↑s.i+2⟩:DnR)] (.i 2) oneD 176 (.slice (some ⟨b12,0,none⟩) 1 1) (by first | (simp; done) | (simp; omega)) (fun F=>(src_pts (i:=4) (n:=1) (c:=1) (cs:=cellsOf encD [(⟨1,(1:Int)+((ks.getD (↑s.i:Int).toNat (0:Int)).tmod (5:Int)+(5:Int)).tmod (5:Int),14,2 * ↑s.i+1,2 * ↑s.i,2 * ↑s.i+2⟩:DnR)]) (t:=46) (by kernel_rfl))) (fun a1_ c1_ => ?_)
     refine xO (InK IntKind.i64 (↑s.i+1)) (by have:=tm5 (ks.getD (↑s.i:Int).toNat 0); simp only [InK]; omega) ?_
     first | (refine xW0 _ (view_idx [0,3,1] (by kernel_rfl)) (xJ hJ ⟨s.i+1,s.th.filter (fun y => !(y==keyO (ks.getD s.i 0))),(n8 1).a,(n8 1).c,s.l++[⟨2,keyO (ks.getD s.i 0),0,2 * ↑s.i+1,2 * ↑s.i,2 * ↑s.i+2⟩],a1_,c1_⟩ (by show 30-(s.i+1)<30-s.i; omega) (on_next hc hI (by omega) (lin_rem hI.2.2.2 (keyO_rng _) (by assumption) (on_el hI) ⟨rfl,rfl,rfl⟩))) sc_st) | (refine xW0 _ (view_idx [0,2,1] (by kernel_rfl)) (xJ hJ ⟨s.i+1,s.th,s.a,s.c,s.l++[⟨1,keyO (ks.getD s.i 0),14,2 * ↑s.i+1,2 * ↑s.i,2 * ↑s.i+2⟩],a1_,c1_⟩ (by show 30-(s.i+1)<30-s.i; omega) (on_next hc hI (by omega) (lin_there hI.2.2.2 (keyO_rng _) (by assumption) (on_el hI) ⟨rfl,rfl,rfl⟩))) sc_st) | (refine xW0 _ (view_idx [0,2,1] (by kernel_rfl)) (xJ hJ ⟨s.i+1,s.th,s.a,s.c,s.l++[⟨1,keyO (ks.getD s.i 0),15,2 * ↑s.i+1,2 * ↑s.i,2 * ↑s.i+2⟩],a1_,c1_⟩ (by show 30-(s.i+1)<30-s.i; omega) (on_next hc hI (by omega) (lin_full hI.2.2.2 (keyO_rng _) (by assumption) (by assumption) (on_el hI) ⟨rfl,rfl,rfl⟩))) sc_st) | (refine xW0 _ (view_idx [0,2,1] (by kernel_rfl)) (xJ hJ ⟨s.i+1,s.th++[keyO (ks.getD s.i 0)],a2_,c2_,s.l++[⟨1,keyO (ks.getD s.i 0),0,2 * ↑s.i+1,2 * ↑s.i,2 * ↑s.i+2⟩],a1_,c1_⟩ (by show 30-(s.i+1)<30-s.i; omega) (on_next hc hI (by omega) (lin_new hI.2.2.2 (keyO_rng _) (by assumption) (by assumption) (on_el hI) ⟨rfl,rfl,rfl⟩))) sc_st) | (refine xW0 _ (view_idx [0,2,1] (by kernel_rfl)) (xJ hJ ⟨s.i+1,s.th,s.a,s.c,s.l++[⟨2,keyO (ks.getD s.i 0),12,2 * ↑s.i+1,2 * ↑s.i,2 * ↑s.i+2⟩],a1_,c1_⟩ (by show 30-(s.i+1)<30-s.i; omega) (on_next hc hI (by omega) (lin_remN hI.2.2.2 (keyO_rng _) (by assumption) (on_el hI) ⟨rfl,rfl,rfl⟩))) sc_st)
    ·skip
     replace h11:=decF h11
     refine xB (↑s.th.length==c.topics) (fun h13 => ?_) (fun h13 => ?_)
     ·skip
      replace h13:=decT h13
      refine xN fun b14 => ?_
      refine xAp 1 (s.a2) (s.c2) encD dnN 14 (s.l) 46 [(⟨1,(1:Int)+((ks.getD (↑s.i:Int).toNat (0:Int)).tmod (5:Int)+(5:Int)).tmod (5:Int),15,2 * ↑s.i+1,2 * ↑s.i,2 * ↑s.i+2⟩:DnR)] (.i 2) oneD 176 (.slice (some ⟨b14,0,none⟩) 1 1) (by first | (simp; done) | (simp; omega)) (fun F=>(src_pts (i:=4) (n:=1) (c:=1) (cs:=cellsOf encD [(⟨1,(1:Int)+((ks.getD (↑s.i:Int).toNat (0:Int)).tmod (5:Int)+(5:Int)).tmod (5:Int),15,2 * ↑s.i+1,2 * ↑s.i,2 * ↑s.i+2⟩:DnR)]) (t:=46) (by kernel_rfl))) (fun a1_ c1_ => ?_)
      refine xO (InK IntKind.i64 (↑s.i+1)) (by have:=tm5 (ks.getD (↑s.i:Int).toNat 0); simp only [InK]; omega) ?_
      first | (refine xW0 _ (view_idx [0,3,1] (by kernel_rfl)) (xJ hJ ⟨s.i+1,s.th.filter (fun y => !(y==keyO (ks.getD s.i 0))),(n8 1).a,(n8 1).c,s.l++[⟨2,keyO (ks.getD s.i 0),0,2 * ↑s.i+1,2 * ↑s.i,2 * ↑s.i+2⟩],a1_,c1_⟩ (by show 30-(s.i+1)<30-s.i; omega) (on_next hc hI (by omega) (lin_rem hI.2.2.2 (keyO_rng _) (by assumption) (on_el hI) ⟨rfl,rfl,rfl⟩))) sc_st) | (refine xW0 _ (view_idx [0,2,1] (by kernel_rfl)) (xJ hJ ⟨s.i+1,s.th,s.a,s.c,s.l++[⟨1,keyO (ks.getD s.i 0),14,2 * ↑s.i+1,2 * ↑s.i,2 * ↑s.i+2⟩],a1_,c1_⟩ (by show 30-(s.i+1)<30-s.i; omega) (on_next hc hI (by omega) (lin_there hI.2.2.2 (keyO_rng _) (by assumption) (on_el hI) ⟨rfl,rfl,rfl⟩))) sc_st) | (refine xW0 _ (view_idx [0,2,1] (by kernel_rfl)) (xJ hJ ⟨s.i+1,s.th,s.a,s.c,s.l++[⟨1,keyO (ks.getD s.i 0),15,2 * ↑s.i+1,2 * ↑s.i,2 * ↑s.i+2⟩],a1_,c1_⟩ (by show 30-(s.i+1)<30-s.i; omega) (on_next hc hI (by omega) (lin_full hI.2.2.2 (keyO_rng _) (by assumption) (by assumption) (on_el hI) ⟨rfl,rfl,rfl⟩))) sc_st) | (refine xW0 _ (view_idx [0,2,1] (by kernel_rfl)) (xJ hJ ⟨s.i+1,s.th++[keyO (ks.getD s.i 0)],a2_,c2_,s.l++[⟨1,keyO (ks.getD s.i 0),0,2 * ↑s.i+1,2 * ↑s.i,2 * ↑s.i+2⟩],a1_,c1_⟩ (by show 30-(s.i+1)<30-s.i; omega) (on_next hc hI (by omega) (lin_new hI.2.2.2 (keyO_rng _) (by assumption) (by assumption) (on_el hI) ⟨rfl,rfl,rfl⟩))) sc_st) | (refine xW0 _ (view_idx [0,2,1] (by kernel_rfl)) (xJ hJ ⟨s.i+1,s.th,s.a,s.c,s.l++[⟨2,keyO (ks.getD s.i 0),12,2 * ↑s.i+1,2 * ↑s.i,2 * ↑s.i+2⟩],a1_,c1_⟩ (by show 30-(s.i+1)<30-s.i; omega) (on_next hc hI (by omega) (lin_remN hI.2.2.2 (keyO_rng _) (by assumption) (on_el hI) ⟨rfl,rfl,rfl⟩))) sc_st)
     ·skip
      replace h13:=decF h13
      refine xN fun b15 => ?_
      refine xAp 2 (s.a) (s.c) (encI .i64) 0 1 (s.th) 3 [(1:Int)+((ks.getD (↑s.i:Int).toNat (0:Int)).tmod (5:Int)+(5:Int)).tmod (5:Int)] (.i 1) (oneI _) 8 (.slice (some ⟨b15,0,none⟩) 1 1) (by first | (simp; done) | (simp; omega)) (fun F=>(src_pts (i:=4) (n:=1) (c:=1) (cs:=cellsOf (encI .i64) [(1:Int)+((ks.getD (↑s.i:Int).toNat (0:Int)).tmod (5:Int)+(5:Int)).tmod (5:Int)]) (t:=3) (by kernel_rfl))) (fun a2_ c2_ => ?_)
      refine xN fun b16 => ?_
      refine xAp 1 (s.a2) (s.c2) encD dnN 14 (s.l) 46 [(⟨1,(1:Int)+((ks.getD (↑s.i:Int).toNat (0:Int)).tmod (5:Int)+(5:Int)).tmod (5:Int),0,2 * ↑s.i+1,2 * ↑s.i,2 * ↑s.i+2⟩:DnR)] (.i 2) oneD 176 (.slice (some ⟨b16,0,none⟩) 1 1) (by first | (simp; done) | (simp; omega)) (fun F=>(src_pts (i:=5) (n:=1) (c:=1) (cs:=cellsOf encD [(⟨1,(1:Int)+((ks.getD (↑s.i:Int).toNat (0:Int)).tmod (5:Int)+(5:Int)).tmod (5:Int),0,2 * ↑s.i+1,2 * ↑s.i,2 * ↑s.i+2⟩:DnR)]) (t:=46) (by kernel_rfl))) (fun a1_ c1_ => ?_)
      refine xO (InK IntKind.i64 (↑s.i+1)) (by have:=tm5 (ks.getD (↑s.i:Int).toNat 0); simp only [InK]; omega) ?_
      first | (refine xW0 _ (view_idx [0,3,1] (by kernel_rfl)) (xJ hJ ⟨s.i+1,s.th.filter (fun y => !(y==keyO (ks.getD s.i 0))),(n8 1).a,(n8 1).c,s.l++[⟨2,keyO (ks.getD s.i 0),0,2 * ↑s.i+1,2 * ↑s.i,2 * ↑s.i+2⟩],a1_,c1_⟩ (by show 30-(s.i+1)<30-s.i; omega) (on_next hc hI (by omega) (lin_rem hI.2.2.2 (keyO_rng _) (by assumption) (on_el hI) ⟨rfl,rfl,rfl⟩))) sc_st) | (refine xW0 _ (view_idx [0,2,1] (by kernel_rfl)) (xJ hJ ⟨s.i+1,s.th,s.a,s.c,s.l++[⟨1,keyO (ks.getD s.i 0),14,2 * ↑s.i+1,2 * ↑s.i,2 * ↑s.i+2⟩],a1_,c1_⟩ (by show 30-(s.i+1)<30-s.i; omega) (on_next hc hI (by omega) (lin_there hI.2.2.2 (keyO_rng _) (by assumption) (on_el hI) ⟨rfl,rfl,rfl⟩))) sc_st) | (refine xW0 _ (view_idx [0,2,1] (by kernel_rfl)) (xJ hJ ⟨s.i+1,s.th,s.a,s.c,s.l++[⟨1,keyO (ks.getD s.i 0),15,2 * ↑s.i+1,2 * ↑s.i,2 * ↑s.i+2⟩],a1_,c1_⟩ (by show 30-(s.i+1)<30-s.i; omega) (on_next hc hI (by omega) (lin_full hI.2.2.2 (keyO_rng _) (by assumption) (by assumption) (on_el hI) ⟨rfl,rfl,rfl⟩))) sc_st) | (refine xW0 _ (view_idx [0,2,1] (by kernel_rfl)) (xJ hJ ⟨s.i+1,s.th++[keyO (ks.getD s.i 0)],a2_,c2_,s.l++[⟨1,keyO (ks.getD s.i 0),0,2 * ↑s.i+1,2 * ↑s.i,2 * ↑s.i+2⟩],a1_,c1_⟩ (by show 30-(s.i+1)<30-s.i; omega) (on_next hc hI (by omega) (lin_new hI.2.2.2 (keyO_rng _) (by assumption) (by assumption) (on_el hI) ⟨rfl,rfl,rfl⟩))) sc_st) | (refine xW0 _ (view_idx [0,2,1] (by kernel_rfl)) (xJ hJ ⟨s.i+1,s.th,s.a,s.c,s.l++[⟨2,keyO (ks.getD s.i 0),12,2 * ↑s.i+1,2 * ↑s.i,2 * ↑s.i+2⟩],a1_,c1_⟩ (by show 30-(s.i+1)<30-s.i; omega) (on_next hc hI (by omega) (lin_remN hI.2.2.2 (keyO_rng _) (by assumption) (on_el hI) ⟨rfl,rfl,rfl⟩))) sc_st)
  ·skip
   replace h2:=decF h2
   exact xJs hJJ s hI
 ·skip
  replace h1:=decF h1
  exact xJs hJJ s hI
end Go.Proofs.YthijdhenekmojaaGreatDoor
/- ModelOne: the walk, in parts. -/
set_option linter.unusedSimpArgs false
set_option maxRecDepth 100000
set_option maxHeartbeats 0
namespace Go.Proofs.YthijdhenekmojaaGreatDoor
open Go.Sx
/-- a row is told linear, or not -/
structure LinV (c:Cfg) (xs:List DnR) (b:Bool):Prop where
 ok:∃zs,RowOk xs∧SrtTo xs zs∧(∀i,i<xs.length→KiOk (zs.getD i dnN))∧runM c [] zs=b∧xs.length≤31
theorem t_linV(c:Cfg)(hc:c.Ok)(n:Nat)(xs:List DnR)(b:Bool)(hl:xs.length=n)(h:LinV c xs b): Ct Tryz.prog 25 (lnS c n xs b):=by
 obtain⟨zs,h1,h2,h3,h4,h5⟩:=h.ok
 subst hl
 have:=t_linOk c hc xs.length xs zs rfl h5 h1.p h1.q h2 h3
 rw [h4] at this
 exact this
abbrev wA(k:Nat)(co to_:Int): DnR:=⟨4,6,co,2*(k:Int)+1,2*(k:Int)+1-1,to_⟩
abbrev wO(k:Nat): DnR:=wA k 20 (2*(k:Int)+1)
abbrev wN(k:Nat): DnR:=wA k 12 (2*(k:Int)+1)
abbrev wB(k:Nat): DnR:=wA k 12 (2*(k:Int)+1-1)
section
variable {c:Cfg} {th:List Int} {l:List DnR}
theorem ki_mem{xs:List DnR}(h:∀x∈xs,KiOk x): ∀i,i<xs.length→KiOk (xs.getD i dnN):=by
 intro i hi
 have e:xs.getD i dnN=xs[i]:=by simp [hi]
 rw [e]
 exact h _ (List.getElem_mem hi)
theorem wO_ok(k:Nat): KiOk (wO k)∧(wO k).cm>0∧(wO k).fr<(wO k).cm∧(wO k).cm≤(wO k).to_:=by
 refine⟨.inr (.inr ⟨rfl,fun h=>by cases h⟩), ?_, ?_, ?_⟩ <;> simp only [wA] <;> omega
theorem wN_ok(k:Nat): KiOk (wN k)∧(wN k).cm>0∧(wN k).fr<(wN k).cm∧(wN k).cm≤(wN k).to_:=by
 refine⟨.inr (.inr ⟨rfl,fun h=>by cases h⟩), ?_, ?_, ?_⟩ <;> simp only [wA] <;> omega
theorem lv1(h:LinI c th l)(hl:l.length≤30): LinV c l true:=
 ⟨l,rowOk_mem (lin_mem h),srt_all h hl,ki_mem fun x hx=>(lin_mem h x hx).1,lin_all h,by omega⟩
theorem lv2(h:LinI c th l)(hl:l.length≤30): LinV c (l++[wO l.length]) false:=by
 have hm:∀x∈l++[wO l.length],KiOk x∧x.cm>0∧x.fr<x.cm∧x.cm≤x.to_:=by
  intro x hx
  rcases List.mem_append.1 hx with hx | hx
  ·exact lin_mem h x hx
  ·rw [List.mem_singleton.1 hx]; exact wO_ok _
 exact⟨_,rowOk_mem hm,srt_last h hl rfl,ki_mem fun x hx=>(hm x hx).1,lin_w h ⟨rfl,rfl⟩ false (.inr ⟨rfl,rfl⟩),by simp; omega⟩
theorem lv3(h:LinI c th l)(hl:l.length≤30): LinV c (wN l.length :: l) true:=by
 have hm:∀x∈wN l.length :: l,KiOk x∧x.cm>0∧x.fr<x.cm∧x.cm≤x.to_:=by
  intro x hx
  rcases List.mem_cons.1 hx with rfl | hx
  ·exact wN_ok _
  ·exact lin_mem h x hx
 have hk:∀i,i<(l++[wN l.length]).length→KiOk ((l++[wN l.length]).getD i dnN):=ki_mem fun x hx=>by
  rcases List.mem_append.1 hx with hx | hx
  ·exact(lin_mem h x hx).1
  ·rw [List.mem_singleton.1 hx]; exact(wN_ok _).1
 exact⟨_,rowOk_mem hm,srt_first h hl rfl,fun i hi=>hk i (by simp at hi ⊢; omega),lin_w h ⟨rfl,rfl⟩ true (.inl ⟨rfl,rfl⟩),by simp; omega⟩
theorem lv4(xs:List DnR)(k:Nat): ¬((wB k :: xs).getD 0 dnN).cm=0∧¬((wB k :: xs).getD 0 dnN).cm≤((wB k :: xs).getD 0 dnN).fr∧((wB k :: xs).getD 0 dnN).cm>((wB k :: xs).getD 0 dnN).to_:=by
 show ¬(2*(k:Int)+1)=0∧¬(2*(k:Int)+1)≤2*(k:Int)+1-1∧2*(k:Int)+1>2*(k:Int)+1-1
 omega
end
theorem sg5(n:Int)(m:Nat)(a0:Option Addr)(c0:Nat)(F:Fr)(g:Nat→Rf)(c:Cfg)(hc:c.Ok)(th:List Int)(l:List DnR)(hL:LinI c th l)(hl:l.length≤30)(b6:Nat)(a2:Option Addr)(c2:Nat)(b15:Nat):
  Go Tryz.prog Tryz.f6 (Tryz.f6.body.getD .skip) 148 F (RetR F (Some_ ((⟨[.s (.i .i64 n),.s (.o (.slice a0 m c0))],[],0,fun b=>b=true,fun b=>[.s (.bo b)],fun _=>[]⟩:Sp Bool).Q g))) [.c [1,1,1,1,1,1,1,1,1,1,1,1,1,1]] [(5,.bool true),(13,.bool true),(16,.bool false),(17,.bool true),(18,.bool false)] [.pts b6 ((cfgS c).map (SV.v g)) 30,.sl a2 c2 encD dnN 14 l 46]:=by
 refine xG xschI [] ⟨[(0,List.replicate 9 .n),(1,[])],10⟩ Tryz.func6 ?_
 refine xT (true) rfl ?_
 refine xT (true) rfl ?_
 refine xT (!false) rfl ?_
 refine xT (true) rfl ?_
 exact xR (true) rfl
theorem sg4(n:Int)(m:Nat)(a0:Option Addr)(c0:Nat)(F:Fr)(g:Nat→Rf)(c:Cfg)(hc:c.Ok)(th:List Int)(l:List DnR)(hL:LinI c th l)(hl:l.length≤30)(b6:Nat)(a2:Option Addr)(c2:Nat)(b15:Nat):
  Go Tryz.prog Tryz.f6 (Tryz.f6.body.getD .skip) 148 F (RetR F (Some_ ((⟨[.s (.i .i64 n),.s (.o (.slice a0 m c0))],[],0,fun b=>b=true,fun b=>[.s (.bo b)],fun _=>[]⟩:Sp Bool).Q g))) [.c [1,1,1,1,1,1,1,1,1,1,1,1]] [(5,.bool true),(6,.pointer (some ⟨b6,0,none⟩)),(8,.slice a2 l.length c2),(13,.bool true),(14,.int .i64 (2*(l.length:Int)+1)),(15,.pointer (some ⟨b15,0,none⟩)),(16,.bool false),(17,.bool true)] [.pts b6 ((cfgS c).map (SV.v g)) 30,.sl a2 c2 encD dnN 14 l 46,.pts b15 (encD (wN l.length)) 46]:=by
 refine go_split (by kernel_rfl) ?_
 refine go_split2 (by kernel_rfl) ?_
 refine go_part [.c [0,1,1,1,1,1,1,1,1,1,1,1,1],.c [0,1,1,1,1,1,1,1,1,1,1,1,1,1]] [.c [1,1,1,1,1,1,1,1,1,1,1,1,1,1]] [5,13,16,17,18] [0,1] (fun u:Unit=>[(5,.bool true),(13,.bool true),(16,.bool false),(17,.bool true),(18,.bool false)]) (fun u=>[.pts b6 ((cfgS c).map (SV.v g)) 30,.sl a2 c2 encD dnN 14 l 46]) (fun _=>True) (fun J hJ => ?_) (fun u _=>sg5 n m a0 c0 F g c hc th l hL hl b6 a2 c2 b15)
 refine xG xschI [(6,.i 0),(8,.i 1),(15,.i 2)] ⟨[(0,List.replicate 9 .n),(1,[]),(2,List.replicate 14 .n)],10⟩ Tryz.func6 ?_
 have hb4:=lv4 l l.length
 refine xO (InK IntKind.i64 (2 * ↑l.length+1-1)) (by simp only [InK] at *; omega) ?_
 refine xA ?_ ?_
 ·skip
  refine xN fun b1 => ?_
  refine xN fun b2 => ?_
  refine xN fun b3 => ?_
  refine xW0 _ (view_row 5 (b:=b3) encD dnN 14 [(⟨(wN l.length).ki,(wN l.length).ke,(wN l.length).co,(wN l.length).cm,(wN l.length).fr,2 * ↑l.length+1-1⟩:DnR)] 46 sizedD (by simp [maxLen]) (by kernel_rfl)) ?_ sc_st
  refine xAp 5 (some {block:=b3,off:=0}) (1) encD dnN 14 ([(⟨(wN l.length).ki,(wN l.length).ke,(wN l.length).co,(wN l.length).cm,(wN l.length).fr,2 * ↑l.length+1-1⟩:DnR)]) 46 (l) (.i 15) oneD 176 (.slice a2 (l).length c2) (by first | (simp; done) | (simp; omega)) (fun F=>(src_sl (i:=1) (d:=dnN) (sz:=14) (t:=46) (by kernel_rfl))) (fun a5_ c5_ => ?_)
  refine xCy [⟨b2,none,0⟩,⟨b1,none,0⟩,⟨0,a5_,c5_⟩] [4,3,5] (Tg.n) ⟨[(0,(List.replicate 9 .n)),(1,[]),(2,[.n,.n,.n,.n,.n,.n,.n,.n,.n,.n,.n,.n,.n,.q 11 false]),(15,[])],56⟩ Tryz.call25 (fun F' h=>(t_linBad (c) (by omega) (([(⟨(wN l.length).ki,(wN l.length).ke,(wN l.length).co,(wN l.length).cm,(wN l.length).fr,(2:Int)*(↑l.length:Int)+(1:Int)-(1:Int)⟩:DnR)]++l).length) ([(⟨(wN l.length).ki,(wN l.length).ke,(wN l.length).co,(wN l.length).cm,(wN l.length).fr,2 * ↑l.length+1-1⟩:DnR)]++l) (by omega) (by first | (simp; done) | (simp; omega)) (by first | (simp; done) | (simp; omega)) hb4).fr) fun xn4 n4 hxn4 => ?_
  subst hxn4
  exact xJs hJ () trivial
 ·skip
  refine xN fun b5 => ?_
  refine xN fun b6 => ?_
  refine xN fun b7 => ?_
  refine xW0 _ (view_row 3 (b:=b5) encD dnN 14 [(⟨(wN l.length).ki,(wN l.length).ke,(wN l.length).co,(wN l.length).cm,(wN l.length).fr,2 * ↑l.length+1-1⟩:DnR)] 46 sizedD (by simp [maxLen]) (by kernel_rfl)) ?_ sc_st
  refine xAp 3 (some {block:=b5,off:=0}) (1) encD dnN 14 ([(⟨(wN l.length).ki,(wN l.length).ke,(wN l.length).co,(wN l.length).cm,(wN l.length).fr,2 * ↑l.length+1-1⟩:DnR)]) 46 (l) (.i 13) oneD 176 (.slice a2 (l).length c2) (by first | (simp; done) | (simp; omega)) (fun F=>(src_sl (i:=1) (d:=dnN) (sz:=14) (t:=46) (by kernel_rfl))) (fun a3_ c3_ => ?_)
  refine xCy [⟨b7,none,0⟩,⟨b6,none,0⟩,⟨0,a3_,c3_⟩] [5,4,3] (Tg.n) ⟨[(0,(List.replicate 9 .n)),(1,[]),(2,[.n,.n,.n,.n,.n,.n,.n,.n,.n,.n,.n,.n,.n,.q 11 false]),(13,[])],56⟩ Tryz.call25 (fun F' h=>(t_linBad (c) (by omega) (([(⟨(wN l.length).ki,(wN l.length).ke,(wN l.length).co,(wN l.length).cm,(wN l.length).fr,(2:Int)*(↑l.length:Int)+(1:Int)-(1:Int)⟩:DnR)]++l).length) ([(⟨(wN l.length).ki,(wN l.length).ke,(wN l.length).co,(wN l.length).cm,(wN l.length).fr,2 * ↑l.length+1-1⟩:DnR)]++l) (by omega) (by first | (simp; done) | (simp; omega)) (by first | (simp; done) | (simp; omega)) hb4).fr) fun xn8 n8 hxn8 => ?_
  subst hxn8
  exact xJs hJ () trivial
theorem sg3(n:Int)(m:Nat)(a0:Option Addr)(c0:Nat)(F:Fr)(g:Nat→Rf)(c:Cfg)(hc:c.Ok)(th:List Int)(l:List DnR)(hL:LinI c th l)(hl:l.length≤30)(b6:Nat)(a2:Option Addr)(c2:Nat)(b15:Nat):
  Go Tryz.prog Tryz.f6 (Tryz.f6.body.getD .skip) 148 F (RetR F (Some_ ((⟨[.s (.i .i64 n),.s (.o (.slice a0 m c0))],[],0,fun b=>b=true,fun b=>[.s (.bo b)],fun _=>[]⟩:Sp Bool).Q g))) [.c [1,1,1,1,1,1,1,1,1,1]] [(5,.bool true),(6,.pointer (some ⟨b6,0,none⟩)),(8,.slice a2 l.length c2),(13,.bool true),(14,.int .i64 (2*(l.length:Int)+1)),(15,.pointer (some ⟨b15,0,none⟩)),(16,.bool false)] [.pts b6 ((cfgS c).map (SV.v g)) 30,.sl a2 c2 encD dnN 14 l 46,.pts b15 (encD (wO l.length)) 46]:=by
 refine go_split (by kernel_rfl) ?_
 refine go_split2 (by kernel_rfl) ?_
 refine go_part [.c [0,1,1,1,1,1,1,1,1,1,1],.c [0,1,1,1,1,1,1,1,1,1,1,1]] [.c [1,1,1,1,1,1,1,1,1,1,1,1]] [5,6,8,13,14,15,16,17] [0,1,2] (fun u:Unit=>[(5,.bool true),(6,.pointer (some ⟨b6,0,none⟩)),(8,.slice a2 l.length c2),(13,.bool true),(14,.int .i64 (2*(l.length:Int)+1)),(15,.pointer (some ⟨b15,0,none⟩)),(16,.bool false),(17,.bool true)]) (fun u=>[.pts b6 ((cfgS c).map (SV.v g)) 30,.sl a2 c2 encD dnN 14 l 46,.pts b15 (encD (wN l.length)) 46]) (fun _=>True) (fun J hJ => ?_) (fun u _=>sg4 n m a0 c0 F g c hc th l hL hl b6 a2 c2 b15)
 refine xG xschI [(6,.i 0),(8,.i 1),(15,.i 2)] ⟨[(0,List.replicate 9 .n),(1,[]),(2,List.replicate 14 .n)],10⟩ Tryz.func6 ?_
 have hv3:=lv3 hL hl
 refine xA ?_ ?_
 ·skip
  refine xN fun b1 => ?_
  refine xN fun b2 => ?_
  refine xN fun b3 => ?_
  refine xW0 _ (view_row 5 (b:=b3) encD dnN 14 [(⟨(wO l.length).ki,(wO l.length).ke,12,(wO l.length).cm,(wO l.length).fr,(wO l.length).to_⟩:DnR)] 46 sizedD (by simp [maxLen]) (by kernel_rfl)) ?_ sc_st
  refine xAp 5 (some {block:=b3,off:=0}) (1) encD dnN 14 ([(⟨(wO l.length).ki,(wO l.length).ke,12,(wO l.length).cm,(wO l.length).fr,(wO l.length).to_⟩:DnR)]) 46 (l) (.i 13) oneD 176 (.slice a2 (l).length c2) (by first | (simp; done) | (simp; omega)) (fun F=>(src_sl (i:=1) (d:=dnN) (sz:=14) (t:=46) (by kernel_rfl))) (fun a5_ c5_ => ?_)
  refine xCy [⟨b2,none,0⟩,⟨b1,none,0⟩,⟨0,a5_,c5_⟩] [4,3,5] (Tg.n) ⟨[(0,(List.replicate 9 .n)),(1,[]),(2,[.n,.n,.n,.n,.n,.n,.n,.c,.n,.n,.n,.n,.n,.n]),(13,[])],54⟩ Tryz.call25 (fun F' h=>(t_linV (c) (by omega) (([(⟨(wO l.length).ki,(wO l.length).ke,(12:Int),(wO l.length).cm,(wO l.length).fr,(wO l.length).to_⟩:DnR)]++l).length) ([(⟨(wO l.length).ki,(wO l.length).ke,12,(wO l.length).cm,(wO l.length).fr,(wO l.length).to_⟩:DnR)]++l) _ (by omega) hv3).fr) fun xn4 n4 hxn4 => ?_
  subst hxn4
  exact xJs hJ () trivial
 ·skip
  refine xN fun b5 => ?_
  refine xN fun b6 => ?_
  refine xN fun b7 => ?_
  refine xW0 _ (view_row 3 (b:=b5) encD dnN 14 [(⟨(wO l.length).ki,(wO l.length).ke,12,(wO l.length).cm,(wO l.length).fr,(wO l.length).to_⟩:DnR)] 46 sizedD (by simp [maxLen]) (by kernel_rfl)) ?_ sc_st
  refine xAp 3 (some {block:=b5,off:=0}) (1) encD dnN 14 ([(⟨(wO l.length).ki,(wO l.length).ke,12,(wO l.length).cm,(wO l.length).fr,(wO l.length).to_⟩:DnR)]) 46 (l) (.i 11) oneD 176 (.slice a2 (l).length c2) (by first | (simp; done) | (simp; omega)) (fun F=>(src_sl (i:=1) (d:=dnN) (sz:=14) (t:=46) (by kernel_rfl))) (fun a3_ c3_ => ?_)
  refine xCy [⟨b7,none,0⟩,⟨b6,none,0⟩,⟨0,a3_,c3_⟩] [5,4,3] (Tg.n) ⟨[(0,(List.replicate 9 .n)),(1,[]),(2,[.n,.n,.n,.n,.n,.n,.n,.c,.n,.n,.n,.n,.n,.n]),(11,[])],54⟩ Tryz.call25 (fun F' h=>(t_linV (c) (by omega) (([(⟨(wO l.length).ki,(wO l.length).ke,(12:Int),(wO l.length).cm,(wO l.length).fr,(wO l.length).to_⟩:DnR)]++l).length) ([(⟨(wO l.length).ki,(wO l.length).ke,12,(wO l.length).cm,(wO l.length).fr,(wO l.length).to_⟩:DnR)]++l) _ (by omega) hv3).fr) fun xn8 n8 hxn8 => ?_
  subst hxn8
  exact xJs hJ () trivial
theorem sg2b(n:Int)(m:Nat)(a0:Option Addr)(c0:Nat)(F:Fr)(g:Nat→Rf)(c:Cfg)(hc:c.Ok)(th:List Int)(l:List DnR)(hL:LinI c th l)(hl:l.length≤30)(b6:Nat)(a2:Option Addr)(c2:Nat)(b15:Nat):
  Go Tryz.prog Tryz.f6 (Tryz.f6.body.getD .skip) 148 F (RetR F (Some_ ((⟨[.s (.i .i64 n),.s (.o (.slice a0 m c0))],[],0,fun b=>b=true,fun b=>[.s (.bo b)],fun _=>[]⟩:Sp Bool).Q g))) [.c [1,1,1,1,1,1,1,1,1]] [(5,.bool true),(6,.pointer (some ⟨b6,0,none⟩)),(8,.slice a2 l.length c2),(13,.bool true),(14,.int .i64 (2*(l.length:Int)+1)),(15,.pointer (some ⟨b15,0,none⟩))] [.pts b6 ((cfgS c).map (SV.v g)) 30,.sl a2 c2 encD dnN 14 l 46,.pts b15 (encD (wO l.length)) 46]:=by
 refine go_split (by kernel_rfl) ?_
 refine go_part [.c [0,1,1,1,1,1,1,1,1,1]] [.c [1,1,1,1,1,1,1,1,1,1]] [5,6,8,13,14,15,16] [0,1,2] (fun u:Unit=>[(5,.bool true),(6,.pointer (some ⟨b6,0,none⟩)),(8,.slice a2 l.length c2),(13,.bool true),(14,.int .i64 (2*(l.length:Int)+1)),(15,.pointer (some ⟨b15,0,none⟩)),(16,.bool false)]) (fun u=>[.pts b6 ((cfgS c).map (SV.v g)) 30,.sl a2 c2 encD dnN 14 l 46,.pts b15 (encD (wO l.length)) 46]) (fun _=>True) (fun J hJ => ?_) (fun u _=>sg3 n m a0 c0 F g c hc th l hL hl b6 a2 c2 b15)
 refine xG xschI [(6,.i 0),(8,.i 1),(15,.i 2)] ⟨[(0,List.replicate 9 .n),(1,[]),(2,List.replicate 14 .n)],10⟩ Tryz.func6 ?_
 have hv2:=lv2 hL hl
 refine xA ?_ ?_
 ·skip
  refine xN fun b1 => ?_
  refine xN fun b2 => ?_
  refine xA ?_ ?_
  ·skip
   refine xN fun b3 => ?_
   refine xA ?_ ?_
   ·skip
    refine xW0 _ (view_empty 5 (b:=b3) encD dnN 14 46 sizedD (by kernel_rfl)) ?_ sc_st
    refine xAp 5 (some {block:=b3,off:=0}) (0) encD dnN 14 ([]) 46 (l) (.i 12) oneD 176 (.slice a2 (l).length c2) (by first | (simp; done) | (simp; omega)) (fun F=>(src_sl (i:=1) (d:=dnN) (sz:=14) (t:=46) (by kernel_rfl))) (fun a5_ c5_ => ?_)
    refine xN fun b4 => ?_
    refine xAp 5 (a5_) (c5_) encD dnN 14 ([]++l) 46 [(⟨(wO l.length).ki,(wO l.length).ke,(wO l.length).co,(wO l.length).cm,(wO l.length).fr,(wO l.length).to_⟩:DnR)] (.i 12) oneD 176 (.slice (some ⟨b4,0,none⟩) 1 1) (by first | (simp; done) | (simp; omega)) (fun F=>(src_pts (i:=6) (n:=1) (c:=1) (cs:=cellsOf encD [(⟨(wO l.length).ki,(wO l.length).ke,(wO l.length).co,(wO l.length).cm,(wO l.length).fr,(wO l.length).to_⟩:DnR)]) (t:=46) (by kernel_rfl))) (fun a5_ c5_ => ?_)
    refine xCy [⟨b2,none,0⟩,⟨b1,none,0⟩,⟨0,a5_,c5_⟩] [4,3,5] (Tg.n) ⟨[(0,(List.replicate 9 .n)),(1,[]),(2,(List.replicate 14 .n)),(13,(List.replicate 14 .n)),(12,[])],54⟩ Tryz.call25 (fun F' h=>(t_linV (c) (by omega) (([]++l++[(⟨(wO l.length).ki,(wO l.length).ke,(wO l.length).co,(wO l.length).cm,(wO l.length).fr,(wO l.length).to_⟩:DnR)]).length) ([]++l++[(⟨(wO l.length).ki,(wO l.length).ke,(wO l.length).co,(wO l.length).cm,(wO l.length).fr,(wO l.length).to_⟩:DnR)]) _ (by omega) hv2).fr) fun xn5 n5 hxn5 => ?_
    subst hxn5
    exact xJs hJ () trivial
   ·skip
    refine xN fun b6 => ?_
    refine xW0 _ (view_empty 5 (b:=b3) encD dnN 14 46 sizedD (by kernel_rfl)) ?_ sc_st
    refine xAp 5 (some {block:=b3,off:=0}) (0) encD dnN 14 ([]) 46 (l) (.i 12) oneD 176 (.slice a2 (l).length c2) (by first | (simp; done) | (simp; omega)) (fun F=>(src_sl (i:=1) (d:=dnN) (sz:=14) (t:=46) (by kernel_rfl))) (fun a5_ c5_ => ?_)
    refine xAp 5 (a5_) (c5_) encD dnN 14 ([]++l) 46 [(⟨(wO l.length).ki,(wO l.length).ke,(wO l.length).co,(wO l.length).cm,(wO l.length).fr,(wO l.length).to_⟩:DnR)] (.i 12) oneD 176 (.slice (some ⟨b6,0,none⟩) 1 1) (by first | (simp; done) | (simp; omega)) (fun F=>(src_pts (i:=6) (n:=1) (c:=1) (cs:=cellsOf encD [(⟨(wO l.length).ki,(wO l.length).ke,(wO l.length).co,(wO l.length).cm,(wO l.length).fr,(wO l.length).to_⟩:DnR)]) (t:=46) (by kernel_rfl))) (fun a5_ c5_ => ?_)
    refine xCy [⟨b2,none,0⟩,⟨b1,none,0⟩,⟨0,a5_,c5_⟩] [4,3,5] (Tg.n) ⟨[(0,(List.replicate 9 .n)),(1,[]),(2,(List.replicate 14 .n)),(13,(List.replicate 14 .n)),(12,[])],54⟩ Tryz.call25 (fun F' h=>(t_linV (c) (by omega) (([]++l++[(⟨(wO l.length).ki,(wO l.length).ke,(wO l.length).co,(wO l.length).cm,(wO l.length).fr,(wO l.length).to_⟩:DnR)]).length) ([]++l++[(⟨(wO l.length).ki,(wO l.length).ke,(wO l.length).co,(wO l.length).cm,(wO l.length).fr,(wO l.length).to_⟩:DnR)]) _ (by omega) hv2).fr) fun xn7 n7 hxn7 => ?_
    subst hxn7
    exact xJs hJ () trivial
  ·skip
   refine xN fun b8 => ?_
   refine xN fun b9 => ?_
   refine xW0 _ (view_empty 6 (b:=b9) encD dnN 14 46 sizedD (by kernel_rfl)) ?_ sc_st
   refine xAp 6 (some {block:=b9,off:=0}) (0) encD dnN 14 ([]) 46 (l) (.i 13) oneD 176 (.slice a2 (l).length c2) (by first | (simp; done) | (simp; omega)) (fun F=>(src_sl (i:=1) (d:=dnN) (sz:=14) (t:=46) (by kernel_rfl))) (fun a6_ c6_ => ?_)
   refine xAp 6 (a6_) (c6_) encD dnN 14 ([]++l) 46 [(⟨(wO l.length).ki,(wO l.length).ke,(wO l.length).co,(wO l.length).cm,(wO l.length).fr,(wO l.length).to_⟩:DnR)] (.i 13) oneD 176 (.slice (some ⟨b8,0,none⟩) 1 1) (by first | (simp; done) | (simp; omega)) (fun F=>(src_pts (i:=5) (n:=1) (c:=1) (cs:=cellsOf encD [(⟨(wO l.length).ki,(wO l.length).ke,(wO l.length).co,(wO l.length).cm,(wO l.length).fr,(wO l.length).to_⟩:DnR)]) (t:=46) (by kernel_rfl))) (fun a6_ c6_ => ?_)
   refine xCy [⟨b2,none,0⟩,⟨b1,none,0⟩,⟨0,a6_,c6_⟩] [4,3,6] (Tg.n) ⟨[(0,(List.replicate 9 .n)),(1,[]),(2,(List.replicate 14 .n)),(12,(List.replicate 14 .n)),(13,[])],54⟩ Tryz.call25 (fun F' h=>(t_linV (c) (by omega) (([]++l++[(⟨(wO l.length).ki,(wO l.length).ke,(wO l.length).co,(wO l.length).cm,(wO l.length).fr,(wO l.length).to_⟩:DnR)]).length) ([]++l++[(⟨(wO l.length).ki,(wO l.length).ke,(wO l.length).co,(wO l.length).cm,(wO l.length).fr,(wO l.length).to_⟩:DnR)]) _ (by omega) hv2).fr) fun xn10 n10 hxn10 => ?_
   subst hxn10
   exact xJs hJ () trivial
 ·skip
  refine xA ?_ ?_
  ·skip
   refine xN fun b11 => ?_
   refine xA ?_ ?_
   ·skip
    refine xN fun b12 => ?_
    refine xN fun b13 => ?_
    refine xA ?_ ?_
    ·skip
     refine xW0 _ (view_empty 3 (b:=b11) encD dnN 14 46 sizedD (by kernel_rfl)) ?_ sc_st
     refine xAp 3 (some {block:=b11,off:=0}) (0) encD dnN 14 ([]) 46 (l) (.i 10) oneD 176 (.slice a2 (l).length c2) (by first | (simp; done) | (simp; omega)) (fun F=>(src_sl (i:=1) (d:=dnN) (sz:=14) (t:=46) (by kernel_rfl))) (fun a3_ c3_ => ?_)
     refine xN fun b14 => ?_
     refine xAp 3 (a3_) (c3_) encD dnN 14 ([]++l) 46 [(⟨(wO l.length).ki,(wO l.length).ke,(wO l.length).co,(wO l.length).cm,(wO l.length).fr,(wO l.length).to_⟩:DnR)] (.i 10) oneD 176 (.slice (some ⟨b14,0,none⟩) 1 1) (by first | (simp; done) | (simp; omega)) (fun F=>(src_pts (i:=6) (n:=1) (c:=1) (cs:=cellsOf encD [(⟨(wO l.length).ki,(wO l.length).ke,(wO l.length).co,(wO l.length).cm,(wO l.length).fr,(wO l.length).to_⟩:DnR)]) (t:=46) (by kernel_rfl))) (fun a3_ c3_ => ?_)
     refine xCy [⟨b13,none,0⟩,⟨b12,none,0⟩,⟨0,a3_,c3_⟩] [5,4,3] (Tg.n) ⟨[(0,(List.replicate 9 .n)),(1,[]),(2,(List.replicate 14 .n)),(13,(List.replicate 14 .n)),(10,[])],54⟩ Tryz.call25 (fun F' h=>(t_linV (c) (by omega) (([]++l++[(⟨(wO l.length).ki,(wO l.length).ke,(wO l.length).co,(wO l.length).cm,(wO l.length).fr,(wO l.length).to_⟩:DnR)]).length) ([]++l++[(⟨(wO l.length).ki,(wO l.length).ke,(wO l.length).co,(wO l.length).cm,(wO l.length).fr,(wO l.length).to_⟩:DnR)]) _ (by omega) hv2).fr) fun xn15 n15 hxn15 => ?_
     subst hxn15
     exact xJs hJ () trivial
    ·skip
     refine xN fun b16 => ?_
     refine xW0 _ (view_empty 3 (b:=b11) encD dnN 14 46 sizedD (by kernel_rfl)) ?_ sc_st
     refine xAp 3 (some {block:=b11,off:=0}) (0) encD dnN 14 ([]) 46 (l) (.i 10) oneD 176 (.slice a2 (l).length c2) (by first | (simp; done) | (simp; omega)) (fun F=>(src_sl (i:=1) (d:=dnN) (sz:=14) (t:=46) (by kernel_rfl))) (fun a3_ c3_ => ?_)
     refine xAp 3 (a3_) (c3_) encD dnN 14 ([]++l) 46 [(⟨(wO l.length).ki,(wO l.length).ke,(wO l.length).co,(wO l.length).cm,(wO l.length).fr,(wO l.length).to_⟩:DnR)] (.i 10) oneD 176 (.slice (some ⟨b16,0,none⟩) 1 1) (by first | (simp; done) | (simp; omega)) (fun F=>(src_pts (i:=6) (n:=1) (c:=1) (cs:=cellsOf encD [(⟨(wO l.length).ki,(wO l.length).ke,(wO l.length).co,(wO l.length).cm,(wO l.length).fr,(wO l.length).to_⟩:DnR)]) (t:=46) (by kernel_rfl))) (fun a3_ c3_ => ?_)
     refine xCy [⟨b13,none,0⟩,⟨b12,none,0⟩,⟨0,a3_,c3_⟩] [5,4,3] (Tg.n) ⟨[(0,(List.replicate 9 .n)),(1,[]),(2,(List.replicate 14 .n)),(13,(List.replicate 14 .n)),(10,[])],54⟩ Tryz.call25 (fun F' h=>(t_linV (c) (by omega) (([]++l++[(⟨(wO l.length).ki,(wO l.length).ke,(wO l.length).co,(wO l.length).cm,(wO l.length).fr,(wO l.length).to_⟩:DnR)]).length) ([]++l++[(⟨(wO l.length).ki,(wO l.length).ke,(wO l.length).co,(wO l.length).cm,(wO l.length).fr,(wO l.length).to_⟩:DnR)]) _ (by omega) hv2).fr) fun xn17 n17 hxn17 => ?_
     subst hxn17
     exact xJs hJ () trivial
   ·skip
    refine xN fun b18 => ?_
    refine xN fun b19 => ?_
    refine xN fun b20 => ?_
    refine xW0 _ (view_empty 3 (b:=b11) encD dnN 14 46 sizedD (by kernel_rfl)) ?_ sc_st
    refine xAp 3 (some {block:=b11,off:=0}) (0) encD dnN 14 ([]) 46 (l) (.i 10) oneD 176 (.slice a2 (l).length c2) (by first | (simp; done) | (simp; omega)) (fun F=>(src_sl (i:=1) (d:=dnN) (sz:=14) (t:=46) (by kernel_rfl))) (fun a3_ c3_ => ?_)
    refine xAp 3 (a3_) (c3_) encD dnN 14 ([]++l) 46 [(⟨(wO l.length).ki,(wO l.length).ke,(wO l.length).co,(wO l.length).cm,(wO l.length).fr,(wO l.length).to_⟩:DnR)] (.i 10) oneD 176 (.slice (some ⟨b18,0,none⟩) 1 1) (by first | (simp; done) | (simp; omega)) (fun F=>(src_pts (i:=4) (n:=1) (c:=1) (cs:=cellsOf encD [(⟨(wO l.length).ki,(wO l.length).ke,(wO l.length).co,(wO l.length).cm,(wO l.length).fr,(wO l.length).to_⟩:DnR)]) (t:=46) (by kernel_rfl))) (fun a3_ c3_ => ?_)
    refine xCy [⟨b20,none,0⟩,⟨b19,none,0⟩,⟨0,a3_,c3_⟩] [6,5,3] (Tg.n) ⟨[(0,(List.replicate 9 .n)),(1,[]),(2,(List.replicate 14 .n)),(11,(List.replicate 14 .n)),(10,[])],54⟩ Tryz.call25 (fun F' h=>(t_linV (c) (by omega) (([]++l++[(⟨(wO l.length).ki,(wO l.length).ke,(wO l.length).co,(wO l.length).cm,(wO l.length).fr,(wO l.length).to_⟩:DnR)]).length) ([]++l++[(⟨(wO l.length).ki,(wO l.length).ke,(wO l.length).co,(wO l.length).cm,(wO l.length).fr,(wO l.length).to_⟩:DnR)]) _ (by omega) hv2).fr) fun xn21 n21 hxn21 => ?_
    subst hxn21
    exact xJs hJ () trivial
  ·skip
   refine xN fun b22 => ?_
   refine xA ?_ ?_
   ·skip
    refine xN fun b23 => ?_
    refine xN fun b24 => ?_
    refine xN fun b25 => ?_
    refine xW0 _ (view_empty 6 (b:=b25) encD dnN 14 46 sizedD (by kernel_rfl)) ?_ sc_st
    refine xAp 6 (some {block:=b25,off:=0}) (0) encD dnN 14 ([]) 46 (l) (.i 13) oneD 176 (.slice a2 (l).length c2) (by first | (simp; done) | (simp; omega)) (fun F=>(src_sl (i:=1) (d:=dnN) (sz:=14) (t:=46) (by kernel_rfl))) (fun a6_ c6_ => ?_)
    refine xAp 6 (a6_) (c6_) encD dnN 14 ([]++l) 46 [(⟨(wO l.length).ki,(wO l.length).ke,(wO l.length).co,(wO l.length).cm,(wO l.length).fr,(wO l.length).to_⟩:DnR)] (.i 13) oneD 176 (.slice (some ⟨b22,0,none⟩) 1 1) (by first | (simp; done) | (simp; omega)) (fun F=>(src_pts (i:=3) (n:=1) (c:=1) (cs:=cellsOf encD [(⟨(wO l.length).ki,(wO l.length).ke,(wO l.length).co,(wO l.length).cm,(wO l.length).fr,(wO l.length).to_⟩:DnR)]) (t:=46) (by kernel_rfl))) (fun a6_ c6_ => ?_)
    refine xCy [⟨b24,none,0⟩,⟨b23,none,0⟩,⟨0,a6_,c6_⟩] [5,4,6] (Tg.n) ⟨[(0,(List.replicate 9 .n)),(1,[]),(2,(List.replicate 14 .n)),(10,(List.replicate 14 .n)),(13,[])],54⟩ Tryz.call25 (fun F' h=>(t_linV (c) (by omega) (([]++l++[(⟨(wO l.length).ki,(wO l.length).ke,(wO l.length).co,(wO l.length).cm,(wO l.length).fr,(wO l.length).to_⟩:DnR)]).length) ([]++l++[(⟨(wO l.length).ki,(wO l.length).ke,(wO l.length).co,(wO l.length).cm,(wO l.length).fr,(wO l.length).to_⟩:DnR)]) _ (by omega) hv2).fr) fun xn26 n26 hxn26 => ?_
    subst hxn26
    exact xJs hJ () trivial
   ·skip
    refine xN fun b27 => ?_
    refine xN fun b28 => ?_
    refine xN fun b29 => ?_
    refine xW0 _ (view_empty 4 (b:=b27) encD dnN 14 46 sizedD (by kernel_rfl)) ?_ sc_st
    refine xAp 4 (some {block:=b27,off:=0}) (0) encD dnN 14 ([]) 46 (l) (.i 11) oneD 176 (.slice a2 (l).length c2) (by first | (simp; done) | (simp; omega)) (fun F=>(src_sl (i:=1) (d:=dnN) (sz:=14) (t:=46) (by kernel_rfl))) (fun a4_ c4_ => ?_)
    refine xAp 4 (a4_) (c4_) encD dnN 14 ([]++l) 46 [(⟨(wO l.length).ki,(wO l.length).ke,(wO l.length).co,(wO l.length).cm,(wO l.length).fr,(wO l.length).to_⟩:DnR)] (.i 11) oneD 176 (.slice (some ⟨b22,0,none⟩) 1 1) (by first | (simp; done) | (simp; omega)) (fun F=>(src_pts (i:=3) (n:=1) (c:=1) (cs:=cellsOf encD [(⟨(wO l.length).ki,(wO l.length).ke,(wO l.length).co,(wO l.length).cm,(wO l.length).fr,(wO l.length).to_⟩:DnR)]) (t:=46) (by kernel_rfl))) (fun a4_ c4_ => ?_)
    refine xCy [⟨b29,none,0⟩,⟨b28,none,0⟩,⟨0,a4_,c4_⟩] [6,5,4] (Tg.n) ⟨[(0,(List.replicate 9 .n)),(1,[]),(2,(List.replicate 14 .n)),(10,(List.replicate 14 .n)),(11,[])],54⟩ Tryz.call25 (fun F' h=>(t_linV (c) (by omega) (([]++l++[(⟨(wO l.length).ki,(wO l.length).ke,(wO l.length).co,(wO l.length).cm,(wO l.length).fr,(wO l.length).to_⟩:DnR)]).length) ([]++l++[(⟨(wO l.length).ki,(wO l.length).ke,(wO l.length).co,(wO l.length).cm,(wO l.length).fr,(wO l.length).to_⟩:DnR)]) _ (by omega) hv2).fr) fun xn30 n30 hxn30 => ?_
    subst hxn30
    exact xJs hJ () trivial
theorem sg2a(n:Int)(m:Nat)(a0:Option Addr)(c0:Nat)(F:Fr)(g:Nat→Rf)(c:Cfg)(hc:c.Ok)(th:List Int)(l:List DnR)(hL:LinI c th l)(hl:l.length≤30)(b6:Nat)(a2:Option Addr)(c2:Nat):
  Go Tryz.prog Tryz.f6 (Tryz.f6.body.getD .skip) 148 F (RetR F (Some_ ((⟨[.s (.i .i64 n),.s (.o (.slice a0 m c0))],[],0,fun b=>b=true,fun b=>[.s (.bo b)],fun _=>[]⟩:Sp Bool).Q g))) [.c [1,1,1,1,1,1,1]] [(5,.bool true),(6,.pointer (some ⟨b6,0,none⟩)),(8,.slice a2 l.length c2),(13,.bool true)] [.pts b6 ((cfgS c).map (SV.v g)) 30,.sl a2 c2 encD dnN 14 l 46]:=by
 refine go_split (by kernel_rfl) ?_
 refine go_split2 (by kernel_rfl) ?_
 refine go_part [.c [0,1,1,1,1,1,1,1],.c [0,1,1,1,1,1,1,1,1]] [.c [1,1,1,1,1,1,1,1,1]] [5,6,8,13,14,15] [0,1,2] (fun b15:Nat=>[(5,.bool true),(6,.pointer (some ⟨b6,0,none⟩)),(8,.slice a2 l.length c2),(13,.bool true),(14,.int .i64 (2*(l.length:Int)+1)),(15,.pointer (some ⟨b15,0,none⟩))]) (fun b15=>[.pts b6 ((cfgS c).map (SV.v g)) 30,.sl a2 c2 encD dnN 14 l 46,.pts b15 (encD (wO l.length)) 46]) (fun _=>True) (fun J hJ => ?_) (fun b15 _=>sg2b n m a0 c0 F g c hc th l hL hl b6 a2 c2 b15)
 refine xG xschI [(6,.i 0),(8,.i 1)] ⟨[(0,List.replicate 9 .n),(1,[])],10⟩ Tryz.func6 ?_
 refine xO (InK IntKind.i64 (2 * ↑l.length)) (by simp only [InK] at *; omega) ?_
 refine xO (InK IntKind.i64 (2 * ↑l.length+1)) (by simp only [InK] at *; omega) ?_
 refine xO (InK IntKind.i64 (2 * ↑l.length+1-1)) (by simp only [InK] at *; omega) ?_
 refine xN fun b1 => ?_
 exact xJs hJ b1 trivial
theorem sg1(n:Int)(m:Nat)(a0:Option Addr)(c0:Nat)(F:Fr)(g:Nat→Rf)(c:Cfg)(hc:c.Ok)(th:List Int)(l:List DnR)(hL:LinI c th l)(hl:l.length≤30)(b6:Nat)(a2:Option Addr)(c2:Nat):
  Go Tryz.prog Tryz.f6 (Tryz.f6.body.getD .skip) 148 F (RetR F (Some_ ((⟨[.s (.i .i64 n),.s (.o (.slice a0 m c0))],[],0,fun b=>b=true,fun b=>[.s (.bo b)],fun _=>[]⟩:Sp Bool).Q g))) [.c [1,1,1,1,1,1]] [(5,.bool true),(6,.pointer (some ⟨b6,0,none⟩)),(8,.slice a2 l.length c2)] [.pts b6 ((cfgS c).map (SV.v g)) 30,.sl a2 c2 encD dnN 14 l 46]:=by
 refine go_split (by kernel_rfl) ?_
 refine go_part [.c [0,1,1,1,1,1,1]] [.c [1,1,1,1,1,1,1]] [5,6,8,13] [0,1] (fun u:Unit=>[(5,.bool true),(6,.pointer (some ⟨b6,0,none⟩)),(8,.slice a2 l.length c2),(13,.bool true)]) (fun u=>[.pts b6 ((cfgS c).map (SV.v g)) 30,.sl a2 c2 encD dnN 14 l 46]) (fun _=>True) (fun J hJ => ?_) (fun u _=>sg2a n m a0 c0 F g c hc th l hL hl b6 a2 c2)
 refine xG xschI [(6,.i 0),(8,.i 1)] ⟨[(0,List.replicate 9 .n),(1,[])],10⟩ Tryz.func6 ?_
 have hv1:=lv1 hL hl
 refine xN fun b1 => ?_
 refine xN fun b2 => ?_
 refine xCy [⟨b2,none,0⟩,⟨b1,none,0⟩,⟨0,a2,c2⟩] [3,2,1] (Tg.n) ⟨[(0,(List.replicate 9 .n)),(1,[])],52⟩ Tryz.call25 (fun F' h=>(t_linV (c) (by omega) (l.length) (l) _ (by omega) hv1).fr) fun xn3 n3 hxn3 => ?_
 subst hxn3
 exact xJs hJ () trivial
end Go.Proofs.YthijdhenekmojaaGreatDoor
/- ModelOne: the walk, whole. -/
set_option linter.unusedSimpArgs false
set_option maxRecDepth 100000
set_option maxHeartbeats 0
namespace Go.Proofs.YthijdhenekmojaaGreatDoor
open Go.Sx
/-- how many topics there are, by a number -/
def tOf(n:Int): Int:=1+IntKind.i64.wrap ↑(BitVec.ofInt IntKind.i64.bits n &&& BitVec.ofInt IntKind.i64.bits 3).toNat
theorem tOf_rng(n:Int): 1≤tOf n∧tOf n≤4:=by
 have:=and3 n
 unfold tOf
 omega
theorem t_configE(n:Int): Ct Tryz.prog 9 (sU [.s (.i .i64 n)] [] 0 [.g (cfgS (cf (tOf n)))] []):=by
 refine cX 8 xaI Tryz.func9 fun g F => ?_
 refine xN fun b1 => ?_
 refine xO (InK IntKind.i64 (1+IntKind.i64.wrap ↑(BitVec.ofInt IntKind.i64.bits n &&& BitVec.ofInt IntKind.i64.bits 3).toNat)) (by have:=and3 n; simp only [InK]; omega) ?_
 refine xN fun b2 => ?_
 refine xN fun b3 => ?_
 refine xN fun b4 => ?_
 exact xR () trivial
theorem t_one(n:Int)(ks:List Int)(a0:Option Addr)(c0:Nat)(hl0:ks.length≤maxLen)(F:Fr)(hr:RowF F a0 .i64 ks):
  CtF Tryz.prog F 6 (⟨[.s (.i .i64 n),.s (.o (.slice a0 ks.length c0))],[],0,fun b=>b=true,fun b=>[.s (.bo b)],fun _=>[]⟩:Sp Bool):=by
 refine cF 148 xschI Tryz.func6 fun g => ?_
 refine xCy [] [] (Tg.n) ⟨[],40⟩ Tryz.call7 (fun F' h=>(t_awake).fr) fun xn1 n1 hxn1 => ?_
 subst hxn1
 refine xCy [] [] (Tg.n) ⟨[],82⟩ Tryz.call9 (fun F' h=>(t_configE (n)).fr) fun _ n3 _ => ?_
 refine xN fun b6 => ?_
 refine xW0 _ (view_nil (Go.Sx.encI .i64) 0 1 3 (sizedI _)) (xW0 _ (view_nil encD dnN 14 46 sizedD) ?_ sc_st) sc_st
 refine xGo [1,5,6,7,8,9] [0,1,2] _ _ _ (go_part [.c [0,1,0,1,1,1,1,1],.b 0] [.c [1,1,1,1,1,1]] [5,6,8] [0,2] (fun s:OnS=>[(5,.bool true),(6,.pointer (some ⟨b6,0,none⟩)),(8,.slice s.a2 s.l.length s.c2)]) (fun s=>[.pts b6 ((cfgS (cf (tOf n))).map (SV.v g)) 30,.sl s.a2 s.c2 encD dnN 14 s.l 46]) (OnI (cf (tOf n)))
  (fun JJ hJJ=>t_oneL n ks a0 c0 hl0 F hr _ g (cf (tOf n)) (cf_ok (tOf_rng n)) b6 JJ hJJ)
  (fun s hI=>sg1 n ks.length a0 c0 F g (cf (tOf n)) (cf_ok (tOf_rng n)) s.th s.l hI.2.2.2 (by have:=hI.1; have:=hI.2.1; omega) b6 s.a2 s.c2))
end Go.Proofs.YthijdhenekmojaaGreatDoor

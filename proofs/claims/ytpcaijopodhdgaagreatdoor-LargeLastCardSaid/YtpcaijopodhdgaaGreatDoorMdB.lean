/- Plain laws: configs, words, lists, no program in sight, part 2 of those on which LargeLast rests. -/
import Derived.Test.YtpcaijopodhdgaaGreatDoorMdA

set_option linter.unusedVariables false
set_option linter.unusedSimpArgs false
/- A run of law17 that goes on alone. -/
namespace Go.Sx
def gvM(ws:List Int)(G:Gv): Int:=match G.ph with
 | 1=>3
 | 2=>if ws.getD G.head.toNat 0=G.seen then 2 else 5
 | 3=>if ws.getD G.head.toNat 0=G.seen then 1 else 4
 | _=>0
theorem gvM_rng(ws:List Int)(G:Gv): 0≤gvM ws G∧gvM ws G≤5:=by
 unfold gvM
 split <;> (try split) <;> omega
theorem gv_alone{c:Cfg}(hc:c.Ok){G:Gv}{A:Ar}(hG:GvR c G): (G.step c A).1.ph=0∨gvM (G.step c A).2.ws (G.step c A).1+1≤gvM A.ws G:=by
 obtain⟨h1,h2,h3,h4⟩:=hG
 have hb:=clsOf_ok h3
 have hl:=blockAt_lo hc h3
 have hk:=clsOf_le c G.block
 have hc':=hc
 simp only [Cfg.Ok] at hc'
 obtain⟨hd,sn,bl,ph⟩:=G
 simp only at h1 h2 h3 h4 hb hl hk
 unfold Gv.step
 match ph,h1 with
 | 1,_=>right; show(if A.ws.getD hd.toNat 0=A.ws.getD hd.toNat 0 then(2:Int) else 5)+1≤3; rw [if_pos rfl]; decide
 | 2,_=>
  right
  have e:(A.ws.set (blockAt c bl).toNat (lo32 sn)).getD hd.toNat 0=A.ws.getD hd.toNat 0:=getD_set_ne (by omega)
  show(if (A.ws.set (blockAt c bl).toNat (lo32 sn)).getD hd.toNat 0=sn then(1:Int) else 4)+1≤(if A.ws.getD hd.toNat 0=sn then(2:Int) else 5)
  rw [e]; split <;> omega
 | 3,_=>
  simp only
  split
  ·exact .inl rfl
  ·rename_i h
   right; show(3:Int)+1≤(if A.ws.getD hd.toNat 0=sn then(1:Int) else 4)
   rw [if_neg h]; decide
def tkM(ws:List Int)(T:Tk): Int:=match T.ph with
 | 1=>3
 | 2=>if ws.getD T.head.toNat 0=T.seen then 2 else 5
 | 3=>if ws.getD T.head.toNat 0=T.seen then 1 else 4
 | _=>0
theorem tkM_rng(ws:List Int)(T:Tk): 0≤tkM ws T∧tkM ws T≤5:=by
 unfold tkM
 split <;> (try split) <;> omega
theorem tk_alone{c:Cfg}{T:Tk}{A:Ar}(h0:T.ph≠0)(h3:T.ph≤3): ((T.step c A).1.ph=0∧1≤tkM A.ws T)∨((T.step c A).1.ph≠0∧tkM (T.step c A).2.ws (T.step c A).1+1≤tkM A.ws T):=by
 obtain⟨hd,cl,sn,bk,af,ph⟩:=T
 simp only at h0 h3
 unfold Tk.step
 match ph,h3 with
 | 0,_=>exact absurd rfl h0
 | 1,_=>
  simp only
  split
  ·right
   refine⟨fun h=>absurd h (by simp), ?_⟩
   show(if A.ws.getD hd.toNat 0=A.ws.getD hd.toNat 0 then(2:Int) else 5)+1≤3
   rw [if_pos rfl]; decide
  ·left; exact⟨rfl,by show(1:Int)≤3; decide⟩
 | 2,_=>
  right
  refine⟨fun h=>absurd h (by simp), ?_⟩
  show(if A.ws.getD hd.toNat 0=sn then(1:Int) else 4)+1≤(if A.ws.getD hd.toNat 0=sn then(2:Int) else 5)
  split <;> omega
 | 3,_=>
  simp only
  split
  ·rename_i h
   left; refine⟨rfl, ?_⟩
   show(1:Int)≤(if A.ws.getD hd.toNat 0=sn then(1:Int) else 4)
   rw [if_pos h]; decide
  ·rename_i h
   right
   refine⟨fun h=>absurd h (by simp), ?_⟩
   show(3:Int)+1≤(if A.ws.getD hd.toNat 0=sn then(1:Int) else 4)
   rw [if_neg h]; decide
def pbM(at_:Int)(n:Int)(ws:List Int)(S:Pb): Int:=match S.ph with
 | 1=>tkM ws S.tk+n+4
 | 2=>n-S.i+4
 | 3=>4
 | 4=>if ws.getD at_.toNat 0=S.seen then 1 else 5
 | 5=>gvM ws S.gv
 | _=>0
theorem pb_alone{c:Cfg}(hc:c.Ok){at_ ep:Int}{wd:List Int}{S:Pb}{A:Ar}(hS:S.Ok c wd)(hp:S.ph≠0):
  (S.step c at_ ep wd A).1.ph=0∨pbM at_ wd.length (S.step c at_ ep wd A).2.ws (S.step c at_ ep wd A).1+1≤pbM at_ wd.length A.ws S:=by
 obtain⟨h1,h2,h3,h4,h5,h6,h7,h8,h9,h10,h11,h12,h13,h14,h15,h16,h17,h18,h19,h20⟩:=hS
 obtain⟨tk,i,sn,fl,bk,od,tm,cd,gv,ph⟩:=S
 simp only at h1 h2 h3 h4 h5 h6 h7 h8 h9 h10 h11 h12 h13 h14 h15 h16 h17 h18 h19 h20 hp
 unfold Pb.step
 match ph,h1 with
 | 0,_=>exact absurd rfl hp
 | 1,_=>
  have hi:=h8 rfl
  subst hi
  rcases tk_alone (c:=c) (A:=A) (h3 rfl) h2.ph with ⟨q1,q2⟩ | ⟨q1,q2⟩
  ·simp only
   rw [if_pos q1]
   split
   ·exact .inl rfl
   ·right
    show(wd.length:Int)-0+4+1≤tkM A.ws tk+wd.length+4
    omega
  ·simp only
   rw [if_neg q1]
   right
   show tkM (tk.step c A).2.ws (tk.step c A).1+wd.length+4+1≤tkM A.ws tk+wd.length+4
   omega
 | 2,_=>
  right
  have:=h7 rfl
  by_cases hn:i+1=(wd.length:Int)
  ·simp only [if_pos hn]
   show(4:Int)+1≤wd.length-i+4
   omega
  ·simp only [if_neg hn]
   show(wd.length:Int)-(i+1)+4+1≤wd.length-i+4
   omega
 | 3,_=>
  right
  simp only
  split
  ·split
   ·show(3:Int)+1≤4; decide
   ·show(if A.ws.getD at_.toNat 0=A.ws.getD at_.toNat 0 then(1:Int) else 5)+1≤4
    rw [if_pos rfl]; decide
  ·show(3:Int)+1≤4; decide
 | 4,_=>
  simp only
  split
  ·exact .inl rfl
  ·rename_i h
   right
   split
   ·show(3:Int)+1≤(if A.ws.getD at_.toNat 0=sn then(1:Int) else 5)
    rw [if_neg h]; decide
   ·show(4:Int)+1≤(if A.ws.getD at_.toNat 0=sn then(1:Int) else 5)
    rw [if_neg h]; decide
 | 5,_=>
  have hg:=(h17 rfl).1
  simp only
  split
  ·exact .inl rfl
  ·rename_i h
   right
   rcases gv_alone hc hg (A:=A) with q | q
   ·exact absurd q h
   ·exact q
theorem pbM_le{c:Cfg}(h0:c.s0=4)(h1:c.s1=6){at_:Int}{wd:List Int}{S:Pb}{ws:List Int}(hS:S.Ok c wd): pbM at_ wd.length ws S≤15:=by
 have hf:=hS.fit
 have hi:=hS.i0
 have hz:szK c S.tk.cls≤6:=by unfold szK; split <;> omega
 have ht:=tkM_rng ws S.tk
 have hg:=gvM_rng ws S.gv
 unfold pbM
 split <;> (try split) <;> omega
/-- a scan -/
def scM(c:Cfg)(ws:List Int)(S:Sc): Int:=match S.give with
 | none=>c.slots-S.slot+3*(S.left.length:Int)
 | some G=>gvM ws G+3*((S.left.length:Int)-1)
theorem nextL_len{m:Int→Option Int}: ∀(left kept:List Int),(nextL m kept left).2.length≤left.length
 | [],_=>Nat.le_refl _
 | b :: l,kept=>by
  unfold nextL
  split
  ·exact Nat.le_refl _
  ·exact Nat.le_succ_of_le (nextL_len l _)
theorem next_M{c:Cfg}{ws:List Int}{S:Sc}(hs:S.slot=c.slots): scM c ws (S.next c)≤3*(S.left.length:Int):=by
 have hl:=nextL_len (m:=S.named) S.left S.kept
 unfold scM Sc.next
 cases h:(nextL S.named S.kept S.left).2 with
 | nil=>simp; omega
 | cons b l=>
  rw [h] at hl
  simp only [List.head?_cons,Option.map_some,List.length_cons] at hl ⊢
  show(3:Int) + _≤_
  omega
theorem sc_alone{c:Cfg}(hc:c.Ok){S:Sc}{A:Ar}(hS:ScI c S)(hd:Sc.done c S=false): scM c (S.step c A).2.ws (S.step c A).1+1≤scM c A.ws S:=by
 have hsl:=hS.slot
 unfold Sc.step
 split
 ·rename_i hg
  have hlt:S.slot<c.slots:=by
   by_cases h:S.slot<c.slots
   ·exact h
   ·have:S.slot=c.slots:=by omega
    unfold Sc.done at hd
    rw [hg,this] at hd
    simp at hd
  have e:scM c A.ws S=c.slots-S.slot+3*(S.left.length:Int):=by unfold scM; rw [hg]
  rw [if_pos hlt,e]
  by_cases h2:S.slot+1=c.slots
  ·simp only [if_pos h2]
   have:=next_M (c:=c) (ws:=A.ws) (S:=S.look c (A.ws.getD (slotAt c S.slot).toNat 0)) h2
   show scM c A.ws (Sc.next c (S.look c (A.ws.getD (slotAt c S.slot).toNat 0)))+1≤_
   have e2:(S.look c (A.ws.getD (slotAt c S.slot).toNat 0)).left=S.left:=rfl
   rw [e2] at this
   omega
  ·simp only [if_neg h2]
   have e2:scM c A.ws (S.look c (A.ws.getD (slotAt c S.slot).toNat 0))=c.slots-(S.slot+1)+3*(S.left.length:Int):=by
    unfold scM Sc.look; simp only [hg]
   show scM c A.ws (S.look c (A.ws.getD (slotAt c S.slot).toNat 0))+1≤_
   omega
 ·rename_i G hg
  obtain⟨g1,g2⟩:=hS.give G hg
  have hsc:=hS.gslot (by rw [hg]; simp)
  have hlen:1≤S.left.length:=by
   cases hl:S.left with
   | nil=>rw [hl] at g2; simp at g2
   | cons b l=>simp
  have e:scM c A.ws S=gvM A.ws G+3*((S.left.length:Int)-1):=by unfold scM; rw [hg]
  rw [e]
  have hgM:=gvM_rng A.ws G
  split
  ·rename_i hz
   have h3:=next_M (c:=c) (ws:=(G.step c A).2.ws) (S:={S with given:=S.given++[S.left.getD 0 0],left:=S.left.drop 1,give:=none}) hsc
   have hpos:1≤gvM A.ws G:=by
    have hp:=g1.1
    unfold gvM
    match G,hp with
    | ⟨_,_,_,1⟩,_=>simp
    | ⟨_,_,_,2⟩,_=>simp only; split <;> omega
    | ⟨_,_,_,3⟩,_=>simp only; split <;> omega
   simp only [List.length_drop] at h3
   refine Int.le_trans (Int.add_le_add_right h3 1) ?_
   omega
  ·rename_i hz
   rcases gv_alone hc g1 (A:=A) with q | q
   ·exact absurd q hz
   ·show gvM (G.step c A).2.ws (G.step c A).1+3*((S.left.length:Int)-1)+1≤_
    omega
theorem scM_le{c:Cfg}{S:Sc}{ws:List Int}(hS:ScI c S): scM c ws S≤c.slots+3*(S.left.length:Int)+2:=by
 have:=hS.slot
 unfold scM
 split
 ·omega
 ·rename_i G hg
  have:=gvM_rng ws G
  omega
/-- a guard, and a read -/
def guM(ws:List Int)(G:Gu): Int:=match G.ph with
 | 0=>0
 | 1=>3
 | 2=>if ws.getD G.word.toNat 0=G.seen then 2 else 4
 | _=>if ws.getD G.word.toNat 0=G.seen then 1 else 3
theorem look_M{G:Gu}{ws:List Int}: (G.look (ws.getD G.word.toNat 0)).ph=0∨guM ws (G.look (ws.getD G.word.toNat 0))=2:=by
 unfold Gu.look
 split
 ·right
  show(if ws.getD G.word.toNat 0=ws.getD G.word.toNat 0 then(2:Int) else 4)=2
  rw [if_pos rfl]
 ·exact .inl rfl
theorem gu_alone{r:Int}{G:Gu}{A:Ar}(h0:G.ph≠0)(h3:G.ph≤3)(hs:G.slot.toNat≠G.word.toNat): ((G.step r A).1.ph=0∧1≤guM A.ws G)∨guM (G.step r A).2.ws (G.step r A).1+1≤guM A.ws G:=by
 obtain⟨cl,ep,sl,wd,sn,bl,fl,cm,cd,ph⟩:=G
 simp only at h0 h3 hs
 unfold Gu.step
 match ph,h3 with
 | 0,_=>exact absurd rfl h0
 | 1,_=>
  simp only
  rcases look_M (G:=⟨cl,ep,sl,wd,sn,bl,fl,(A.load wd).steps,cd,1⟩) (ws:=A.ws) with q | q
  ·exact .inl ⟨q,by show(1:Int)≤3; decide⟩
  ·right
   show guM A.ws _+1≤3
   simp only at q
   rw [q]; decide
 | 2,_=>
  right
  have e:(A.ws.set sl.toNat (markW cl bl)).getD wd.toNat 0=A.ws.getD wd.toNat 0:=getD_set_ne hs
  show(if (A.ws.set sl.toNat (markW cl bl)).getD wd.toNat 0=sn then(1:Int) else 3)+1≤(if A.ws.getD wd.toNat 0=sn then(2:Int) else 4)
  rw [e]; split <;> omega
 | 3,_=>
  simp only
  split
  ·rename_i h
   left; refine⟨rfl, ?_⟩
   show(1:Int)≤(if A.ws.getD wd.toNat 0=sn then(1:Int) else 3)
   rw [if_pos h]; decide
  ·rename_i h
   have e:guM A.ws ⟨cl,ep,sl,wd,sn,bl,fl,cm,cd,3⟩=3:=by
    show(if A.ws.getD wd.toNat 0=sn then(1:Int) else 3)=3
    rw [if_neg h]
   rw [e]
   split
   ·left; exact⟨rfl,by decide⟩
   ·rcases look_M (G:=⟨cl,ep,sl,wd,sn,bl,fl+1,(A.load wd).steps,cd,3⟩) (ws:=A.ws) with q | q
    ·exact .inl ⟨q,by decide⟩
    ·right
     show guM A.ws _+1≤3
     simp only at q
     rw [q]; decide
theorem guM_rng(ws:List Int)(G:Gu): 0≤guM ws G∧guM ws G≤4:=by
 unfold guM
 split <;> (try split) <;> omega
def rdM(c:Cfg)(ws:List Int)(S:Rd): Int:=match S.ph with
 | 1=>c.slots-S.cl.at_+10
 | 2=>(match S.gu with
  | none=>0
  | some G=>guM ws G)+6
 | 3=>6-(S.words.length:Int)
 | _=>0
theorem rd_alone{c:Cfg}(hc:c.Ok)(hs0:c.s0=4)(hs1:c.s1=6){cl ep:Int}{n:Nat}{S:Rd}{A:Ar}(hS:S.Ok c cl 0 n)(hI:RdI c S)(hp:S.ph≠0):
  (S.step c cl 0 ep A).1.ph=0∨rdM c (S.step c cl 0 ep A).2.ws (S.step c cl 0 ep A).1+1≤rdM c A.ws S:=by
 obtain⟨h1,h2,h3,h4,h5,h6,h7,h8,h8b,h9,h10,h10b,h11,h12⟩:=hS
 obtain⟨K,gu,sl,wd,cd,ph⟩:=S
 simp only at h1 h2 h3 h4 h5 h6 h7 h8 h8b h9 h10 h10b h11 h12 hp
 have hsz:∀k,szK c k≤6:=fun k=>by unfold szK; split <;> omega
 unfold Rd.step
 match ph,h1 with
 | 0,_=>exact absurd rfl hp
 | 1,_=>
  obtain⟨q1,q2,q3,q4,q5⟩:=h5 rfl
  have ha:=h2.at_.resolve_left q4
  simp only
  have hst:K.step c A=if A.ws.getD (slotAt c K.at_).toNat 0=0 then(⟨K.client,-1,K.at_⟩,A.swapT (slotAt c K.at_) (markW K.client 0)) else(⟨K.client,if K.at_+1=c.slots then -1 else K.at_+1,K.slot⟩,A.swapF (slotAt c K.at_)):=by
   unfold Cl.step; rw [if_neg q4]
  rw [hst]
  by_cases hz:A.ws.getD (slotAt c K.at_).toNat 0=0
  ·simp only [if_pos hz,if_true]
   rw [if_neg (by omega:¬K.at_ = -1)]
   right
   show(3:Int)+6+1≤c.slots-K.at_+10
   omega
  ·simp only [if_neg hz]
   by_cases hl:K.at_+1=c.slots
   ·simp only [if_pos hl,if_true]
    rw [if_pos (h2.first q4)]
    exact .inl rfl
   ·simp only [if_neg hl]
    rw [if_neg (by omega:¬K.at_+1 = -1)]
    right
    show c.slots-(K.at_+1)+10+1≤c.slots-K.at_+10
    omega
 | 2,_=>
  obtain⟨G,q1,q2,q3,q4⟩:=h6 rfl
  subst q1
  subst q3
  simp only
  obtain⟨g1,g2⟩:=h4 G rfl
  have hsl:=h9.resolve_left (h10 (by decide) (by decide))
  have hs1:=hI rfl G rfl
  have hslot:=slotAt_ok hc hsl
  have hct:=ctl0_ok hc
  have hw:=g2.word
  have hc':=hc
  simp only [Cfg.Ok] at hc'
  simp only at hs1
  rcases gu_alone (r:=c.retry) (A:=A) q2 g1.ph (by rw [hs1,hw]; omega) with ⟨r1,r2⟩ | r2
  ·rw [if_pos r1]
   split
   ·right
    show(6:Int)-((0:Nat):Int)+1≤guM A.ws G+6
    omega
   ·right
    show(0:Int)+1≤guM A.ws G+6
    omega
  ·have hm:=(guM_rng (G.step c.retry A).2.ws (G.step c.retry A).1).1
   by_cases r1:(G.step c.retry A).1.ph=0
   ·rw [if_pos r1]
    split
    ·right
     show(6:Int)-((0:Nat):Int)+1≤guM A.ws G+6
     omega
    ·right
     show(0:Int)+1≤guM A.ws G+6
     omega
   ·rw [if_neg r1]
    right
    show guM (G.step c.retry A).2.ws (G.step c.retry A).1+6+1≤guM A.ws G+6
    omega
 | 3,_=>
  obtain⟨G,q1,q2,q3,q4,q5⟩:=h7 rfl
  subst q1
  have hz:=hsz (clsOf c G.block)
  simp only
  right
  split
  ·show(0:Int)+1≤6-(wd.length:Int)
   omega
  ·show(6:Int)-((wd++[_]).length:Int)+1≤6-(wd.length:Int)
   rw [List.length_append,List.length_singleton]
   omega
 | 4,_=>exact .inl rfl
theorem rdM_le{c:Cfg}{cl:Int}{n:Nat}{ws:List Int}{S:Rd}(hc:c.Ok)(hS:S.Ok c cl 0 n): rdM c ws S≤c.slots+10:=by
 simp only [Cfg.Ok] at hc
 have h5:=hS.g1
 have h1:=hS.k.at_
 unfold rdM
 split
 ·rename_i hp
  have:=(h5 hp).2.2.2.1
  omega
 ·split
  ·omega
  ·rename_i G _
   have:=guM_rng ws G
   omega
 ·omega
 ·omega
/-- a client -/
def kcM(c:Cfg)(ws:List Int)(k:Kc): Int:=match k.d with
 | .idle=>0
 | .pub _ wd S=>pbM (ctlAt c 0) wd.length ws S
 | .scan S=>scM c ws S
 | .read _ _ S=>rdM c ws S
def Kc.busy(k:Kc): Prop:=match k.d with
 | .idle=>False
 | _=>True
theorem kc_alone{c:Cfg}(hc:c.Ok)(hs0:c.s0=4)(hs1:c.s1=6){now i:Int}{K:Kc}{A:Ar}(hS:K.St c A i)(hI:K.In c A.ws)(hb:K.busy):
  (K.step c now A).t.done=true∨((K.step c now A).t.done=false∧(K.step c now A).k.busy∧kcM c (K.step c now A).A.ws (K.step c now A).k+1≤kcM c A.ws K):=by
 obtain⟨d,ret,id_⟩:=K
 cases d with
 | idle=>exact False.elim hb
 | pub ep wd S=>
  obtain⟨hP,hu,hp,hi⟩:=hS
  unfold Kc.step
  simp only
  split
  ·exact .inl rfl
  ·rename_i hz
   refine .inr ⟨rfl,trivial, ?_⟩
   rcases pb_alone hc (at_:=ctlAt c 0) (ep:=ep) (A:=A) hP hp with q | q
   ·exact absurd q hz
   ·exact q
 | scan S=>
  obtain⟨hP,hr,hd,hi⟩:=hS
  have:=sc_alone hc (A:=A) hP hd
  unfold Kc.step
  simp only
  cases hd2:Sc.done c (S.step c A).1 with
  | true=>exact .inl rfl
  | false=>exact .inr ⟨rfl,trivial,this⟩
 | read cl ep S=>
  obtain⟨hP,hcl2,hp,hi⟩:=hS
  unfold Kc.step
  simp only
  split
  ·exact .inl rfl
  ·rename_i hz
   refine .inr ⟨rfl,trivial, ?_⟩
   rcases rd_alone hc hs0 hs1 (ep:=ep) (A:=A) hP hI hp with q | q
   ·exact absurd q hz
   ·exact q
end Go.Sx
/- LargeAlone: what is left to do, and how much that is at most. -/
namespace Go.Sx
theorem kcM_nn{c:Cfg}(hc:c.Ok)(hs0:c.s0=4)(hs1:c.s1=6){i:Int}{K:Kc}{A:Ar}(hS:K.St c A i): 0≤kcM c A.ws K:=by
 obtain⟨d,ret,id_⟩:=K
 cases d with
 | idle=>exact Int.le_refl 0
 | pub ep wd S=>
  have h2:=hS.1.i0
  have ht:=tkM_rng A.ws S.tk
  have hg:=gvM_rng A.ws S.gv
  show 0≤pbM (ctlAt c 0) wd.length A.ws S
  unfold pbM
  split <;> (try split) <;> omega
 | scan S=>
  have hP:=hS.1
  have hsl:=hP.slot
  show 0≤scM c A.ws S
  unfold scM
  split
  ·omega
  ·rename_i G hg
   obtain⟨g1,g2⟩:=hP.give G hg
   have hgM:=gvM_rng A.ws G
   have:1≤S.left.length:=by
    cases hl:S.left with
    | nil=>rw [hl] at g2; simp at g2
    | cons b l=>simp
   omega
 | read cl ep S=>
  have hP:=hS.1
  have h1:=hP.k.at_
  have h3:=hP.g3
  simp only [Cfg.Ok] at hc
  show 0≤rdM c A.ws S
  unfold rdM
  split
  ·omega
  ·split
   ·omega
   ·rename_i G _
    have:=guM_rng A.ws G
    omega
  ·rename_i hp
   obtain⟨G,_,_,_,q,_⟩:=h3 hp
   have:szK c (clsOf c G.block)≤6:=by unfold szK; split <;> omega
   omega
  ·exact Int.le_refl 0
theorem most_scan{c:Cfg}{i id_:Int}{ret:List Int}{S:Sc}{A:Ar}(hS:Kc.St c A i ⟨.scan S,ret,id_⟩): kcM c A.ws ⟨.scan S,ret,id_⟩+1≤c.slots+3*((ret.length:Int)+1)+3:=by
 have:=scM_le (ws:=A.ws) hS.1
 have hr:ret=S.kept++S.left:=hS.2.1
 have:(ret.length:Int)=S.kept.length+S.left.length:=by rw [hr,List.length_append]; omega
 show scM c A.ws S+1≤_
 omega
theorem most_read{c:Cfg}(hc:c.Ok){i cl ep id_:Int}{ret:List Int}{S:Rd}{A:Ar}(hS:Kc.St c A i ⟨.read cl ep S,ret,id_⟩): kcM c A.ws ⟨.read cl ep S,ret,id_⟩+1≤c.slots+6+6:=by
 have:=rdM_le (ws:=A.ws) hc hS.1
 show rdM c A.ws S+1≤_
 omega
theorem Own.mono{c:Cfg}{W:Wd}{l:Int→List Int}{k k':Int}(o:Own c W l k)(h:k≤k'): Own c W l k':=⟨o.arw.mono h,o.hp.mono h,o.ctl,o.len,o.st,o.inn,o.rd,o.perm⟩
end Go.Sx
/- LargeWhole: the law's loop. -/
namespace Go.Sx
theorem told_code{S:Rd}(hz:S.ph=0)(h:(Rd.told S).2=0): S.code=0∧(Rd.told S).1=S.words:=by
 have tc:Rd.told S=if S.code=0 then(S.words,0) else([],S.code):=by unfold Rd.told; rw [hz]; rfl
 by_cases hcd:S.code=0
 ·rw [tc,if_pos hcd]; exact⟨hcd,rfl⟩
 ·rw [tc,if_neg hcd] at h; exact absurd h hcd
end Go.Sx
/- LargeLast: the topic stays, and a slot is free, or a reader's. -/
namespace Go.Sx
theorem live_pack{e g b:Int}(hg:0≤g∧g≤2147483647)(hb:0≤b∧b≤65535): ctlLive (packW3 e 1 0 g b)=true:=by
 unfold ctlLive packW3
 rw [beq_iff_eq]; omega
theorem born_live(w:Int): ctlLive (bornW w)=true:=live_pack (by omega) (by omega)
structure Sl (c:Cfg) (W:Wd):Prop where
 live:ctlLive (wordC c W.A)=true
 sl:∀s:Int,0≤s∧s<c.slots→W.A.ws.getD (slotAt c s).toNat 0=0∨∃i:Int,(2≤i∧i<4)∧∃cl ep S,(W.k i).d = .read cl ep S∧S.slot=s
/-- what a read's step leaves of a slot -/
theorem rd_sl{c:Cfg}(hc:c.Ok){cl ep:Int}{n:Nat}{S:Rd}{A:Ar}{k:Int}(hS:S.Ok c cl 0 n)(hI:RdI c S)(hA:ArW c A k)(hp:S.ph≠0){s:Int}(hs:0≤s∧s<c.slots):
  (S.step c cl 0 ep A).2.ws.getD (slotAt c s).toNat 0=0∨((S.step c cl 0 ep A).2.ws.getD (slotAt c s).toNat 0=A.ws.getD (slotAt c s).toNat 0∧s≠S.slot)∨((S.step c cl 0 ep A).1.ph≠0∧(S.step c cl 0 ep A).1.slot=s):=by
 have hsa:=slotAt_ok hc hs
 have hlen:(A.ws.length:Int)=sizeOfC c:=by have:=hA.1; have:=hA.2.1; omega
 obtain⟨h1,h2,h3,h4,h5,h6,h7,h8,h8b,h9,h10,h10b,h11,h12⟩:=hS
 obtain⟨K,gu,sl,wd,cd,ph⟩:=S
 simp only at h1 h2 h3 h4 h5 h6 h7 h8 h8b h9 h10 h10b h11 h12 hp
 unfold Rd.step
 match ph,h1 with
 | 0,_=>exact absurd rfl hp
 | 1,_=>
  obtain⟨q1,q2,q3,q4,q5⟩:=h5 rfl
  have ha:=h2.at_.resolve_left q4
  have hst:K.step c A=if A.ws.getD (slotAt c K.at_).toNat 0=0 then(⟨K.client,-1,K.at_⟩,A.swapT (slotAt c K.at_) (markW K.client 0)) else(⟨K.client,if K.at_+1=c.slots then -1 else K.at_+1,K.slot⟩,A.swapF (slotAt c K.at_)):=by
   unfold Cl.step; rw [if_neg q4]
  rw [hst]
  by_cases hz:A.ws.getD (slotAt c K.at_).toNat 0=0
  ·simp only [if_pos hz,if_true]
   rw [if_neg (by omega:¬K.at_ = -1)]
   have hka:=slotAt_ok hc ha
   by_cases e:s=K.at_
   ·exact .inr (.inr ⟨by show(2:Nat)≠0; decide,e.symm⟩)
   ·refine .inr (.inl ⟨?_,by show s≠sl; omega⟩)
    show(A.ws.set (slotAt c K.at_).toNat _).getD _ 0 = _
    exact getD_set_ne (by omega)
  ·simp only [if_neg hz]
   refine .inr (.inl ⟨?_,by show s≠sl; omega⟩)
   repeat' split
   all_goals rfl
 | 2,_=>
  obtain⟨G,q1,q2,q3,q4⟩:=h6 rfl
  subst q1
  have hsl:=h9.resolve_left (h10 (by decide) (by decide))
  have hs1:G.slot=slotAt c sl:=hI rfl G rfl
  have hw:(G.step c.retry A).2.ws.getD (slotAt c s).toNat 0=A.ws.getD (slotAt c s).toNat 0∨s=sl:=by
   by_cases e:s=sl
   ·exact .inr e
   ·left
    have e2:=slotAt_ok hc hsl
    unfold Gu.step
    split
    ·rfl
    ·rfl
    ·rw [hs1]; exact getD_set_ne (by omega)
    ·split
     ·rfl
     ·split <;> rfl
  simp only
  by_cases e:s=sl
  ·right; right
   split
   ·split <;> exact⟨by simp,e.symm⟩
   ·exact⟨by simp,e.symm⟩
  ·right; left
   have hw:=hw.resolve_right e
   split
   ·split <;> exact⟨hw,e⟩
   ·exact⟨hw,e⟩
 | 3,_=>
  simp only
  by_cases e:s=sl
  ·right; right
   split <;> exact⟨by simp,e.symm⟩
  ·right; left
   split <;> exact⟨rfl,e⟩
 | 4,_=>
  have hsl:=h9.resolve_left (h10 (by decide) (by decide))
  have e2:=slotAt_ok hc hsl
  by_cases e:s=sl
  ·subst e
   left
   show(A.ws.set (slotAt c s).toNat 0).getD _ 0=0
   exact getD_set_eq (by omega)
  ·right; left
   refine⟨?_,e⟩
   show(A.ws.set (slotAt c sl).toNat 0).getD _ 0 = _
   exact getD_set_ne (by omega)
theorem kc_live{c:Cfg}(hc:c.Ok){now i:Int}{K:Kc}{A:Ar}{k:Int}(hS:K.St c A i)(hI:K.In c A.ws)(hA:ArW c A k)(h:ctlLive (wordC c A)=true): ctlLive (wordC c (K.step c now A).A)=true:=by
 obtain⟨d,ret,id_⟩:=K
 have hct:=ctl0_ok hc
 cases d with
 | idle=>exact h
 | pub ep wd S=>
  obtain⟨hP,hu,hp,hi⟩:=hS
  have hfr:=pb_fr (ep:=ep) (A:=A) hc hP hp
  have key:ctlLive (wordC c (S.step c (ctlAt c 0) ep wd A).2)=true:=by
   rcases hfr.2.2.2 with e | ⟨q1,q2,q3,q4,q5,q6⟩
   ·unfold wordC; rw [e]; exact h
   ·have hp4:=hP.p4 q1
    have hg:=ctl_rng hP.seen
    have hb:=hP.blk (by omega) (by omega)
    have hk:=hP.tk.cls
    have hbr:=clsOf_ok (c:=c) (b:=S.block) (by omega)
    have hq:=hc
    simp only [Cfg.Ok] at hq
    unfold wordC
    rw [q6,getD_set_eq (by have:=hA.1; have:=hA.2.1; omega)]
    have:=hp4.2.2
    exact live_pack (by omega) (by omega)
  unfold Kc.step
  simp only
  split <;> exact key
 | scan S=>
  have:=scan_word (A:=A) hc hS.1
  show ctlLive (wordC c (S.step c A).2)=true
  rw [this]; exact h
 | read cl ep S=>
  obtain⟨hP,hcl2,hp,hi⟩:=hS
  have hfr:=rd_fr (ep:=ep) (A:=A) hc hP hI
  have key:ctlLive (wordC c (S.step c cl 0 ep A).2)=true:=by
   have e:wordC c (S.step c cl 0 ep A).2=wordC c A:=by
    have hcs:=hc
    simp only [Cfg.Ok] at hcs
    obtain⟨K',gu,sl,wd,cd,ph⟩:=S
    obtain⟨h1,h2,h3,h4,h5,h6,h7,h8,h8b,h9,h10,h10b,h11,h12⟩:=hP
    simp only at h1 h2 h3 h4 h5 h6 h7 h8 h8b h9 h10 h10b h11 h12 hp
    unfold Rd.step wordC
    match ph,h1 with
    | 0,_=>rfl
    | 1,_=>
     obtain⟨q1,q2,q3,q4,q5⟩:=h5 rfl
     have ha0:=h2.at_.resolve_left q4
     have ha:=slotAt_ok hc ha0
     have:(K'.step c A).2.ws.getD (ctlAt c 0).toNat 0=A.ws.getD (ctlAt c 0).toNat 0:=by
      unfold Cl.step; rw [if_neg q4]
      split
      ·exact getD_set_ne (by omega)
      ·rfl
     simp only
     split
     ·split <;> exact this
     ·exact this
    | 2,_=>
     obtain⟨G,q1,q2,q3,q4⟩:=h6 rfl
     subst q1
     have hsl0:=h9.resolve_left (h10 (by decide) (by decide))
     have hsl:=slotAt_ok hc hsl0
     have hs1:G.slot=slotAt c sl:=hI rfl G rfl
     have:(G.step c.retry A).2.ws.getD (ctlAt c 0).toNat 0=A.ws.getD (ctlAt c 0).toNat 0:=by
      unfold Gu.step
      split
      ·rfl
      ·rfl
      ·rw [hs1]; exact getD_set_ne (by omega)
      ·split
       ·rfl
       ·split <;> rfl
     simp only
     split
     ·split <;> exact this
     ·exact this
    | 3,_=>simp only; split <;> rfl
    | 4,_=>
     have hsl0:=h9.resolve_left (h10 (by decide) (by decide))
     have hsl:=slotAt_ok hc hsl0
     show(A.ws.set (slotAt c sl).toNat 0).getD _ 0 = _
     exact getD_set_ne (by omega)
   rw [e]; exact h
  unfold Kc.step
  simp only
  split <;> exact key
theorem Sl.step{c:Cfg}(hc:c.Ok){W:Wd}{l:Int→List Int}{k:Int}(o:Own c W l k)(h:Sl c W){i:Int}(hi:0≤i∧i<4): Sl c (W.step c i):=by
 refine⟨kc_live hc (o.st i hi) (o.inn i hi) o.arw h.live,fun s hs => ?_⟩
 have hk:∀j:Int,0≤j∧j<4→(W.step c i).k j=if j=i then((W.k i).step c W.now W.A).k else W.k j:=fun j hj=>k_set o.len hi hj
 have oth:((W.k i).step c W.now W.A).A.ws.getD (slotAt c s).toNat 0=W.A.ws.getD (slotAt c s).toNat 0→(∀cl ep S,(W.k i).d = .read cl ep S→S.slot≠s)→((W.k i).step c W.now W.A).A.ws.getD (slotAt c s).toNat 0=0∨∃j:Int,(2≤j∧j<4)∧∃cl ep S,((W.step c i).k j).d = .read cl ep S∧S.slot=s:=by
  intro e hn
  rw [e]
  rcases h.sl s hs with q | ⟨j,hj,cl,ep,S,hd,hsl⟩
  ·exact .inl q
  ·refine .inr ⟨j,hj,cl,ep,S, ?_,hsl⟩
   rw [hk j (by omega),if_neg (fun e=>hn cl ep S (by rw [←e]; exact hd) hsl)]
   exact hd
 have hst:=o.st i hi; have hin:=o.inn i hi; have hA:=o.arw
 show((W.k i).step c W.now W.A).A.ws.getD (slotAt c s).toNat 0=0∨_
 have hki:=hk i hi
 rw [if_pos rfl] at hki
 revert oth hst hin hki
 generalize W.k i=K
 obtain⟨d,ret,id_⟩:=K
 intro oth hst hin hki
 cases d with
 | idle=>exact oth rfl (fun _ _ _ h=>by cases h)
 | pub ep wd S=>
  obtain⟨hP,hu,hp,hi'⟩:=hst
  have hfr:=(pb_fr (ep:=ep) (A:=W.A) hc hP hp).2.1 s hs
  refine oth ?_ (fun _ _ _ h=>by cases h)
  unfold Kc.step
  simp only
  split <;> exact hfr
 | scan S=>exact oth ((sc_fr (A:=W.A) hc hst.1).2.1 s hs) (fun _ _ _ h=>by cases h)
 | read cl ep S=>
  obtain⟨hP,hcl2,hp,hi'⟩:=hst
  have e:((⟨.read cl ep S,ret,id_⟩:Kc).step c W.now W.A).A=(S.step c cl 0 ep W.A).2:=by unfold Kc.step; simp only; split <;> rfl
  rw [e] at oth ⊢
  rcases rd_sl (ep:=ep) hc hP hin hA hp hs with q | ⟨q1,q2⟩ | ⟨q1,q2⟩
  ·exact .inl q
  ·exact oth q1 (fun cl' ep' S' h=>by cases h; exact fun e=>q2 e.symm)
  ·refine .inr ⟨i,⟨hi',hi.2⟩,cl,ep,(S.step c cl 0 ep W.A).1, ?_,q2⟩
   rw [hki]
   unfold Kc.step
   simp only
   rw [if_neg q1]
theorem Sl.who{c:Cfg}(hc:c.Ok){W:Wd}{l:Int→List Int}{k:Int}(o:Own c W l k)(h:Sl c W)(wh n:Int): Sl c (W.who c wh n):=by
 have hct:=ctl0_ok hc
 have hlc:(ctlAt c 0).toNat<W.A.ws.length:=by have:=o.arw.1; have:=o.arw.2.1; omega
 have hw2:wordC c (anewW c (wordC c W.A) W.A)=bornW (goneW (wordC c W.A)):=by
  show((W.A.ws.set _ _).set (ctlAt c 0).toNat _).getD (ctlAt c 0).toNat 0 = _
  exact getD_set_eq (by rw [List.length_set]; exact hlc)
 have hd:∀j:Int,0≤j∧j<4→((W.who c wh n).k j).d=(W.k j).d:=by
  intro j hj
  have:(W.who c wh n).k j=if j=0 then((W.k 0).whoD (wordC c W.A) wh n).2.2 else W.k j:=k_set (i:=0) o.len (by omega) hj
  rw [this]
  split
  ·rename_i e; subst e
   unfold Kc.whoD
   split
   ·rfl
   ·split
    ·split <;> rfl
    ·rfl
  ·rfl
 have hS:Ns c W.A.ws (W.who c wh n).A.ws:=by
  show Ns c W.A.ws (bif _ then anewW c (wordC c W.A) W.A else W.A).ws
  cases ((W.k 0).whoD (wordC c W.A) wh n).2.1 with
  | true=>
   intro s hs
   exact(Ns.ctl hc (ws:=W.A.ws.set (ctlAt c 0).toNat (goneW (wordC c W.A))) (v:=bornW (goneW (wordC c W.A))) s hs).trans (Ns.ctl hc (ws:=W.A.ws) (v:=goneW (wordC c W.A)) s hs)
  | false=>exact Ns.refl _ _
 refine⟨?_,fun s hs => ?_⟩
 ·show ctlLive (wordC c (bif _ then anewW c (wordC c W.A) W.A else W.A))=true
  cases ((W.k 0).whoD (wordC c W.A) wh n).2.1 with
  | true=>simp only [cond_true]; rw [hw2]; exact born_live _
  | false=>exact h.live
 ·rw [hS s hs]
  rcases h.sl s hs with q | ⟨j,hj,cl,ep,S,q1,q2⟩
  ·exact .inl q
  ·exact .inr ⟨j,hj,cl,ep,S,by rw [hd j (by omega)]; exact q1,q2⟩
theorem Sl.begin{c:Cfg}{W:Wd}{l:Int→List Int}{k:Int}(o:Own c W l k)(h:Sl c W){i:Int}(hi:0≤i∧i<4)(n:Int): Sl c (W.begin c i n):=by
 refine⟨h.live,fun s hs => ?_⟩
 rcases h.sl s hs with q | ⟨j,hj,cl,ep,S,q1,q2⟩
 ·exact .inl q
 ·refine .inr ⟨j,hj,cl,ep,S, ?_,q2⟩
  have:(W.begin c i n).k j=if j=i then((W.k i).beginD c (ctlEpoch (wordC c W.A)) W.many i n).1 else W.k j:=k_set o.len hi (by omega)
  rw [this]
  split
  ·rename_i e; subst e
   revert q1
   generalize W.k j=K
   obtain⟨d,ret,id_⟩:=K
   intro q1
   cases d with
   | read a b c=>exact q1
   | idle=>cases q1
   | pub a b c=>cases q1
   | scan a=>cases q1
  ·exact q1
/-- what is carried through LargeLast -/
def NxOk(c:Cfg)(W:Wd): Prop:=(∃f la,Wh c f la W)∧Sl c W
theorem nx_step{c:Cfg}(hc:c.Ok){W:Wd}{l:Int→List Int}{k:Int}(o:Own c W l k)(h:NxOk c W){i:Int}(hi:0≤i∧i<4): NxOk c (W.step c i):=
 let ⟨⟨f,_,hw⟩,hs⟩:=h; ⟨⟨f,_,(hw.step hc o hi).1⟩,hs.step hc o hi⟩
theorem nx_who{c:Cfg}(hc:c.Ok){W:Wd}{l:Int→List Int}{k:Int}(o:Own c W l k)(h:NxOk c W)(wh n:Int): NxOk c (W.who c wh n):=
 let ⟨⟨f,_,hw⟩,hs⟩:=h; ⟨⟨f,_,hw.who hc o wh n⟩,hs.who hc o wh n⟩
theorem nx_begin{c:Cfg}(hc:C17 c){W:Wd}{l:Int→List Int}{k:Int}(o:Own c W l k)(h:NxOk c W){i:Int}(hi:0≤i∧i<4)(n:Int): NxOk c (W.begin c i n):=
 let ⟨⟨f,la,hw⟩,hs⟩:=h; ⟨⟨f,la,hw.begin hc o hi n⟩,hs.begin o hi n⟩
theorem nx_first{c:Cfg}(hc:c.Ok){A:Ar}{k:Int}(hA:ArW c A k)(hs:∀s:Int,0≤s∧s<c.slots→A.ws.getD (slotAt c s).toNat 0=0): NxOk c ⟨A.store (ctlAt c 0) (bornW 0),four,[],0⟩:=by
 have hct:=ctl0_ok hc
 refine⟨⟨_,_,wh_first hc hA⟩, ?_,fun s h=>.inl ?_⟩
 ·have hw:wordC c (A.store (ctlAt c 0) (bornW 0))=bornW 0:=getD_set_eq (by have:=hA.1; have:=hA.2.1; omega)
  show ctlLive (wordC c (A.store (ctlAt c 0) (bornW 0)))=true
  rw [hw]; exact born_live 0
 ·have hN:Ns c A.ws (A.ws.set (ctlAt c 0).toNat (bornW 0)):=Ns.ctl hc
  exact(hN s h).trans (hs s h)
end Go.Sx
/- LargeLast: all that goes on ends, one behind the other; what is retired is given back. -/
namespace Go.Sx
theorem kcM_le{c:Cfg}(hC:C17 c){i:Int}{K:Kc}{A:Ar}(hS:K.St c A i)(hr:K.ret.length≤24)(hs:c.slots≤16): kcM c A.ws K+1≤100:=by
 obtain⟨d,ret,id_⟩:=K
 cases d with
 | idle=>show(0:Int)+1≤100; decide
 | pub ep wd S=>
  have:=pbM_le (at_:=ctlAt c 0) (ws:=A.ws) hC.s0 hC.s1 hS.1
  show pbM (ctlAt c 0) wd.length A.ws S+1≤100
  omega
 | scan S=>
  have:=most_scan hS
  have hr:ret.length≤24:=hr
  omega
 | read cl ep S=>
  have:=most_read hC.ok hS
  omega
theorem kc_done{c:Cfg}{now:Int}{K:Kc}{A:Ar}(h:(K.step c now A).t.done=true): (K.step c now A).k.d = .idle:=by
 obtain⟨d,ret,id_⟩:=K
 revert h
 unfold Kc.step
 cases d with
 | idle=>exact fun _=>rfl
 | pub ep wd S=>simp only; split <;> simp
 | scan S=>simp only; intro h; rw [h]; rfl
 | read cl ep S=>simp only; split <;> simp
theorem busy_of{K:Kc}(h:K.d≠.idle): K.busy:=by
 obtain⟨d,ret,id_⟩:=K
 cases d with
 | idle=>exact absurd rfl h
 | pub ep wd S=>trivial
 | scan S=>trivial
 | read cl ep S=>trivial
theorem step_k{c:Cfg}{W:Wd}(hl:W.ks.length=4){i j:Int}(hi:0≤i∧i<4)(hj:0≤j∧j<4): (W.step c i).k j=if j=i then((W.k i).step c W.now W.A).k else W.k j:=k_set hl hi hj
/-- the first part: all that goes on ends -/
structure LbOk (c:Cfg) (z:Lt):Prop where
 own:∃l,Own c z.W l (1100+z.i)
 nx:NxOk c z.W
 i0:0≤z.i∧z.i≤400
 idle:∀j:Int,0≤j∧j<4→3-z.i / 100<j→(z.W.k j).d = .idle
 cur:0≤3-z.i / 100→(z.W.k (3-z.i / 100)).d = .idle∨kcM c z.W.A.ws (z.W.k (3-z.i / 100))+1≤100-z.i % 100
theorem Own.le{c:Cfg}(hC:C17 c){W:Wd}{l:Int→List Int}{k:Int}(o:Own c W l k)(hs:c.slots≤16){i:Int}(hi:0≤i∧i<4): kcM c W.A.ws (W.k i)+1≤100:=kcM_le hC (o.st i hi) (o.good hC.ok hi).2 hs
theorem lb_first{c:Cfg}(hC:C17 c)(hs:c.slots≤16){W:Wd}{l:Int→List Int}{k:Int}(o:Own c W l k)(hk:k≤1100)(h:NxOk c W){B:Ar}{ma:Option Addr}{mc:Nat}: LbOk c ⟨0,W,B,ma,mc⟩:=
 ⟨⟨l,o.mono (by show k≤1100+(0:Int); omega)⟩,h,by show(0:Int)≤0∧(0:Int)≤400; omega,fun j hj h=>by have h:(3:Int)-0 / 100<j:=h; omega,
  fun _=>.inr (by have:=o.le hC hs (i:=3) (by omega); show kcM c W.A.ws (W.k 3)+1≤100; exact this)⟩
theorem lb_next{c:Cfg}(hC:C17 c)(hs:c.slots≤16){z:Lt}(h:LbOk c z)(hi:z.i<400){W:Wd}(o:∃l,Own c W l (1100+(z.i+1)))(hn:NxOk c W){B:Ar}{ma:Option Addr}{mc:Nat}
  (hd:∀j:Int,0≤j∧j<4→3-z.i / 100<j→(W.k j).d = .idle) (hcur:(W.k (3-z.i / 100)).d = .idle∨kcM c W.A.ws (W.k (3-z.i / 100))+1≤100-(z.i % 100+1)):LbOk c ⟨z.i+1,W,B,ma,mc⟩:=by
 obtain⟨l,o⟩:=o
 have h0:=h.i0
 have hst:=o.st (3-z.i / 100) (by omega)
 refine⟨⟨l,o⟩,hn,by show 0≤z.i+1∧z.i+1≤400; omega,fun j hj hlt => ?_,fun hle => ?_⟩
 ·have hlt:3-(z.i+1) / 100<j:=hlt
  by_cases e:j=3-z.i / 100
  ·subst e
   rcases hcur with q | q
   ·exact q
   ·have:=kcM_nn hC.ok hC.s0 hC.s1 hst
    omega
  ·exact hd j hj (by omega)
 ·have hle:0≤3-(z.i+1) / 100:=hle
  show(W.k (3-(z.i+1) / 100)).d = .idle∨kcM c W.A.ws (W.k (3-(z.i+1) / 100))+1≤100-(z.i+1) % 100
  by_cases e:(z.i+1) / 100=z.i / 100
  ·rw [e]
   rcases hcur with q | q
   ·exact .inl q
   ·right; omega
  ·right
   have:=o.le hC hs (i:=3-(z.i+1) / 100) (by omega)
   omega
theorem lb_skip{c:Cfg}(hC:C17 c)(hs:c.slots≤16){z:Lt}(h:LbOk c z)(hi:z.i<400){j:Int}(hj:j=3-z.i / 100)(hd:(z.W.k j).d = .idle)(B:Ar)(ma:Option Addr)(mc:Nat): LbOk c ⟨z.i+1,z.W,B,ma,mc⟩:=by
 subst hj
 obtain⟨l,o⟩:=h.own
 exact lb_next hC hs h hi ⟨l,o.mono (by omega)⟩ h.nx h.idle (.inl hd)
theorem lb_step{c:Cfg}(hC:C17 c)(hs:c.slots≤16){z:Lt}(h:LbOk c z)(hi:z.i<400){j:Int}(hj:j=3-z.i / 100)(hd:(z.W.k j).d≠.idle)(B:Ar)(ma:Option Addr)(mc:Nat): LbOk c ⟨z.i+1,z.W.step c j,B,ma,mc⟩:=by
 subst hj
 obtain⟨l,o⟩:=h.own
 have h0:=h.i0
 have h4:0≤3-z.i / 100∧3-z.i / 100<4:=by omega
 obtain⟨l' ,o'⟩:=o.step hC.ok (by omega) h4
 have hk:=fun j (hj:0≤j∧j<4)=>step_k (c:=c) o.len h4 hj
 refine lb_next hC hs h hi ⟨l',by rw [show(1100+(z.i+1):Int)=1100+z.i+1 by omega]; exact o'⟩ (nx_step hC.ok o h.nx h4) (fun j hj hlt => ?_) ?_
 ·rw [hk j hj,if_neg (by omega)]; exact h.idle j hj hlt
 ·rw [hk _ h4,if_pos rfl]
  have hcur:=(h.cur h4.1).resolve_left hd
  rcases kc_alone hC.ok hC.s0 hC.s1 (now:=z.W.now) (o.st _ h4) (o.inn _ h4) (busy_of hd) with q | ⟨q1,q2,q3⟩
  ·exact .inl (kc_done q)
  ·right
   show kcM c ((z.W.k (3-z.i / 100)).step c z.W.now z.W.A).A.ws _+1≤_
   omega
theorem lb_last{c:Cfg}{z:Lt}(h:LbOk c z)(hi:¬z.i<400): (∃l,Own c z.W l 1500)∧NxOk c z.W∧∀j:Int,0≤j∧j<4→(z.W.k j).d = .idle:=by
 have h0:=h.i0
 have e:z.i=400:=by omega
 obtain⟨l,o⟩:=h.own
 exact⟨⟨l,o.mono (by omega)⟩,h.nx,fun j hj=>h.idle j hj (by omega)⟩
/-! ### what is retired is given back -/
/-- a scan that nobody's slot is in the way of -/
def ScN(S:Sc): Prop:=(∀b,S.named b=none)∧S.kept=[]
theorem nextL_free{m:Int→Option Int}(h:∀b,m b=none)(kept left:List Int): nextL m kept left=(kept,left):=by
 cases left with
 | nil=>rfl
 | cons b t=>unfold nextL; rw [if_pos (by rw [h]; rfl)]
theorem scn_next{c:Cfg}{S:Sc}(h:ScN S): ScN (S.next c):=by
 refine⟨h.1, ?_⟩
 show(nextL S.named S.kept S.left).1=[]
 rw [nextL_free h.1]; exact h.2
theorem scn_step{c:Cfg}{S:Sc}{A:Ar}(hS:ScI c S)(h:ScN S)(hz:∀s:Int,0≤s∧s<c.slots→A.ws.getD (slotAt c s).toNat 0=0): ScN (S.step c A).1:=by
 have h0:=hS.slot
 unfold Sc.step
 split
 ·split
  ·rename_i hlt
   have hl:ScN (S.look c (A.ws.getD (slotAt c S.slot).toNat 0)):=by
    refine⟨?_,h.2⟩
    show ∀b,(if 0≤hi32 (A.ws.getD (slotAt c S.slot).toNat 0)-1 then _ else S.named) b=none
    rw [hz S.slot ⟨h0.1,hlt⟩,if_neg (by unfold hi32; decide)]
    exact h.1
   split
   ·exact scn_next hl
   ·exact hl
  ·exact h
 ·split
  ·exact scn_next h
  ·exact h
structure LcOk (c:Cfg) (z:Lt):Prop where
 own:∃l,Own c z.W l (1500+z.i)
 nx:NxOk c z.W
 i0:0≤z.i∧z.i≤200
 many:(z.W.many.length:Int)≤1900
 oth:∀j:Int,0≤j∧j<4→j≠z.i / 100∨2≤j→(z.W.k j).d = .idle
 gone:∀j:Int,0≤j∧j<z.i / 100→(z.W.k j).ret=[]
 cur:z.i / 100<2→((z.W.k (z.i / 100)).d = .idle∧((z.W.k (z.i / 100)).ret=[]∨z.i % 100=0))∨∃S,(z.W.k (z.i / 100)).d = .scan S∧ScN S∧kcM c z.W.A.ws (z.W.k (z.i / 100))+1≤100-z.i % 100
theorem lc_first{c:Cfg}{W:Wd}{l:Int→List Int}{k:Int}(o:Own c W l k)(hk:k≤1500)(h:NxOk c W)(hm:(W.many.length:Int)≤1900)(hd:∀j:Int,0≤j∧j<4→(W.k j).d = .idle){B:Ar}{ma:Option Addr}{mc:Nat}: LcOk c ⟨0,W,B,ma,mc⟩:=
 ⟨⟨l,o.mono (by show k≤1500+(0:Int); omega)⟩,h,by show(0:Int)≤0∧(0:Int)≤200; omega,hm,fun j hj _=>hd j hj,fun j hj=>by have hj:0≤j∧j<(0:Int) / 100:=hj; omega,fun _=>.inl ⟨hd 0 (by omega),.inr rfl⟩⟩
theorem lc_zero{c:Cfg}{z:Lt}(h:LcOk c z): ∀s:Int,0≤s∧s<c.slots→z.W.A.ws.getD (slotAt c s).toNat 0=0:=by
 intro s hs
 have h0:=h.i0
 rcases h.nx.2.sl s hs with q | ⟨j,hj,cl,ep,S,hd,_⟩
 ·exact q
 ·rw [h.oth j (by omega) (.inr hj.1)] at hd; cases hd
theorem lc_next{c:Cfg}{z:Lt}(h:LcOk c z)(hi:z.i<200){W:Wd}(o:∃l,Own c W l (1500+(z.i+1)))(hn:NxOk c W)(hm:W.many=z.W.many){B:Ar}{ma:Option Addr}{mc:Nat}(ho:∀j:Int,0≤j∧j<4→j≠z.i / 100→W.k j=z.W.k j)
  (hcur:((W.k (z.i / 100)).d = .idle∧(W.k (z.i / 100)).ret=[])∨∃S,(W.k (z.i / 100)).d = .scan S∧ScN S∧0≤kcM c W.A.ws (W.k (z.i / 100))∧kcM c W.A.ws (W.k (z.i / 100))+1≤100-(z.i % 100+1)):LcOk c ⟨z.i+1,W,B,ma,mc⟩:=by
 have h0:=h.i0
 by_cases e:(z.i+1) / 100=z.i / 100
 ·refine⟨o,hn,by show 0≤z.i+1∧z.i+1≤200; omega,by show(W.many.length:Int)≤1900; rw [hm]; exact h.many, ?_, ?_, ?_⟩
  ·intro j hj hne
   have hne:j≠(z.i+1) / 100∨2≤j:=hne
   show(W.k j).d = .idle
   rw [ho j hj (by omega)]; exact h.oth j hj (.inl (by omega))
  ·intro j hj
   have hj:0≤j∧j<(z.i+1) / 100:=hj
   show(W.k j).ret=[]
   rw [ho j (by omega) (by omega)]; exact h.gone j (by omega)
  ·intro _
   show((W.k ((z.i+1) / 100)).d = .idle∧((W.k ((z.i+1) / 100)).ret=[]∨(z.i+1) % 100=0))∨∃S,(W.k ((z.i+1) / 100)).d = .scan S∧ScN S∧kcM c W.A.ws (W.k ((z.i+1) / 100))+1≤100-(z.i+1) % 100
   rw [e]
   rcases hcur with q | ⟨S,q1,q2,q3,q4⟩
   ·exact .inl ⟨q.1,.inl q.2⟩
   ·exact .inr ⟨S,q1,q2,by omega⟩
 ·have hcur:=hcur.resolve_right fun⟨S,q1,q2,q3,q4⟩=>by omega
  refine⟨o,hn,by show 0≤z.i+1∧z.i+1≤200; omega,by show(W.many.length:Int)≤1900; rw [hm]; exact h.many, ?_, ?_, ?_⟩
  ·intro j hj hne
   show(W.k j).d = .idle
   by_cases e2:j=z.i / 100
   ·subst e2; exact hcur.1
   ·rw [ho j hj e2]; exact h.oth j hj (.inl e2)
  ·intro j hj
   have hj:0≤j∧j<(z.i+1) / 100:=hj
   show(W.k j).ret=[]
   by_cases e2:j=z.i / 100
   ·subst e2; exact hcur.2
   ·rw [ho j (by omega) e2]; exact h.gone j (by omega)
  ·intro hlt
   have hlt:(z.i+1) / 100<2:=hlt
   left
   refine⟨?_,.inr (by show(z.i+1) % 100=0; omega)⟩
   show(W.k ((z.i+1) / 100)).d = .idle
   rw [ho _ (by omega) (by omega)]; exact h.oth _ (by omega) (.inl (by omega))
theorem lc_skip{c:Cfg}{z:Lt}(h:LcOk c z)(hi:z.i<200){j:Int}(hj:j=z.i / 100)(hd:(z.W.k j).d = .idle)(hr:(z.W.k j).ret=[])(B:Ar)(ma:Option Addr)(mc:Nat): LcOk c ⟨z.i+1,z.W,B,ma,mc⟩:=by
 subst hj
 obtain⟨l,o⟩:=h.own
 exact lc_next h hi ⟨l,o.mono (by omega)⟩ h.nx rfl (fun _ _ _=>rfl) (.inl ⟨hd,hr⟩)
/-- a step of a scan -/
theorem lc_scan{c:Cfg}(hC:C17 c){z:Lt}(h:LcOk c z)(hi:z.i<200){j:Int}(hj:j=z.i / 100){W:Wd}{l:Int→List Int}(o:Own c W l (1500+z.i))(hn:NxOk c W)(hA:W.A=z.W.A)(hm:W.many=z.W.many)(ho:∀i:Int,0≤i∧i<4→i≠j→W.k i=z.W.k i)
  {S:Sc} (hd:(W.k j).d = .scan S) (hN:ScN S) (hM:kcM c W.A.ws (W.k j)+1≤100-z.i % 100) (B:Ar) (ma:Option Addr) (mc:Nat):LcOk c ⟨z.i+1,W.step c j,B,ma,mc⟩:=by
 subst hj
 have h0:=h.i0
 have h4:0≤z.i / 100∧z.i / 100<4:=by omega
 have hz:=lc_zero h
 rw [←hA] at hz
 obtain⟨l' ,o'⟩:=o.step hC.ok (by omega) h4
 have hk:=fun j (hj:0≤j∧j<4)=>step_k (c:=c) o.len h4 hj
 have hst':=o'.st _ h4
 refine lc_next h hi ⟨l',by rw [show(1500+(z.i+1):Int)=1500+z.i+1 by omega]; exact o'⟩ (nx_step hC.ok o hn h4) hm (fun i hi2 hne => ?_) ?_
 ·rw [hk i hi2,if_neg hne]; exact ho i hi2 hne
 ·rw [hk _ h4,if_pos rfl] at hst' ⊢
  have hal:=kc_alone hC.ok hC.s0 hC.s1 (now:=W.now) (o.st _ h4) (o.inn _ h4) (busy_of (by rw [hd]; simp))
  have hst:=o.st _ h4
  have hnn:=kcM_nn hC.ok hC.s0 hC.s1 hst'
  change _∨∃S,_∧_∧0≤kcM c ((W.k (z.i / 100)).step c W.now W.A).A.ws _∧kcM c ((W.k (z.i / 100)).step c W.now W.A).A.ws _+1≤_
  change 0≤kcM c ((W.k (z.i / 100)).step c W.now W.A).A.ws _ at hnn
  revert hst hal hM hst' hnn hd
  generalize W.k (z.i / 100)=K
  obtain⟨d,ret,id_⟩:=K
  intro hd hM hst' hal hst hnn
  simp only at hd
  subst hd
  obtain⟨hP,hr,hdn,hi2⟩:=hst
  have hsn:=scn_step hP hN hz
  have hP2:=(sc_step hC.ok hP o.arw).1
  rcases hal with q | ⟨q1,q2,q3⟩
  ·left
   have q:Sc.done c (S.step c W.A).1=true:=q
   refine⟨kc_done q, ?_⟩
   show(S.step c W.A).1.kept++(S.step c W.A).1.left=[]
   unfold Sc.done at q
   rw [Bool.and_eq_true] at q
   rw [hsn.2,hP2.over (by simpa using q.1) (by simpa using q.2)]; rfl
  ·right
   have q1:Sc.done c (S.step c W.A).1=false:=q1
   refine⟨(S.step c W.A).1, ?_,hsn,hnn,by omega⟩
   show(if Sc.done c (S.step c W.A).1=true then Do.idle else .scan (S.step c W.A).1) = _
   rw [q1]; rfl
/-- a scan begins -/
def Wd.again(W:Wd)(j:Int): Wd:=⟨W.A,W.ks.set j.toNat ⟨.scan (newSc (W.k j).ret),(W.k j).ret,(W.k j).id⟩,W.many,W.now⟩
theorem again_begin{c:Cfg}{W:Wd}{j:Int}(hj:j<2)(hd:(W.k j).d = .idle)(hr:(W.k j).ret≠[]): W.begin c j 0=W.again j:=by
 unfold Wd.begin Wd.again
 revert hd hr
 generalize W.k j=K
 obtain⟨d,ret,id_⟩:=K
 intro hd hr
 simp only at hd hr
 subst hd
 unfold Kc.beginD
 simp only
 rw [if_neg (by omega),if_pos ⟨by decide,hr⟩]
theorem lc_again{c:Cfg}(hC:C17 c)(hs:c.slots≤16){z:Lt}(h:LcOk c z)(hi:z.i<200){j:Int}(hj:j=z.i / 100)(hd:(z.W.k j).d = .idle)(hr:(z.W.k j).ret≠[]): (∃l,Own c (z.W.again j) l (1500+z.i))∧∀(B:Ar) (ma:Option Addr) (mc:Nat),LcOk c ⟨z.i+1,(z.W.again j).step c j,B,ma,mc⟩:=by
 subst hj
 have h0:=h.i0
 obtain⟨l,o⟩:=h.own
 have h4:0≤z.i / 100∧z.i / 100<4:=by omega
 have hmm:=h.many
 have e:=again_begin (c:=c) (by omega) hd hr
 have ob:=o.begin hC.ok hC.s0 hC.s1 hC.cl h4 (n:=0) (by omega)
 have nb:=nx_begin hC o h.nx h4 0
 rw [e] at ob nb
 have hk:∀i:Int,0≤i∧i<4→(z.W.again (z.i / 100)).k i=if i=z.i / 100 then⟨.scan (newSc (z.W.k (z.i / 100)).ret),(z.W.k (z.i / 100)).ret,(z.W.k (z.i / 100)).id⟩ else z.W.k i:=fun i hi=>k_set o.len h4 hi
 refine⟨⟨l,ob⟩,fun B ma mc => ?_⟩
 have hle:=ob.le hC hs h4
 refine lc_scan hC h hi rfl ob nb rfl rfl (fun i hi hne=>by rw [hk i hi,if_neg hne]) (S:=newSc (z.W.k (z.i / 100)).ret) (by rw [hk _ h4,if_pos rfl]) ⟨fun _=>rfl,rfl⟩ ?_ B ma mc
 rcases h.cur (by omega) with ⟨q1,q2⟩ | ⟨S,q1,_⟩
 ·have:=q2.resolve_left hr
  omega
 ·rw [hd] at q1; cases q1
theorem lc_last{c:Cfg}{z:Lt}(h:LcOk c z)(hi:¬z.i<200): (∃l,Own c z.W l 1700)∧NxOk c z.W∧(∀j:Int,0≤j∧j<4→(z.W.k j).d = .idle)∧(∀j:Int,0≤j∧j<2→(z.W.k j).ret=[])∧∀s:Int,0≤s∧s<c.slots→z.W.A.ws.getD (slotAt c s).toNat 0=0:=by
 have h0:=h.i0
 have e:z.i=200:=by omega
 obtain⟨l,o⟩:=h.own
 refine⟨⟨l,o.mono (by omega)⟩,h.nx,fun j hj => ?_,fun j hj=>h.gone j (by omega),lc_zero h⟩
 exact h.oth j hj (by omega)
end Go.Sx
/- LargeApart: where the blocks are. -/
namespace Go.Sx
theorem rowN_blks(c:Cfg): rowN (c.n0+c.n1).toNat 0=blks c:=by
 have key:∀(k:Nat) (a:Int),rowN k a=(List.range k).map fun i=>a+(((i:Nat):Int)+1):=by
  intro k
  induction k with
  | zero=>intro a; rfl
  | succ k ih=>
   intro a
   rw [rowN_succ,ih,List.range_succ,List.map_append]
   simp
   omega
 rw [key]
 unfold blks
 simp
theorem free_perm{c:Cfg}{l:Int→List Int}{rest:List Int}(h:(fr l++rest).Perm (blks c)): (freeL (l 0) (l 1) (c.n0+c.n1).toNat).Perm (fr l):=by
 have hnd:=(h.nodup_iff).2 (nodup_blks c)
 have h2:=h.filter (inL (l 0) (l 1))
 rw [List.filter_append,List.filter_eq_self.2 (fun b hb=>inL_iff.2 hb),List.filter_eq_nil_iff.2,List.append_nil] at h2
 ·unfold freeL; rw [rowN_blks]; exact h2.symm
 ·intro b hb hx
  exact(List.nodup_append.1 hnd).2.2 b (inL_iff.1 hx) b hb rfl
theorem filter_len(n m:Nat): ((List.range n).filter (fun i=>decide (i<m))).length=min n m:=by
 induction n with
 | zero=>simp
 | succ n ih=>
  rw [List.range_succ,List.filter_append,List.length_append,ih]
  by_cases h:n<m
  ·simp [h]; omega
  ·simp [h]; omega
theorem two_len(p:Int→Bool): ∀l:List Int,(l.filter p).length+(l.filter fun b => !p b).length=l.length
 | []=>rfl
 | a :: l=>by
  have:=two_len p l
  cases h:p a <;> simp [List.filter_cons,h] <;> omega
theorem free_lens{c:Cfg}(hc:c.Ok){ws:List Int}{l:Int→List Int}{rest:List Int}(hch:Chains c ws l)(h:(fr l++rest).Perm (blks c)): ((l 0).length:Int)≤c.n0∧((l 1).length:Int)≤c.n1:=by
 simp only [Cfg.Ok] at hc
 have hcl:∀b:Int,1≤b∧b≤c.n0+c.n1→(clsOf c b=0↔b≤c.n0):=by
  intro b hb
  unfold clsOf
  rw [if_pos (by omega)]
  split <;> omega
 have e0:((blks c).filter (fun b=>decide (clsOf c b=0))).length=c.n0.toNat:=by
  have e:(blks c).filter (fun b=>decide (clsOf c b=0))=((List.range (c.n0+c.n1).toNat).filter (fun i=>decide (i<c.n0.toNat))).map (fun i=>((i:Nat):Int)+1):=by
   unfold blks
   rw [List.filter_map]
   congr 1
   refine List.filter_congr fun i hi => ?_
   have:=List.mem_range.1 hi
   have:=hcl (((i:Nat):Int)+1) (by omega)
   simp only [Function.comp_apply,decide_eq_decide,this]
   omega
  rw [e,List.length_map,filter_len]
  omega
 have f0:(l 0).filter (fun b=>decide (clsOf c b=0))=l 0:=List.filter_eq_self.2 fun b hb=>by simpa using chain_cls (hch 0 (.inl rfl)) b hb
 have f1:(l 1).filter (fun b => !decide (clsOf c b=0))=l 1:=List.filter_eq_self.2 fun b hb=>by
  have:=chain_cls (hch 1 (.inr rfl)) b hb
  simp; omega
 have h0:=(h.filter (fun b=>decide (clsOf c b=0))).length_eq
 have h1:=(h.filter (fun b => !decide (clsOf c b=0))).length_eq
 have hs:((blks c).filter (fun b=>decide (clsOf c b=0))).length+((blks c).filter (fun b => !decide (clsOf c b=0))).length=(blks c).length:=by
  exact two_len _ _
 have hb:(blks c).length=(c.n0+c.n1).toNat:=by simp [blks]
 simp only [fr,List.filter_append,List.length_append,f0,f1] at h0 h1
 omega
/-- all that somebody has, and that is free, in a row -/
def allR(W:Wd)(w:Int)(j:Int): List Int:=ctlL w++(if j<1 then [] else(W.k 0).own)++(if j<2 then [] else(W.k 1).own)
theorem own23{c:Cfg}{W:Wd}{l:Int→List Int}{k:Int}(h:Own c W l k){i:Int}(hi:2≤i∧i<4): (W.k i).own=[]:=by
 have hs:=h.st i (by omega)
 have hr:=h.rd i hi
 revert hs hr
 generalize W.k i=K
 obtain⟨d,ret,id_⟩:=K
 intro hs hr
 simp only at hr
 subst hr
 cases d with
 | idle=>rfl
 | pub ep ws S=>have:=hs.2.2.2; omega
 | scan S=>have:=hs.2.2.2; omega
 | read cl ep S=>rfl
theorem flat4{W:Wd}(h:W.ks.length=4): W.ks.flatMap Kc.own=(W.k 0).own++((W.k 1).own++((W.k 2).own++(W.k 3).own)):=by
 obtain⟨A,ks,many,now⟩:=W
 simp only at h
 rcases ks with _ | ⟨a,_ | ⟨b,_ | ⟨c,_ | ⟨d,_ | ⟨e,ks⟩⟩⟩⟩⟩
 all_goals simp only [List.length_nil,List.length_cons] at h
 all_goals try omega
 show a.own++(b.own++(c.own++(d.own++[])))=a.own++(b.own++(c.own++d.own))
 rw [List.append_nil]
/-- each block is in the row once -/
theorem apart{c:Cfg}(hc:c.Ok){W:Wd}{l:Int→List Int}{k:Int}(h:Own c W l k):
  ((allR W (wordC c W.A) 2++freeL (l 0) (l 1) (c.n0+c.n1).toNat).length:Int)=c.n0+c.n1∧(allR W (wordC c W.A) 2++freeL (l 0) (l 1) (c.n0+c.n1).toNat).Nodup∧
   (((l 0).length:Int)≤c.n0∧((l 1).length:Int)≤c.n1)∧(W.k 0).own.length≤30∧(W.k 1).own.length≤30:=by
 have hp:=h.perm
 rw [flat4 h.len,own23 h (i:=2) (by omega),own23 h (i:=3) (by omega),List.append_nil,List.append_nil] at hp
 have hp2:(fr l++(ctlL (wordC c W.A)++((W.k 0).own++(W.k 1).own))).Perm (blks c):=by rw [←List.append_assoc]; exact hp
 have hf:=free_perm hp2
 have hl:=free_lens hc h.hp.ch hp2
 have ha:allR W (wordC c W.A) 2=ctlL (wordC c W.A)++(W.k 0).own++(W.k 1).own:=by
  unfold allR; rw [if_neg (by decide),if_neg (by decide)]
 have hall:(allR W (wordC c W.A) 2++freeL (l 0) (l 1) (c.n0+c.n1).toNat).Perm (blks c):=by
  refine List.Perm.trans ?_ hp2
  rw [ha]
  refine(hf.append_left _).trans ?_
  rw [List.append_assoc (ctlL _)]
  exact List.perm_append_comm
 have hb:(blks c).length=(c.n0+c.n1).toNat:=by simp [blks]
 have hlen:=hp2.length_eq
 simp only [List.length_append] at hlen
 simp only [Cfg.Ok] at hc
 refine⟨?_,(hall.nodup_iff).2 (nodup_blks c),hl,by omega,by omega⟩
 rw [hall.length_eq,hb]; omega
end Go.Sx
/- LargeLast: the read at last, alone. -/
namespace Go.Sx
structure RaI (c:Cfg) (e w t0:Int) (S:Rd) (A:Ar):Prop where
 word:A.ws.getD (ctlAt c 0).toNat 0=w
 st:t0≤A.steps
 p1:S.ph=1→S.cl.at_ = 0∧A.ws.getD (slotAt c 0).toNat 0=0
 p2:S.ph=2→∃G,S.gu=some G∧G.epoch=e∧(G.ph=1∨((G.ph=2∨G.ph=3)∧G.seen=w∧ctlBlock w≠0))
 p3:S.ph=3→ctlBlock w≠0∧S.code=0∧∃G,S.gu=some G∧t0<G.commit
 p4:S.ph=4∨S.ph=0→(S.code=20∧ctlBlock w=0)∨(ctlBlock w≠0∧S.code=0∧∃G,S.gu=some G∧t0<G.commit)
theorem ra_step{c:Cfg}(hc:c.Ok){r e w t0:Int}{S:Rd}{A:Ar}{k:Int}(hS:S.Ok c r 0 A.n)(hI:RdI c S)(_:ArW c A k)(hl:ctlLive w=true)(he:ctlEpoch w=e)(h:RaI c e w t0 S A)(hp:S.ph≠0): RaI c e w t0 (S.step c r 0 e A).1 (S.step c r 0 e A).2:=by
 have hct:=ctl0_ok hc
 have hcs:=hc
 simp only [Cfg.Ok] at hcs
 obtain⟨h1,h2,h3,h4,h5,h6,h7,h8,h8b,h9,h10,h10b,h11,h12⟩:=hS
 obtain⟨d1,d2,d3,d4,d5,d6⟩:=h
 obtain⟨K,gu,sl,wd,cd,ph⟩:=S
 simp only at h1 h2 h3 h4 h5 h6 h7 h8 h8b h9 h10 h10b h11 h12 d3 d4 d5 d6 hp
 have no:∀ {a b:Nat} {P:Prop},a≠b→a=b→P:=fun h1 h2=>absurd h2 h1
 have no2:∀ {a:Nat} {P:Prop},a≠4→a≠0→a=4∨a=0→P:=fun h1 h2 h=>by rcases h with h | h; exact absurd h h1; exact absurd h h2
 match ph,h1 with
 | 0,_=>exact absurd rfl hp
 | 1,_=>
  obtain⟨q1,q2,q3,q4,q5⟩:=h5 rfl
  obtain⟨e1,e2⟩:=d3 rfl
  have hst:K.step c A=(⟨K.client,-1,K.at_⟩,A.swapT (slotAt c K.at_) (markW K.client 0)):=by
   unfold Cl.step; rw [if_neg q4,e1,if_pos e2]
  have hr:Rd.step c r 0 e ⟨K,gu,sl,wd,cd,1⟩ A=(⟨⟨K.client,-1,K.at_⟩,some (newGu c r K.at_ 0 e),K.at_,wd,cd,2⟩,A.swapT (slotAt c K.at_) (markW K.client 0)):=by
   unfold Rd.step
   simp only [hst,if_true]
   rw [if_neg (by omega:¬K.at_ = -1)]
  rw [hr]
  have hsa:=slotAt_ok hc (i:=K.at_) (by omega)
  refine⟨?_,by show t0≤A.steps+1; omega,no (by simp),fun _=>⟨_,rfl,rfl,.inl rfl⟩,no (by simp),no2 (by simp) (by simp)⟩
  show(A.ws.set (slotAt c K.at_).toNat _).getD _ 0=w
  rw [getD_set_ne (by omega)]; exact d1
 | 2,_=>
  obtain⟨G,q1,q2,q3,q4⟩:=h6 rfl
  subst q1
  obtain⟨g1,g2⟩:=h4 G rfl
  have hsl:=slotAt_ok hc (h9.resolve_left (h10 (by decide) (by decide)))
  have hsl0:=h9.resolve_left (h10 (by decide) (by decide))
  have hs1:G.slot=slotAt c sl:=hI rfl G rfl
  obtain⟨G',e1,e2,e3⟩:=d4 rfl
  have eg:G=G':=Option.some.inj e1
  subst eg
  have hwd:=g2.word
  have hgp:=g1.ph
  obtain⟨cl,ep,gs,gw,sn,bk,fl,cm,gc,gp⟩:=G
  simp only at hwd hgp e2 e3 hs1 q2
  subst e2 hwd hs1
  match gp,hgp with
  | 0,_=>exact absurd rfl q2
  | 1,_=>
   by_cases hb:ctlBlock w=0
   ·have hg:Gu.step c.retry ⟨cl,ep,slotAt c sl,ctlAt c 0,sn,bk,fl,cm,gc,1⟩ A=(⟨cl,ep,slotAt c sl,ctlAt c 0,w,0,fl,A.steps+1,20,0⟩,A.load (ctlAt c 0)):=by
     show((Gu.look _ (A.ws.getD (ctlAt c 0).toNat 0)),_) = _
     rw [d1,Gu.look_E _ hl he hb]; rfl
    have hr:Rd.step c r 0 ep ⟨K,some ⟨cl,ep,slotAt c sl,ctlAt c 0,sn,bk,fl,cm,gc,1⟩,sl,wd,cd,2⟩ A=(⟨K,some ⟨cl,ep,slotAt c sl,ctlAt c 0,w,0,fl,A.steps+1,20,0⟩,sl,wd,20,4⟩,A.load (ctlAt c 0)):=by
     unfold Rd.step
     simp only [hg]; rfl
    rw [hr]
    exact⟨d1,by show t0≤A.steps+1; omega,no (by simp),no (by simp),no (by simp),fun _=>.inl ⟨rfl,hb⟩⟩
   ·have hg:Gu.step c.retry ⟨cl,ep,slotAt c sl,ctlAt c 0,sn,bk,fl,cm,gc,1⟩ A=(⟨cl,ep,slotAt c sl,ctlAt c 0,w,ctlBlock w,fl,A.steps+1,gc,2⟩,A.load (ctlAt c 0)):=by
     show((Gu.look _ (A.ws.getD (ctlAt c 0).toNat 0)),_) = _
     rw [d1,Gu.look_N _ hl he hb]; rfl
    have hr:Rd.step c r 0 ep ⟨K,some ⟨cl,ep,slotAt c sl,ctlAt c 0,sn,bk,fl,cm,gc,1⟩,sl,wd,cd,2⟩ A=(⟨K,some ⟨cl,ep,slotAt c sl,ctlAt c 0,w,ctlBlock w,fl,A.steps+1,gc,2⟩,sl,wd,cd,2⟩,A.load (ctlAt c 0)):=by
     unfold Rd.step
     simp only [hg]; rfl
    rw [hr]
    exact⟨d1,by show t0≤A.steps+1; omega,no (by simp),fun _=>⟨_,rfl,rfl,.inr ⟨.inl rfl,rfl,hb⟩⟩,no (by simp),no2 (by simp) (by simp)⟩
  | 2,_=>
   obtain⟨f1,f2,f3⟩:=e3.resolve_left (by show ¬(2:Nat)=1; decide)
   have hr:Rd.step c r 0 ep ⟨K,some ⟨cl,ep,slotAt c sl,ctlAt c 0,sn,bk,fl,cm,gc,2⟩,sl,wd,cd,2⟩ A=(⟨K,some ⟨cl,ep,slotAt c sl,ctlAt c 0,sn,bk,fl,cm,gc,3⟩,sl,wd,cd,2⟩,A.store (slotAt c sl) (markW cl bk)):=rfl
   rw [hr]
   refine⟨?_,by show t0≤A.steps+1; omega,no (by simp),fun _=>⟨_,rfl,rfl,.inr ⟨.inr rfl,f2,f3⟩⟩,no (by simp),no2 (by simp) (by simp)⟩
   show(A.ws.set (slotAt c sl).toNat _).getD _ 0=w
   rw [getD_set_ne (by omega)]; exact d1
  | 3,_=>
   obtain⟨f1,f2,f3⟩:=e3.resolve_left (by show ¬(3:Nat)=1; decide)
   have hg:Gu.step c.retry ⟨cl,ep,slotAt c sl,ctlAt c 0,sn,bk,fl,cm,gc,3⟩ A=(⟨cl,ep,slotAt c sl,ctlAt c 0,sn,bk,fl,A.steps+1,0,0⟩,A.load (ctlAt c 0)):=by
    show(if A.ws.getD (ctlAt c 0).toNat 0=sn then _ else _) = _
    have f2:sn=w:=f2
    rw [if_pos (d1.trans f2.symm)]; rfl
   have hr:Rd.step c r 0 ep ⟨K,some ⟨cl,ep,slotAt c sl,ctlAt c 0,sn,bk,fl,cm,gc,3⟩,sl,wd,cd,2⟩ A=(⟨K,some ⟨cl,ep,slotAt c sl,ctlAt c 0,sn,bk,fl,A.steps+1,0,0⟩,sl,wd,0,3⟩,A.load (ctlAt c 0)):=by
    unfold Rd.step
    simp only [hg]; rfl
   rw [hr]
   exact⟨d1,by show t0≤A.steps+1; omega,no (by simp),no (by simp),fun _=>⟨f3,rfl,_,rfl,by show t0<A.steps+1; omega⟩,no2 (by simp) (by simp)⟩
 | 3,_=>
  obtain⟨e1,e2,e3⟩:=d5 rfl
  unfold Rd.step
  simp only
  split
  ·exact⟨d1,by show t0≤A.steps+1; omega,no (by simp),no (by simp),no (by simp),fun _=>.inr ⟨e1,e2,e3⟩⟩
  ·exact⟨d1,by show t0≤A.steps+1; omega,no (by simp),no (by simp),fun _=>⟨e1,e2,e3⟩,no2 (by simp) (by simp)⟩
 | 4,_=>
  have hsl:=slotAt_ok hc (h9.resolve_left (h10 (by decide) (by decide)))
  have hsl0:=h9.resolve_left (h10 (by decide) (by decide))
  have hr:Rd.step c r 0 e ⟨K,gu,sl,wd,cd,4⟩ A=(⟨K,gu,-1,wd,cd,0⟩,A.store (slotAt c sl) 0):=rfl
  rw [hr]
  refine⟨?_,by show t0≤A.steps+1; omega,no (by simp),no (by simp),no (by simp),fun _=>d6 (.inl rfl)⟩
  show(A.ws.set (slotAt c sl).toNat _).getD _ 0=w
  rw [getD_set_ne (by omega)]; exact d1
/-- what is told at last -/
def FinR(_:Cfg)(W:Wd)(S:Rd): Prop:=(W.now=0∧(Rd.told S).2=20)∨
 ((1≤W.now∧W.now≤W.many.length)∧(Rd.told S).2=0∧W.many.getD (W.now-1).toNat 0≤((Rd.told S).1.length:Int)∧∀j:Int,0≤j→j<W.many.getD (W.now-1).toNat 0→(Rd.told S).1.getD j.toNat 0=W.now)
structure Lf where
 i:Int
 S:Rd
 A:Ar
/-- the world in which the read goes on -/
structure LfW (c:Cfg) (W0:Wd) (t0:Int) (z:Lf) (W:Wd):Prop where
 own:∃l,Own c W l (1700+z.i)
 wh:∃f la,Wh c f la W∧f≤t0∧∀t:Int,t0-f<t→t≤la.length→lat1 la t=W0.now
 K:∃id_:Int,W.k 2=⟨.read 2 (ctlEpoch (wordC c W0.A)) z.S,[],id_⟩
 A:W.A=z.A
 many:W.many=W0.many
 now:W.now=W0.now
 ra:RaI c (ctlEpoch (wordC c W0.A)) (wordC c W0.A) t0 z.S z.A
structure LfOk (c:Cfg) (W0:Wd) (t0:Int) (z:Lf):Prop where
 arw:ArW c z.A (1700+z.i)
 ok:z.S.Ok c 2 0 z.A.n
 ctl:CtlOk c z.A 0
 i0:0≤z.i∧z.i≤c.slots+12
 go:(z.S.ph≠0∧rdM c z.A.ws z.S+1≤c.slots+12-z.i∧∃W,LfW c W0 t0 z W)∨(z.S.ph=0∧FinR c W0 z.S)
theorem lf_first{c:Cfg}(hC:C17 c){W0:Wd}{l:Int→List Int}(o:Own c W0 l 1700)(hn:NxOk c W0)(hd:∀j:Int,0≤j∧j<4→(W0.k j).d = .idle)(hm:(W0.many.length:Int)≤1900)(hz:∀s:Int,0≤s∧s<c.slots→W0.A.ws.getD (slotAt c s).toNat 0=0): LfOk c W0 W0.A.steps ⟨0,newRd 2,W0.A⟩:=by
 have h4:(0:Int)≤2∧(2:Int)<4:=by omega
 have hcs:=hC.ok
 simp only [Cfg.Ok] at hcs
 have ob:=o.begin hC.ok hC.s0 hC.s1 hC.cl h4 (n:=0) (by omega)
 have hk:(W0.begin c 2 0).k 2=((W0.k 2).beginD c (ctlEpoch (wordC c W0.A)) W0.many 2 0).1:=by
  have:(W0.begin c 2 0).k 2=if (2:Int)=2 then _ else _:=k_set o.len h4 h4
  rw [this,if_pos rfl]
 have hr:=o.rd 2 (by omega)
 have e:(W0.k 2).beginD c (ctlEpoch (wordC c W0.A)) W0.many 2 0=(⟨.read 2 (ctlEpoch (wordC c W0.A)) (newRd 2),[],(W0.k 2).id⟩,W0.many):=by
  have hd2:=hd 2 h4
  revert hd2 hr
  generalize W0.k 2=K
  obtain⟨d,ret,id_⟩:=K
  intro hr hd2
  simp only at hd2 hr
  subst hd2 hr
  rfl
 rw [e] at hk
 have hst:=ob.st 2 h4
 rw [hk] at hst
 have hok:(newRd 2).Ok c 2 0 W0.A.n:=hst.1
 refine⟨o.arw.mono (by show(1700:Int)≤1700+0; omega),hok,o.ctl,by show(0:Int)≤0∧0≤c.slots+12; omega,.inl ⟨by show(1:Nat)≠0; decide, ?_,W0.begin c 2 0, ?_⟩⟩
 ·have:=rdM_le (ws:=W0.A.ws) hC.ok hok
  show rdM c W0.A.ws (newRd 2)+1≤c.slots+12-0
  omega
 ·obtain⟨⟨f,la,hw⟩,hs⟩:=hn
  have hw2:=hw.begin hC o h4 0
  refine⟨⟨l,ob.mono (by show(1700:Int)≤1700+0; omega)⟩,⟨f,la,hw2,(by have h9:=hw2.lat; have h8:(W0.begin c 2 0).A.steps=W0.A.steps:=rfl; omega),fun t h1 h2 => ?_⟩,⟨_,hk⟩,rfl, ?_,rfl,⟨rfl,Int.le_refl _,fun _=>⟨rfl,hz 0 (by omega)⟩,fun h=>absurd h (by show ¬(1:Nat)=2; decide),fun h=>absurd h (by show ¬(1:Nat)=3; decide),fun h => ?_⟩⟩
  ·have:=hw.lat; omega
  ·show((W0.k 2).beginD c (ctlEpoch (wordC c W0.A)) W0.many 2 0).2=W0.many
   rw [e]
  ·rcases h with h | h <;> exact absurd h (by show ¬(1:Nat) = _; decide)
theorem lf_step{c:Cfg}(hC:C17 c){W0:Wd}{t0:Int}(hlive:ctlLive (wordC c W0.A)=true){z:Lf}(h:LfOk c W0 t0 z)(hi:z.i<c.slots+12):
  LfOk c W0 t0 ⟨z.i+1,(z.S.step c 2 0 (ctlEpoch (wordC c W0.A)) z.A).1,(z.S.step c 2 0 (ctlEpoch (wordC c W0.A)) z.A).2⟩:=by
 have h4:(0:Int)≤2∧(2:Int)<4:=by omega
 have hcs:=hC.ok
 simp only [Cfg.Ok] at hcs
 have h0:=h.i0
 have hrs:=rd_step (ep:=ctlEpoch (wordC c W0.A)) hC.ok h.ok h.arw (by omega) h.ctl
 have hnn:(1700+(z.i+1):Int)=1700+z.i+1:=by omega
 rcases h.go with ⟨g1,g2,W,w1,⟨f,la,wh,wf,wl⟩,⟨id_,wk⟩,wa,wm,wn,ra⟩ | ⟨g1,g2⟩
 ·obtain⟨l,o⟩:=w1
  have hst:=o.st 2 h4
  have hin:=o.inn 2 h4
  rw [wk] at hst hin
  have hI:RdI c z.S:=hin
  have hra:=ra_step hC.ok h.ok hI h.arw hlive rfl ra g1
  have hal:=rd_alone (ep:=ctlEpoch (wordC c W0.A)) hC.ok hC.s0 hC.s1 h.ok hI g1 (A:=z.A)
  obtain⟨l' ,o'⟩:=o.step hC.ok (by omega) h4
  obtain⟨wh',_⟩:=wh.step hC.ok o h4
  have hk:=step_k (c:=c) o.len h4 h4
  rw [if_pos rfl,wk] at hk
  have eA:(W.step c 2).A=(z.S.step c 2 0 (ctlEpoch (wordC c W0.A)) z.A).2:=by
   show((W.k 2).step c W.now W.A).A = _
   rw [wk,wa]; unfold Kc.step; simp only; split <;> rfl
  have eN:(W.step c 2).now=W0.now:=by
   show((W.k 2).step c W.now W.A).now = _
   rw [wk,wa,←wn]; unfold Kc.step; simp only; split <;> rfl
  have hlen:=wh.lat
  have hlat:∀t:Int,t0-f<t→t≤(ext la ((W.step c 2).A.steps-f) (W.step c 2).now).length→lat1 (ext la ((W.step c 2).A.steps-f) (W.step c 2).now) t=W0.now:=by
   intro t h1 h2
   have hra0:=ra.st
   by_cases h3:t≤la.length
   ·rw [lat1_ext (by rw [wa] at hlen; omega)]; exact wl t h1 h3
   ·rw [eN] at h2 ⊢
    unfold ext at h2 ⊢
    rw [List.length_append,List.length_replicate] at h2
    unfold lat1
    rw [List.getD_eq_getElem?_getD,List.getElem?_append_right (by omega),List.getElem?_replicate,if_pos (by omega)]; rfl
  have hctl:CtlOk c (z.S.step c 2 0 (ctlEpoch (wordC c W0.A)) z.A).2 0:=by rw [←eA]; exact o'.ctl
  refine⟨by rw [hnn]; exact hrs.2,hrs.1,hctl,by show 0≤z.i+1∧z.i+1≤c.slots+12; omega, ?_⟩
  by_cases hz:(z.S.step c 2 0 (ctlEpoch (wordC c W0.A)) z.A).1.ph=0
  ·refine .inr ⟨hz, ?_⟩
   rcases hra.p4 (.inr hz) with ⟨q1,q2⟩ | ⟨q1,q2,G,q3,q4⟩
   ·left
    have hw0:wordC c W.A=wordC c W0.A:=by unfold wordC; rw [wa]; exact ra.word
    refine⟨by have:=wh.no0 (by rw [hw0]; exact q2); rw [←wn]; exact this, ?_⟩
    have tc:Rd.told (z.S.step c 2 0 (ctlEpoch (wordC c W0.A)) z.A).1=if (z.S.step c 2 0 (ctlEpoch (wordC c W0.A)) z.A).1.code=0 then((z.S.step c 2 0 (ctlEpoch (wordC c W0.A)) z.A).1.words,0) else([],(z.S.step c 2 0 (ctlEpoch (wordC c W0.A)) z.A).1.code):=by unfold Rd.told; rw [hz]; rfl
    rw [tc,if_neg (by omega)]; exact q1
   ·right
    have hfin:=wh_fin hC.ok o wh h4 wk (by rw [wa]; exact hz) (by rw [wa]; exact q2)
    rw [wa] at hfin
    have tc:Rd.told (z.S.step c 2 0 (ctlEpoch (wordC c W0.A)) z.A).1=if (z.S.step c 2 0 (ctlEpoch (wordC c W0.A)) z.A).1.code=0 then((z.S.step c 2 0 (ctlEpoch (wordC c W0.A)) z.A).1.words,0) else([],(z.S.step c 2 0 (ctlEpoch (wordC c W0.A)) z.A).1.code):=by unfold Rd.told; rw [hz]; rfl
    rw [if_pos q2] at tc
    obtain⟨G',f1,f2,f3,f4,f5,f6,f7⟩:=hfin
    have eg:G=G':=Option.some.inj (q3.symm.trans f1)
    subst eg
    rw [eA,eN,←wn] at hlat
    have hlw:=hlat (G.commit-f) (by omega) f3.2
    rw [hlw,wn,wm] at f4 f6 f7
    rw [tc]
    exact⟨f4,rfl,f6,fun j h1 h2=>f7 j ⟨h1,h2⟩⟩
  ·refine .inl ⟨hz,by have:=hal.resolve_left hz; show rdM c (z.S.step c 2 0 (ctlEpoch (wordC c W0.A)) z.A).2.ws (z.S.step c 2 0 (ctlEpoch (wordC c W0.A)) z.A).1+1≤c.slots+12-(z.i+1); omega,W.step c 2,⟨l',by rw [hnn]; exact o'⟩,⟨f,_,wh',wf,hlat⟩,⟨id_, ?_⟩,eA,wm,eN,hra⟩
   rw [hk,wa]
   unfold Kc.step
   simp only
   rw [if_neg hz]
 ·have e:z.S.step c 2 0 (ctlEpoch (wordC c W0.A)) z.A=(z.S,z.A):=by unfold Rd.step; rw [g1]; rfl
  rw [e] at hrs ⊢
  exact⟨by rw [hnn]; exact hrs.2,h.ok,h.ctl,by show 0≤z.i+1∧z.i+1≤c.slots+12; omega,.inr ⟨g1,g2⟩⟩
theorem lf_last{c:Cfg}(hC:C17 c){W0:Wd}{t0:Int}{z:Lf}(h:LfOk c W0 t0 z)(hi:¬z.i<c.slots+12): z.S.ph=0∧FinR c W0 z.S:=by
 have h0:=h.i0
 rcases h.go with ⟨g1,g2,W,hw⟩ | g
 ·exfalso
  obtain⟨l,o⟩:=hw.own
  have:0≤rdM c z.A.ws z.S:=by
   have h11:=h.ok.wl
   have hcs:=hC.ok
   simp only [Cfg.Ok] at hcs
   have hsz:∀k,szK c k≤6:=fun k=>by unfold szK; rw [hC.s0,hC.s1]; split <;> omega
   have hat:=h.ok.k.at_
   unfold rdM
   split
   ·omega
   ·split
    ·omega
    ·have:=guM_rng z.A.ws ‹Gu›; omega
   ·rename_i hp
    obtain⟨G,q1,q2,q3,q4,q5⟩:=h.ok.g3 hp
    have:=hsz (clsOf c G.block)
    omega
   ·omega
  omega
 ·exact g
/-- where the blocks are at last -/
theorem last_free{c:Cfg}(hc:c.Ok){W:Wd}{l:Int→List Int}{k:Int}(h:Own c W l k)(hd:∀j:Int,0≤j∧j<4→(W.k j).d = .idle)(hr:∀j:Int,0≤j∧j<2→(W.k j).ret=[]):
  ((freeL (l 0) (l 1) (c.n0+c.n1).toNat).length:Int)=(if ctlBlock (wordC c W.A)>0 then c.n0+c.n1-1 else c.n0+c.n1)∧hasN (freeL (l 0) (l 1) (c.n0+c.n1).toNat) (freeL (l 0) (l 1) (c.n0+c.n1).toNat).length (ctlBlock (wordC c W.A))=false∧
   (((l 0).length:Int)≤c.n0∧((l 1).length:Int)≤c.n1):=by
 have e0:∀j:Int,0≤j∧j<2→(W.k j).own=[]:=fun j hj=>by
  have h1:=hd j (by omega); have h2:=hr j hj
  unfold Kc.own; rw [h1,h2]; rfl
 have hp:=h.perm
 rw [flat4 h.len,own23 h (i:=2) (by omega),own23 h (i:=3) (by omega),e0 0 (by omega),e0 1 (by omega),List.append_nil,List.append_nil,List.append_nil,List.append_nil] at hp
 have hf:=free_perm hp
 have hl:=free_lens hc h.hp.ch hp
 have hb:(blks c).length=(c.n0+c.n1).toNat:=by simp [blks]
 have hlen:=hp.length_eq
 have hfl:=hf.length_eq
 have hnd:=(hp.nodup_iff).2 (nodup_blks c)
 have hbr:=ctl_rng (h.arw.2.2.1 (ctlAt c 0).toNat)
 have hU:(0≤ctlBlock (wordC c W.A)∧ctlBlock (wordC c W.A)≤65535):=hbr.1
 have hcs:=hc
 simp only [Cfg.Ok] at hcs
 refine⟨?_, ?_,hl⟩
 ·rw [List.length_append,hb] at hlen
  rw [hfl]
  unfold ctlL at hlen
  by_cases hz:ctlBlock (wordC c W.A)=0
  ·rw [if_pos hz] at hlen
   rw [if_neg (by omega)]
   simp only [List.length_nil] at hlen; omega
  ·rw [if_neg hz] at hlen
   rw [if_pos (by omega)]
   simp only [List.length_singleton] at hlen; omega
 ·cases hh:hasN (freeL (l 0) (l 1) (c.n0+c.n1).toNat) (freeL (l 0) (l 1) (c.n0+c.n1).toNat).length (ctlBlock (wordC c W.A)) with
  | false=>rfl
  | true=>
   exfalso
   have hm:=hasN_all.1 hh
   have hm2:=hf.mem_iff.1 hm
   by_cases hz:ctlBlock (wordC c W.A)=0
   ·have:=mem_blks.1 (hp.mem_iff.1 (List.mem_append_left _ hm2))
    omega
   ·exact(List.nodup_append.1 hnd).2.2 _ hm2 _ (by unfold ctlL; rw [if_neg hz]; simp) rfl
end Go.Sx
/- LargeLast: the law's turns. -/
namespace Go.Sx
def LnOk(c:Cfg)(p:Lt): Prop:=LtOk c p∧NxOk c p.W
theorem ln_who{c:Cfg}(hC:C17 c){p:Lt}(h:LnOk c p)(hi:p.i≤300)(wh n:Int)(ma:Option Addr)(mc:Nat): LnOk c ⟨p.i+1,p.W.who c wh n,p.W.whoB c p.B wh n,ma,mc⟩:=by
 obtain⟨l,o⟩:=h.1.1.own
 exact⟨lt_who hC h.1 hi wh n ma mc,nx_who hC.ok o h.2 wh n⟩
theorem ln_turn{c:Cfg}(hC:C17 c){p:Lt}(h:LnOk c p)(hi:p.i≤300){wh n m:Int}{i:Int}(h4:0≤i∧i<4){W1 W2 W3:Wd}{B1:Ar}(e1:p.W.who c wh n=W1)(e2:p.W.whoB c p.B wh n=B1)(e3:W1.begin c i m=W2)(e4:W2.step c i=W3)(aw:Option Addr)(cw:Nat){nn:Nat}(hnn:nn=W3.A.n)(lk lw lv:Int)(lc:Bool)(ma:Option Addr)(mc:Nat):
  LnOk c ⟨p.i+1,W3,⟨aw,cw,nn,W3.A.ws,B1.steps,lk,lw,lv,lc⟩,ma,mc⟩:=by
 subst e1 e2 e3 e4
 obtain⟨l,o⟩:=h.1.1.own
 have s1:=h.1.1.who hC.ok (by have:=h.1.2; omega) wh n
 obtain⟨l1,o1⟩:=s1.own
 have s2:=s1.begin hC (by have:=h.1.2; omega) h4 m
 obtain⟨l2,o2⟩:=s2.own
 exact⟨lt_turn hC h.1 hi wh n m h4 aw cw hnn lk lw lv lc ma mc,nx_step hC.ok o2 (nx_begin hC o1 (nx_who hC.ok o h.2 wh n) h4 m) h4⟩
/-- slots are free at first -/
theorem L_slots{s n0 n1 r:Int}(hs:1≤s∧s≤4)(h0:1≤n0∧n0≤4)(h1:1≤n1∧n1≤4)(aw:Option Addr)(cw:Nat):
  (List.range 4).all (fun j=>bif decide ((j:Int)<s) then(mkAr ⟨1,4,s,4,4,n0,6,n1,r⟩ aw cw).ws.getD (5+j) 0==0 else true)=true:=by
 have e1:s=1∨s=2∨s=3∨s=4:=by omega
 have e2:n0=1∨n0=2∨n0=3∨n0=4:=by omega
 have e3:n1=1∨n1=2∨n1=3∨n1=4:=by omega
 rcases e1 with rfl | rfl | rfl | rfl <;> rcases e2 with rfl | rfl | rfl | rfl <;> rcases e3 with rfl | rfl | rfl | rfl <;> exact Eq.symm (by kernel_rfl)
theorem ln_first{q0 q1 q2:Int}{aw aw2:Option Addr}{cw cw2:Nat}: LnOk (cfgL q0 q1 q2) ⟨0,⟨(mkAr (cfgL q0 q1 q2) aw cw).store (ctlAt (cfgL q0 q1 q2) 0) (bornW 0),four,[],0⟩,(rmAr (cfgL q0 q1 q2) (rpackW (cfgL q0 q1 q2)) aw2 cw2).store (ctlAt (cfgL q0 q1 q2) 0) (bornW 0),none,0⟩:=by
 refine⟨⟨sy_first,Int.le_refl 0⟩,nx_first (cfgL_ok q0 q1 q2) (mkAr_ok (cfgL_ok q0 q1 q2) aw cw) fun s hs => ?_⟩
 have h:=cfgL_rng q0 q1 q2
 have ha:=slotAt_ok (cfgL_ok q0 q1 q2) hs
 have hz:=L_slots (r:=1+bAnd .i64 q1 3) h.1 h.2.1 h.2.2.1 aw cw
 have hs2:s<1+bAnd .i64 q0 3:=hs.2
 have:=List.all_eq_true.1 hz s.toNat (List.mem_range.2 (by omega))
 rw [show decide (((s.toNat:Nat):Int)<1+bAnd .i64 q0 3)=true from decide_eq_true (by omega),cond_true,beq_iff_eq] at this
 rw [show(slotAt (cfgL q0 q1 q2) s).toNat=5+s.toNat by omega]
 exact this
theorem two_same{p q:Prop}[Decidable p][Decidable q](h1:p→q)(h2:q→p): (decide p==decide q)=true:=by
 by_cases h:p
 ·rw [decide_eq_true h,decide_eq_true (h1 h)]; rfl
 ·rw [decide_eq_false h,decide_eq_false (fun x=>h (h2 x))]; rfl
end Go.Sx

/- Walks: what functions of the program and of the document compute, part 4 of those on which LargeAlone rests. -/
import Derived.Test.YtpcaijopodhdgaaGreatDoorRtC

set_option linter.unusedVariables false
set_option linter.unusedSimpArgs false
namespace Go.Proofs.YtpcaijopodhdgaaGreatDoor
open Go.Sx
abbrev Eff665 (x0 : Nat) (x1 : Value) (x2 : Value) (x3 : Value) (x4 : Value) (x5 : Option Addr) (x6 : Nat) (x7 : Nat) (x8 : Int) : Ent := .pts x0 [x1, .pointer none, .pointer none, x2, x3, x4, .slice x5 x6 x7, .int .u64 x8] 74
structure KlH where
 pv : Value
 sv : Value
 rv : Value
 ra : Option Addr
 rc : Nat
 y : Nat
noncomputable def klL (c : Cfg) (p : Nat) (k : Kc) (h : KlH) : List Ent := match k.d with
 | .idle => [E4463d p h.pv h.sv h.rv h.ra k.ret.length h.rc k.id, Ee1326 h.ra h.rc k.ret]
 | .pub ep ws S => [Eff665 p (vP h.y) h.pv h.sv h.rv h.ra k.ret.length h.rc k.id, Ee1326 h.ra h.rc k.ret, .res (PbR h.y c (ctlAt c 0) ep ws S)]
 | .scan S => [Eb05f6 p (vP h.y) h.pv h.sv h.rv h.ra k.ret.length h.rc k.id, Ee1326 h.ra h.rc k.ret, .res (ScanR h.y c S)]
 | .read cl ep S => [E70a74 p (vP h.y) h.pv h.sv h.rv h.ra k.ret.length h.rc k.id, Ee1326 h.ra h.rc k.ret, .res (RdR h.y c cl 0 ep S)]
noncomputable def KlR (c : Cfg) (p : Nat) (k : Kc) : Res := Box (fun _ : KlH => True) (klL c p k)
noncomputable abbrev KsR (ps : List Nat) (ks : List Kc) (c : Cfg) : Res := AllR (KlR c) (ps.zip ks)
noncomputable abbrev KsX (ps : List Nat) (ks : List Kc) (n : Nat) (c : Cfg) : Res := AllR (KlR c) ((ps.zip ks).eraseIdx n)
theorem zip_at {ps : List Nat} {ks : List Kc} (n : Nat) (h1 : n < ps.length) (h2 : n < ks.length) : (ps.zip ks).getD n (0, dK) = (ps.getD n 0, ks.getD n dK) := by
 have h : n < (ps.zip ks).length := by rw [List.length_zip]; omega
 simp [List.getD_eq_getElem?_getD, h1, h2, List.getElem?_eq_getElem h]
theorem zip_put {ps : List Nat} {ks : List Kc} (n : Nat) (k : Kc) : (ps.zip ks).set n (ps.getD n 0, k) = ps.zip (ks.set n k) := by
 induction ps generalizing ks n with
 | nil => simp
 | cons p ps ih =>
  cases ks with
  | nil => simp
  | cons q ks =>
   cases n with
   | zero => simp
   | succ n => simpa using ih n
theorem ks_focus {L : List Ent} {ps : List Nat} {ks : List Kc} {c : Cfg} (j n : Nat) (h1 : n < ps.length) (h2 : n < ks.length) (h : (pick L [j], places L.length [j]) = ([.res (KsR ps ks c)], true) := by kernel_rfl) :
  View L (dropAt L [j] ++ [.res (KlR c (ps.getD n 0) (ks.getD n dK)), .res (KsX ps ks n c)]) := by
 have hv := view_focus (M := dropAt L [j]) (pred := KlR c) (qs := ps.zip ks) j n (0, dK) (by rw [List.length_zip]; omega) (by rw [Prod.mk.injEq] at h; rw [h.1, h.2])
 rw [zip_at n h1 h2] at hv
 exact hv
theorem ks_unfocus {L : List Ent} {ps : List Nat} {ks : List Kc} {c : Cfg} (i j n : Nat) (k : Kc) (h1 : n < ps.length) (h2 : n < ks.length) (h : (pick L [i, j], places L.length [i, j]) = ([.res (KlR c (ps.getD n 0) k), .res (KsX ps ks n c)], true) := by kernel_rfl) :
  View L (dropAt L [i, j] ++ [.res (KsR ps (ks.set n k) c)]) := by
 have hv := view_unfocus (M := dropAt L [i, j]) (pred := KlR c) (qs := ps.zip ks) i j n (ps.getD n 0) k (by rw [List.length_zip]; omega) (by rw [Prod.mk.injEq] at h; rw [h.1, h.2])
 rw [zip_put] at hv
 exact hv
theorem ks_back {L : List Ent} {ps : List Nat} {ks : List Kc} {c : Cfg} (i j n : Nat) (k : Kc) (hk : ks.getD n dK = k) (h1 : n < ps.length) (h2 : n < ks.length) (h : (pick L [i, j], places L.length [i, j]) = ([.res (KlR c (ps.getD n 0) k), .res (KsX ps ks n c)], true) := by kernel_rfl) :
  View L (dropAt L [i, j] ++ [.res (KsR ps ks c)]) := by
 have hv := ks_unfocus i j n k h1 h2 h
 have e : ks.set n k = ks := by
  rw [← hk, List.getD_eq_getElem?_getD, List.getElem?_eq_getElem h2]
  exact List.set_getElem_self h2
 rw [e] at hv
 exact hv
theorem w_step (o_ : Obj) (c : Cfg) (x ba rb : Nat) (now : Int) (ka ma : Option Addr) (kc mc : Nat) (ps : List Nat) (many : List Int) (A : Ar) (i : Int) (ks : List Kc) (ho : IsH o_) (hc : c.Ok) (hn : A.ws.length = A.n) (hs : 0 ≤ A.steps ∧ A.steps ≤ 1000000) (hz : (A.n : Int) = sizeOfC c) (hR : RngW A.ws) (hi : 0 ≤ i ∧ i < 4) (hps : ps.length = 4) (hks : ks.length = 4) (hK : Kc.Ok c A i (ks.getD i.toNat dK)) :
  Ctr Tryz.prog 29 #[vP x, vI i] [.raw 0 o_, Ed2706 x c (vP ba) (vP rb) ka ps.length kc ma many.length mc now, .sl ka kc encP 0 1 ps 68, E3504b ba A, E35fb1 A, .res (KsR ps ks c)] (fun v L => ∃ (a2 : Option Addr) (c2 : Nat), v = .tuple #[.slice a2 (((ks.getD i.toNat dK).step c now A).t.l.length) c2, vI (((ks.getD i.toNat dK).step c now A).t.e), .bool (((ks.getD i.toNat dK).step c now A).t.done)] ∧ L = [.raw 0 o_, Ed2706 x c (vP ba) (vP rb) ka ps.length kc ma many.length mc (((ks.getD i.toNat dK).step c now A).now), .sl ka kc encP 0 1 ps 68, E3504b ba (((ks.getD i.toNat dK).step c now A).A), E35fb1 (((ks.getD i.toNat dK).step c now A).A), .res (KsR ps (ks.set i.toNat ((ks.getD i.toNat dK).step c now A).k) c), E54ea0 a2 c2 (((ks.getD i.toNat dK).step c now A).t.l)]) := by
 have hc' := hc
 simp only [Cfg.Ok] at hc'
 have hsz := sizeOfC_ok hc
 have htp : (0 : Int) ≤ 0 ∧ (0 : Int) < c.topics := by omega
 refine ctr_view (ks_focus 5 i.toNat (ps := ps) (ks := ks) (c := c) (by omega) (by omega)) ?_
 generalize hk : ks.getD i.toNat dK = k at hK
 refine oC (I := fun _ : KlH => True) (LL := klL c (ps.getD i.toNat 0) k) 5 ?_
 rintro ⟨pv, sv, rv, ra, rc, y⟩ -
 obtain ⟨d, ret, id_⟩ := k
 have hl := hK.1
 have hK2 := hK.2
 cases d with
 | idle =>
  have e : Kc.step c now ⟨.idle, ret, id_⟩ A = ⟨⟨.idle, ret, id_⟩, A, now, ⟨[], 1, true⟩⟩ := by rfl
  rw [e]
  refine cP [1, 2, 6] (w_stepI c x ba rb now ka ma kc mc ps many A i pv sv rv ra rc id_ ret hi hps) ?_
  rintro v post ⟨rfl, rfl⟩
  exact ⟨_, (((vK (fun _ : KlH => True) (klL c (ps.getD i.toNat 0) ⟨.idle, ret, id_⟩) ⟨pv, sv, rv, ra, rc, y⟩ [7, 4] trivial).trans (ks_unfocus (ps := ps) (ks := ks) (c := c) 6 3 i.toNat ⟨.idle, ret, id_⟩ (by omega) (by omega))).trans (view_nil (encI .u64) 0 1 60 (sizedI _))).trans (vQ [0, 3, 4, 1, 2, 5, 6]), none, 0, rfl, rfl⟩
 | pub ep ws S =>
  have hS := hK2.1
  by_cases hd : (S.step c (ctlAt c 0) ep ws A).1.ph = 0
  ·have hcd : 0 ≤ (S.step c (ctlAt c 0) ep ws A).1.code := ((pb_step (k := A.steps) (at_ := ctlAt c 0) (ep := ep) hc hK2.2.1 hS ⟨hn, hz, hR, hs.1, Int.le_refl _⟩).1).c0
   by_cases ho1 : (Pb.told (S.step c (ctlAt c 0) ep ws A).1).1 > 0
   ·by_cases hk1 : (Pb.told (S.step c (ctlAt c 0) ep ws A).1).2 = 0
    ·skip
     have e : Kc.step c now ⟨.pub ep ws S, ret, id_⟩ A = ⟨⟨.idle, ret ++ [(Pb.told (S.step c (ctlAt c 0) ep ws A).1).1], id_⟩, (S.step c (ctlAt c 0) ep ws A).2, id_, ⟨[], (Pb.told (S.step c (ctlAt c 0) ep ws A).1).2, true⟩⟩ := by unfold Kc.step; simp only; rw [if_pos hd, if_pos ho1, if_pos hk1]
     rw [e]
     refine cP [0, 1, 2, 6, 7, 8, 3, 4] (w_stepPDYK c x ba rb now ka ma kc mc ps many A i pv sv rv ra rc id_ ret y (ctlAt c 0) ep ws S (.pointer none) (.pointer none) o_ hi hps hc hn (by omega) hz hR (by have := ctl0_ok hc; omega) hS hd ho1 hk1 hl ho) ?_
     rintro v post ⟨ra2_1, rc2_2, rfl, rfl⟩
     exact ⟨_, (((vK (fun _ : KlH => True) (klL c (ps.getD i.toNat 0) ⟨.idle, ret ++ [(Pb.told (S.step c (ctlAt c 0) ep ws A).1).1], id_⟩) ⟨pv, sv, rv, ra2_1, rc2_2, y⟩ [4, 5] trivial).trans (ks_unfocus (ps := ps) (ks := ks) (c := c) 7 0 i.toNat ⟨.idle, ret ++ [(Pb.told (S.step c (ctlAt c 0) ep ws A).1).1], id_⟩ (by omega) (by omega))).trans (view_nil (encI .u64) 0 1 60 (sizedI _))).trans (vQ [0, 1, 2, 4, 5, 6, 7]), none, 0, rfl, rfl⟩
    ·skip
     have e : Kc.step c now ⟨.pub ep ws S, ret, id_⟩ A = ⟨⟨.idle, ret ++ [(Pb.told (S.step c (ctlAt c 0) ep ws A).1).1], id_⟩, (S.step c (ctlAt c 0) ep ws A).2, now, ⟨[], (Pb.told (S.step c (ctlAt c 0) ep ws A).1).2, true⟩⟩ := by unfold Kc.step; simp only; rw [if_pos hd, if_pos ho1, if_neg hk1]
     rw [e]
     refine cP [0, 1, 2, 6, 7, 8, 3, 4] (w_stepPDYE c x ba rb now ka ma kc mc ps many A i pv sv rv ra rc id_ ret y (ctlAt c 0) ep ws S (.pointer none) (.pointer none) o_ hi hps hc hn (by omega) hz hR (by have := ctl0_ok hc; omega) hS hd ho1 hk1 hl ho) ?_
     rintro v post ⟨ra2_1, rc2_2, rfl, rfl⟩
     exact ⟨_, (((vK (fun _ : KlH => True) (klL c (ps.getD i.toNat 0) ⟨.idle, ret ++ [(Pb.told (S.step c (ctlAt c 0) ep ws A).1).1], id_⟩) ⟨pv, sv, rv, ra2_1, rc2_2, y⟩ [4, 5] trivial).trans (ks_unfocus (ps := ps) (ks := ks) (c := c) 7 0 i.toNat ⟨.idle, ret ++ [(Pb.told (S.step c (ctlAt c 0) ep ws A).1).1], id_⟩ (by omega) (by omega))).trans (view_nil (encI .u64) 0 1 60 (sizedI _))).trans (vQ [0, 1, 2, 4, 5, 6, 7]), none, 0, rfl, rfl⟩
   ·by_cases hk1 : (Pb.told (S.step c (ctlAt c 0) ep ws A).1).2 = 0
    ·skip
     have e : Kc.step c now ⟨.pub ep ws S, ret, id_⟩ A = ⟨⟨.idle, ret, id_⟩, (S.step c (ctlAt c 0) ep ws A).2, id_, ⟨[], (Pb.told (S.step c (ctlAt c 0) ep ws A).1).2, true⟩⟩ := by unfold Kc.step; simp only; rw [if_pos hd, if_neg ho1, if_pos hk1]
     rw [e]
     refine cP [0, 1, 2, 6, 7, 8, 3, 4] (w_stepPDNK c x ba rb now ka ma kc mc ps many A i pv sv rv ra rc id_ ret y (ctlAt c 0) ep ws S (.pointer none) (.pointer none) o_ hi hps hc hn (by omega) hz hR (by have := ctl0_ok hc; omega) hS hd ho1 hk1 hl ho) ?_
     rintro v post ⟨rfl, rfl⟩
     exact ⟨_, (((vK (fun _ : KlH => True) (klL c (ps.getD i.toNat 0) ⟨.idle, ret, id_⟩) ⟨pv, sv, rv, ra, rc, y⟩ [4, 5] trivial).trans (ks_unfocus (ps := ps) (ks := ks) (c := c) 7 0 i.toNat ⟨.idle, ret, id_⟩ (by omega) (by omega))).trans (view_nil (encI .u64) 0 1 60 (sizedI _))).trans (vQ [0, 1, 2, 4, 5, 6, 7]), none, 0, rfl, rfl⟩
    ·skip
     have e : Kc.step c now ⟨.pub ep ws S, ret, id_⟩ A = ⟨⟨.idle, ret, id_⟩, (S.step c (ctlAt c 0) ep ws A).2, now, ⟨[], (Pb.told (S.step c (ctlAt c 0) ep ws A).1).2, true⟩⟩ := by unfold Kc.step; simp only; rw [if_pos hd, if_neg ho1, if_neg hk1]
     rw [e]
     refine cP [0, 1, 2, 6, 7, 8, 3, 4] (w_stepPDNE c x ba rb now ka ma kc mc ps many A i pv sv rv ra rc id_ ret y (ctlAt c 0) ep ws S (.pointer none) (.pointer none) o_ hi hps hc hn (by omega) hz hR (by have := ctl0_ok hc; omega) hS hd ho1 hk1 hl ho) ?_
     rintro v post ⟨rfl, rfl⟩
     exact ⟨_, (((vK (fun _ : KlH => True) (klL c (ps.getD i.toNat 0) ⟨.idle, ret, id_⟩) ⟨pv, sv, rv, ra, rc, y⟩ [4, 5] trivial).trans (ks_unfocus (ps := ps) (ks := ks) (c := c) 7 0 i.toNat ⟨.idle, ret, id_⟩ (by omega) (by omega))).trans (view_nil (encI .u64) 0 1 60 (sizedI _))).trans (vQ [0, 1, 2, 4, 5, 6, 7]), none, 0, rfl, rfl⟩
  ·skip
   have e : Kc.step c now ⟨.pub ep ws S, ret, id_⟩ A = ⟨⟨.pub ep ws (S.step c (ctlAt c 0) ep ws A).1, ret, id_⟩, (S.step c (ctlAt c 0) ep ws A).2, now, ⟨[], 0, false⟩⟩ := by unfold Kc.step; simp only; rw [if_neg hd]
   rw [e]
   refine cP [1, 2, 6, 8, 3, 4] (w_stepPN c x ba rb now ka ma kc mc ps many A i pv sv rv ra rc id_ ret y (ctlAt c 0) ep ws S (.pointer none) (.pointer none) hi hps hc hn (by omega) hz hR (by have := ctl0_ok hc; omega) hS hd) ?_
   rintro v post ⟨rfl, rfl⟩
   exact ⟨_, (((vK (fun _ : KlH => True) (klL c (ps.getD i.toNat 0) ⟨.pub ep ws (S.step c (ctlAt c 0) ep ws A).1, ret, id_⟩) ⟨pv, sv, rv, ra, rc, y⟩ [5, 2, 6] trivial).trans (ks_unfocus (ps := ps) (ks := ks) (c := c) 6 1 i.toNat ⟨.pub ep ws (S.step c (ctlAt c 0) ep ws A).1, ret, id_⟩ (by omega) (by omega))).trans (view_nil (encI .u64) 0 1 60 (sizedI _))).trans (vQ [0, 1, 2, 3, 4, 5, 6]), none, 0, rfl, rfl⟩
 | scan S =>
  have hA : A.Ok c := ArW.ok ⟨hn, hz, hR, hs.1, Int.le_refl _⟩ (by omega)
  have hS := hK2.1.ok hc hz
  have hl := (sc_step hc hK2.1 (k := A.steps) ⟨hn, hz, hR, hs.1, Int.le_refl _⟩).1.len
  have hl : (S.step c A).1.kept.length + (S.step c A).1.left.length ≤ 100 := by omega
  cases hd : Sc.done c (S.step c A).1 with
  | true =>
   have e : Kc.step c now ⟨.scan S, ret, id_⟩ A = ⟨⟨.idle, ((S.step c A).1.kept ++ (S.step c A).1.left), id_⟩, (S.step c A).2, now, ⟨[], 0, true⟩⟩ := by unfold Kc.step; simp only; rw [hd]; rfl
   rw [e]
   refine cP [1, 2, 6, 8, 3, 4] (w_stepSD c x ba rb now ka ma kc mc ps many A i pv sv rv ra rc id_ ret y S (.pointer none) hi hps hc hS hA hl hd) ?_
   rintro v post ⟨ra2_1, rc2_2, rfl, rfl⟩
   exact ⟨_, (((vK (fun _ : KlH => True) (klL c (ps.getD i.toNat 0) ⟨.idle, ((S.step c A).1.kept ++ (S.step c A).1.left), id_⟩) ⟨pv, sv, rv, ra2_1, rc2_2, y⟩ [5, 6] trivial).trans (ks_unfocus (ps := ps) (ks := ks) (c := c) 8 1 i.toNat ⟨.idle, ((S.step c A).1.kept ++ (S.step c A).1.left), id_⟩ (by omega) (by omega))).trans (view_nil (encI .u64) 0 1 60 (sizedI _))).trans (vQ [0, 2, 3, 5, 6, 7, 8]), none, 0, rfl, rfl⟩
  | false =>
   have e : Kc.step c now ⟨.scan S, ret, id_⟩ A = ⟨⟨.scan (S.step c A).1, ((S.step c A).1.kept ++ (S.step c A).1.left), id_⟩, (S.step c A).2, now, ⟨[], 0, false⟩⟩ := by unfold Kc.step; simp only; rw [hd]; rfl
   rw [e]
   refine cP [1, 2, 6, 8, 3, 4] (w_stepSN c x ba rb now ka ma kc mc ps many A i pv sv rv ra rc id_ ret y S (.pointer none) hi hps hc hS hA hl hd) ?_
   rintro v post ⟨ra2_1, rc2_2, rfl, rfl⟩
   exact ⟨_, (((vK (fun _ : KlH => True) (klL c (ps.getD i.toNat 0) ⟨.scan (S.step c A).1, ((S.step c A).1.kept ++ (S.step c A).1.left), id_⟩) ⟨pv, sv, rv, ra2_1, rc2_2, y⟩ [5, 6, 7] trivial).trans (ks_unfocus (ps := ps) (ks := ks) (c := c) 7 1 i.toNat ⟨.scan (S.step c A).1, ((S.step c A).1.kept ++ (S.step c A).1.left), id_⟩ (by omega) (by omega))).trans (view_nil (encI .u64) 0 1 60 (sizedI _))).trans (vQ [0, 2, 3, 4, 5, 6, 7]), none, 0, rfl, rfl⟩
 | read cl ep S =>
  have hS := hK2.1
  have hC := hK2.2.2.1
  by_cases hd : (S.step c cl 0 ep A).1.ph = 0
  ·have hl := (rd_step (ep := ep) hc hS (k := A.steps) ⟨hn, hz, hR, hs.1, Int.le_refl _⟩ htp hC).1.wl
   have e : Kc.step c now ⟨.read cl ep S, ret, id_⟩ A = ⟨⟨.idle, ret, id_⟩, (S.step c cl 0 ep A).2, now, ⟨(Rd.told (S.step c cl 0 ep A).1).1, (Rd.told (S.step c cl 0 ep A).1).2, true⟩⟩ := by unfold Kc.step; simp only; rw [if_pos hd]
   rw [e]
   refine cP [0, 1, 2, 6, 8, 3, 4] (w_stepRD c x ba rb now ka ma kc mc ps many A i pv sv rv ra rc id_ ret y cl 0 ep S o_ hi hps hc hn (by omega) hz hR htp hC hS ho hd hl) ?_
   rintro v post ⟨a2_1, c2_2, rfl, rfl⟩
   exact ⟨_, ((vK (fun _ : KlH => True) (klL c (ps.getD i.toNat 0) ⟨.idle, ret, id_⟩) ⟨pv, sv, rv, ra, rc, y⟩ [5, 1] trivial).trans (ks_unfocus (ps := ps) (ks := ks) (c := c) 8 0 i.toNat ⟨.idle, ret, id_⟩ (by omega) (by omega))).trans (vQ [0, 1, 2, 5, 6, 7, 4]), a2_1, c2_2, rfl, rfl⟩
  ·skip
   have e : Kc.step c now ⟨.read cl ep S, ret, id_⟩ A = ⟨⟨.read cl ep (S.step c cl 0 ep A).1, ret, id_⟩, (S.step c cl 0 ep A).2, now, ⟨[], 0, false⟩⟩ := by unfold Kc.step; simp only; rw [if_neg hd]
   rw [e]
   refine cP [0, 1, 2, 6, 8, 3, 4] (w_stepRN c x ba rb now ka ma kc mc ps many A i pv sv rv ra rc id_ ret y cl 0 ep S o_ hi hps hc hn (by omega) hz hR htp hC hS ho hd) ?_
   rintro v post ⟨rfl, rfl⟩
   exact ⟨_, (((vK (fun _ : KlH => True) (klL c (ps.getD i.toNat 0) ⟨.read cl ep (S.step c cl 0 ep A).1, ret, id_⟩) ⟨pv, sv, rv, ra, rc, y⟩ [5, 1, 6] trivial).trans (ks_unfocus (ps := ps) (ks := ks) (c := c) 6 0 i.toNat ⟨.read cl ep (S.step c cl 0 ep A).1, ret, id_⟩ (by omega) (by omega))).trans (view_nil (encI .u64) 0 1 60 (sizedI _))).trans (vQ [0, 1, 2, 3, 4, 5, 6]), none, 0, rfl, rfl⟩
theorem w_begin (c : Cfg) (x ba rb : Nat) (now : Int) (ka ma : Option Addr) (kc mc : Nat) (ps : List Nat) (many : List Int) (B : Ar) (i n_ : Int) (ks : List Kc) (hi : 0 ≤ i ∧ i < 4) (hps : ps.length = 4) (hc : c.Ok) (hnB : B.ws.length = B.n) (hzB : (B.n : Int) = sizeOfC c) (hwB : U64 (B.ws.getD (ctlAt c 0).toNat 0)) (hml : many.length ≤ 2000) (hcl : c.clients = 4 ∧ c.s0 = 4 ∧ c.s1 = 6) (hks : ks.length = 4) (hG : goodRow c (ks.getD i.toNat dK).ret ∧ (ks.getD i.toNat dK).ret.length ≤ 100) :
  Ctr Tryz.prog 28 #[vP x, vI i, vI n_] [Ed2706 x c (vP ba) (vP rb) ka ps.length kc ma many.length mc now, .sl ka kc encP 0 1 ps 68, Ee1326 ma mc many, E99bbc rb B false 0, E35fb1 B, .res (KsR ps ks c)] (fun v L => ∃ (ma2 : Option Addr) (mc2 : Nat), v = undef ∧ L = [Ed2706 x c (vP ba) (vP rb) ka ps.length kc ma2 (((ks.getD i.toNat dK).beginD c (ctlEpoch (B.ws.getD (ctlAt c 0).toNat 0)) many i n_).2.length) mc2 now, .sl ka kc encP 0 1 ps 68, Ee1326 ma2 mc2 (((ks.getD i.toNat dK).beginD c (ctlEpoch (B.ws.getD (ctlAt c 0).toNat 0)) many i n_).2), E99bbc rb B false 0, E35fb1 B, .res (KsR ps (ks.set i.toNat ((ks.getD i.toNat dK).beginD c (ctlEpoch (B.ws.getD (ctlAt c 0).toNat 0)) many i n_).1) c)]) := by
 refine ctr_view (ks_focus 5 i.toNat (ps := ps) (ks := ks) (c := c) (by omega) (by omega)) ?_
 generalize hk : ks.getD i.toNat dK = k at hG
 refine oC (I := fun _ : KlH => True) (LL := klL c (ps.getD i.toNat 0) k) 5 ?_
 rintro ⟨pv, sv, rv, ra, rc, y⟩ -
 obtain ⟨d, ret, id_⟩ := k
 simp only at hG
 cases d with
 | idle =>
  by_cases hi2 : i ≥ 2
  ·skip
   have e : Kc.beginD c (ctlEpoch (B.ws.getD (ctlAt c 0).toNat 0)) many i n_ ⟨.idle, ret, id_⟩ = (⟨.read i (ctlEpoch (B.ws.getD (ctlAt c 0).toNat 0)) (newRd i), ret, id_⟩, many) := by unfold Kc.beginD; simp only; rw [if_pos hi2]
   rw [e]
   refine cP [0, 1, 6, 3, 4] (w_beginNR c x ba rb now ka ma kc mc ps many B i n_ pv sv rv ra rc id_ ret hi hps hc hnB hzB hwB hi2 (by omega)) ?_
   rintro v post ⟨y_1, k_2, b1_3, b2_4, b3_5, b4_6, b5_7, b6_8, q_9, k2_10, rfl, rfl⟩
   exact ⟨_, (((((view_nil (encI .u64) 0 1 60 (sizedI _)).trans (vC [9, 10, 11, 12, 13, 14, 15])).trans (vK (fun _ : RdH => True) (rdL y_1 c i 0 (ctlEpoch (B.ws.getD (ctlAt c 0).toNat 0)) (newRd i)) ⟨.nilFunc, .nilFunc, none, 0, k_2, b1_3, b2_4, b3_5, b4_6, b5_7, b6_8, 0, 0, 0, 0, 0, 0⟩ [8, 11, 12] trivial)).trans (vK (fun _ : KlH => True) (klL c (ps.getD i.toNat 0) ⟨.read i (ctlEpoch (B.ws.getD (ctlAt c 0).toNat 0)) (newRd i), ret, id_⟩) ⟨pv, sv, vP q_9, ra, rc, y_1⟩ [5, 2, 10] trivial)).trans (ks_unfocus (ps := ps) (ks := ks) (c := c) 8 1 i.toNat ⟨.read i (ctlEpoch (B.ws.getD (ctlAt c 0).toNat 0)) (newRd i), ret, id_⟩ (by omega) (by omega))).trans (vQ [1, 2, 0, 3, 4, 7]), ma, mc, rfl, rfl⟩
  ·have hm7 := msz_rng n_
   have hf : fitK c (((List.replicate (1 + (((n_.tmod 6) + 6).tmod 6)).toNat ((((many ++ [(1 + (((n_.tmod 6) + 6).tmod 6))]).length) : Nat) : Int)).length : Nat) : Int) ≠ -1 := by
    have e : (((List.replicate (1 + (((n_.tmod 6) + 6).tmod 6)).toNat ((((many ++ [(1 + (((n_.tmod 6) + 6).tmod 6))]).length) : Nat) : Int)).length : Nat) : Int) = msz n_ := by rw [List.length_replicate]; show ((msz n_).toNat : Int) = msz n_; omega
    rw [e]; unfold fitK; rw [if_neg (by omega)]; split
    ·omega
    ·rw [if_pos (by omega)]; omega
   by_cases h3 : bAnd .i64 n_ 3 = 0
   ·by_cases hl0 : ((ret.length : Nat) : Int) > 0
    ·have hin := good_in hc hG.1
     have e : Kc.beginD c (ctlEpoch (B.ws.getD (ctlAt c 0).toNat 0)) many i n_ ⟨.idle, ret, id_⟩ = (⟨.scan (newSc ret), ret, id_⟩, many) := by unfold Kc.beginD; simp only; rw [if_neg hi2, if_pos ⟨h3, fun h => by rw [h] at hl0; simp at hl0⟩]
     rw [e]
     refine cP [0, 1, 6, 7, 3, 4] (w_beginNSok c x ba rb now ka ma kc mc ps many B i n_ pv sv rv ra rc id_ ret hi hps hc hnB hzB hwB hi2 h3 hl0 hG.2 hin (newOk_iff.2 hG.1) hG.1) ?_
     rintro v post ⟨y_1, q_2, rfl, rfl⟩
     exact ⟨_, ((vK (fun _ : KlH => True) (klL c (ps.getD i.toNat 0) ⟨.scan (newSc ret), ret, id_⟩) ⟨pv, vP q_2, rv, ra, rc, y_1⟩ [4, 5, 8] trivial).trans (ks_unfocus (ps := ps) (ks := ks) (c := c) 7 1 i.toNat ⟨.scan (newSc ret), ret, id_⟩ (by omega) (by omega))).trans (vQ [1, 2, 0, 3, 4, 6]), ma, mc, rfl, rfl⟩
    ·skip
     have e : Kc.beginD c (ctlEpoch (B.ws.getD (ctlAt c 0).toNat 0)) many i n_ ⟨.idle, ret, id_⟩ = (⟨.pub (ctlEpoch (B.ws.getD (ctlAt c 0).toNat 0)) (List.replicate (1 + (((n_.tmod 6) + 6).tmod 6)).toNat ((((many ++ [(1 + (((n_.tmod 6) + 6).tmod 6))]).length) : Nat) : Int)) (newPb (fitK c (((List.replicate (1 + (((n_.tmod 6) + 6).tmod 6)).toNat ((((many ++ [(1 + (((n_.tmod 6) + 6).tmod 6))]).length) : Nat) : Int)).length : Nat) : Int))), ret, ((((many ++ [(1 + (((n_.tmod 6) + 6).tmod 6))]).length) : Nat) : Int)⟩, many ++ [(1 + (((n_.tmod 6) + 6).tmod 6))]) := by unfold Kc.beginD; simp only; rw [if_neg hi2, if_neg (fun h => h.2 (List.eq_nil_of_length_eq_zero (by omega)))]; rfl
     rw [e]
     refine cP [0, 1, 2, 6, 3, 4] (w_beginNPe c x ba rb now ka ma kc mc ps many B i n_ pv sv rv ra rc id_ ret hi hps hc hnB hzB hwB hi2 h3 hl0 hml hf) ?_
     rintro v post ⟨ma2_1, mc2_2, la_3, lc_4, y_5, k_6, bp_7, bt_8, wa_9, wc_10, q_11, k2_12, rfl, rfl⟩
     exact ⟨_, ((((vC [9, 10, 11]).trans (vK (fun _ : PbH => True) (pbL y_5 c (ctlAt c 0) (ctlEpoch (B.ws.getD (ctlAt c 0).toNat 0)) (List.replicate (1 + (((n_.tmod 6) + 6).tmod 6)).toNat ((((many ++ [(1 + (((n_.tmod 6) + 6).tmod 6))]).length) : Nat) : Int)) (newPb (fitK c (((List.replicate (1 + (((n_.tmod 6) + 6).tmod 6)).toNat ((((many ++ [(1 + (((n_.tmod 6) + 6).tmod 6))]).length) : Nat) : Int)).length : Nat) : Int)))) ⟨.nilFunc, .nilFunc, wa_9, wc_10, k_6, bp_7, bt_8, 0, 0, 0, 0, 0, 0, 0⟩ [8, 9, 13] trivial)).trans (vK (fun _ : KlH => True) (klL c (ps.getD i.toNat 0) ⟨.pub (ctlEpoch (B.ws.getD (ctlAt c 0).toNat 0)) (List.replicate (1 + (((n_.tmod 6) + 6).tmod 6)).toNat ((((many ++ [(1 + (((n_.tmod 6) + 6).tmod 6))]).length) : Nat) : Int)) (newPb (fitK c (((List.replicate (1 + (((n_.tmod 6) + 6).tmod 6)).toNat ((((many ++ [(1 + (((n_.tmod 6) + 6).tmod 6))]).length) : Nat) : Int)).length : Nat) : Int))), ret, ((((many ++ [(1 + (((n_.tmod 6) + 6).tmod 6))]).length) : Nat) : Int)⟩) ⟨vP q_11, sv, rv, ra, rc, y_5⟩ [5, 1, 11] trivial)).trans (ks_unfocus (ps := ps) (ks := ks) (c := c) 9 0 i.toNat ⟨.pub (ctlEpoch (B.ws.getD (ctlAt c 0).toNat 0)) (List.replicate (1 + (((n_.tmod 6) + 6).tmod 6)).toNat ((((many ++ [(1 + (((n_.tmod 6) + 6).tmod 6))]).length) : Nat) : Int)) (newPb (fitK c (((List.replicate (1 + (((n_.tmod 6) + 6).tmod 6)).toNat ((((many ++ [(1 + (((n_.tmod 6) + 6).tmod 6))]).length) : Nat) : Int)).length : Nat) : Int))), ret, ((((many ++ [(1 + (((n_.tmod 6) + 6).tmod 6))]).length) : Nat) : Int)⟩ (by omega) (by omega))).trans (vQ [0, 1, 2, 3, 4, 8]), ma2_1, mc2_2, rfl, rfl⟩
   ·skip
    have e : Kc.beginD c (ctlEpoch (B.ws.getD (ctlAt c 0).toNat 0)) many i n_ ⟨.idle, ret, id_⟩ = (⟨.pub (ctlEpoch (B.ws.getD (ctlAt c 0).toNat 0)) (List.replicate (1 + (((n_.tmod 6) + 6).tmod 6)).toNat ((((many ++ [(1 + (((n_.tmod 6) + 6).tmod 6))]).length) : Nat) : Int)) (newPb (fitK c (((List.replicate (1 + (((n_.tmod 6) + 6).tmod 6)).toNat ((((many ++ [(1 + (((n_.tmod 6) + 6).tmod 6))]).length) : Nat) : Int)).length : Nat) : Int))), ret, ((((many ++ [(1 + (((n_.tmod 6) + 6).tmod 6))]).length) : Nat) : Int)⟩, many ++ [(1 + (((n_.tmod 6) + 6).tmod 6))]) := by unfold Kc.beginD; simp only; rw [if_neg hi2, if_neg (fun h => h3 h.1)]; rfl
    rw [e]
    refine cP [0, 1, 2, 6, 3, 4] (w_beginNPx c x ba rb now ka ma kc mc ps many B i n_ pv sv rv ra rc id_ ret hi hps hc hnB hzB hwB hi2 h3 hml hf) ?_
    rintro v post ⟨ma2_1, mc2_2, la_3, lc_4, y_5, k_6, bp_7, bt_8, wa_9, wc_10, q_11, k2_12, rfl, rfl⟩
    exact ⟨_, ((((vC [9, 10, 11]).trans (vK (fun _ : PbH => True) (pbL y_5 c (ctlAt c 0) (ctlEpoch (B.ws.getD (ctlAt c 0).toNat 0)) (List.replicate (1 + (((n_.tmod 6) + 6).tmod 6)).toNat ((((many ++ [(1 + (((n_.tmod 6) + 6).tmod 6))]).length) : Nat) : Int)) (newPb (fitK c (((List.replicate (1 + (((n_.tmod 6) + 6).tmod 6)).toNat ((((many ++ [(1 + (((n_.tmod 6) + 6).tmod 6))]).length) : Nat) : Int)).length : Nat) : Int)))) ⟨.nilFunc, .nilFunc, wa_9, wc_10, k_6, bp_7, bt_8, 0, 0, 0, 0, 0, 0, 0⟩ [8, 9, 13] trivial)).trans (vK (fun _ : KlH => True) (klL c (ps.getD i.toNat 0) ⟨.pub (ctlEpoch (B.ws.getD (ctlAt c 0).toNat 0)) (List.replicate (1 + (((n_.tmod 6) + 6).tmod 6)).toNat ((((many ++ [(1 + (((n_.tmod 6) + 6).tmod 6))]).length) : Nat) : Int)) (newPb (fitK c (((List.replicate (1 + (((n_.tmod 6) + 6).tmod 6)).toNat ((((many ++ [(1 + (((n_.tmod 6) + 6).tmod 6))]).length) : Nat) : Int)).length : Nat) : Int))), ret, ((((many ++ [(1 + (((n_.tmod 6) + 6).tmod 6))]).length) : Nat) : Int)⟩) ⟨vP q_11, sv, rv, ra, rc, y_5⟩ [5, 1, 11] trivial)).trans (ks_unfocus (ps := ps) (ks := ks) (c := c) 9 0 i.toNat ⟨.pub (ctlEpoch (B.ws.getD (ctlAt c 0).toNat 0)) (List.replicate (1 + (((n_.tmod 6) + 6).tmod 6)).toNat ((((many ++ [(1 + (((n_.tmod 6) + 6).tmod 6))]).length) : Nat) : Int)) (newPb (fitK c (((List.replicate (1 + (((n_.tmod 6) + 6).tmod 6)).toNat ((((many ++ [(1 + (((n_.tmod 6) + 6).tmod 6))]).length) : Nat) : Int)).length : Nat) : Int))), ret, ((((many ++ [(1 + (((n_.tmod 6) + 6).tmod 6))]).length) : Nat) : Int)⟩ (by omega) (by omega))).trans (vQ [0, 1, 2, 3, 4, 8]), ma2_1, mc2_2, rfl, rfl⟩
 | pub ep ws S =>
  have e : Kc.beginD c (ctlEpoch (B.ws.getD (ctlAt c 0).toNat 0)) many i n_ ⟨.pub ep ws S, ret, id_⟩ = (⟨.pub ep ws S, ret, id_⟩, many) := by rfl
  rw [e]
  refine cP [0, 1, 6] (w_beginP c x ba rb now ka ma kc mc ps many B i n_ pv sv rv ra rc id_ ret y (.pointer none) (.pointer none) hi hps) ?_
  rintro v post ⟨rfl, rfl⟩
  exact ⟨_, ((vK (fun _ : KlH => True) (klL c (ps.getD i.toNat 0) ⟨.pub ep ws S, ret, id_⟩) ⟨pv, sv, rv, ra, rc, y⟩ [8, 4, 5] trivial).trans (ks_unfocus (ps := ps) (ks := ks) (c := c) 6 3 i.toNat ⟨.pub ep ws S, ret, id_⟩ (by omega) (by omega))).trans (vQ [3, 4, 0, 1, 2, 5]), ma, mc, rfl, rfl⟩
 | scan S =>
  have e : Kc.beginD c (ctlEpoch (B.ws.getD (ctlAt c 0).toNat 0)) many i n_ ⟨.scan S, ret, id_⟩ = (⟨.scan S, ret, id_⟩, many) := by rfl
  rw [e]
  refine cP [0, 1, 6] (w_beginS c x ba rb now ka ma kc mc ps many B i n_ pv sv rv ra rc id_ ret y (.pointer none) hi hps) ?_
  rintro v post ⟨rfl, rfl⟩
  exact ⟨_, ((vK (fun _ : KlH => True) (klL c (ps.getD i.toNat 0) ⟨.scan S, ret, id_⟩) ⟨pv, sv, rv, ra, rc, y⟩ [8, 4, 5] trivial).trans (ks_unfocus (ps := ps) (ks := ks) (c := c) 6 3 i.toNat ⟨.scan S, ret, id_⟩ (by omega) (by omega))).trans (vQ [3, 4, 0, 1, 2, 5]), ma, mc, rfl, rfl⟩
 | read cl ep S =>
  have e : Kc.beginD c (ctlEpoch (B.ws.getD (ctlAt c 0).toNat 0)) many i n_ ⟨.read cl ep S, ret, id_⟩ = (⟨.read cl ep S, ret, id_⟩, many) := by rfl
  rw [e]
  refine cP [0, 1, 6] (w_beginR c x ba rb now ka ma kc mc ps many B i n_ pv sv rv ra rc id_ ret y hi hps) ?_
  rintro v post ⟨rfl, rfl⟩
  exact ⟨_, ((vK (fun _ : KlH => True) (klL c (ps.getD i.toNat 0) ⟨.read cl ep S, ret, id_⟩) ⟨pv, sv, rv, ra, rc, y⟩ [8, 4, 5] trivial).trans (ks_unfocus (ps := ps) (ks := ks) (c := c) 6 3 i.toNat ⟨.read cl ep S, ret, id_⟩ (by omega) (by omega))).trans (vQ [3, 4, 0, 1, 2, 5]), ma, mc, rfl, rfl⟩
theorem w_who (c : Cfg) (x ba rb : Nat) (now : Int) (ka ma : Option Addr) (kc mc : Nat) (ps : List Nat) (many : List Int) (A B : Ar) (wh n_ : Int) (ks : List Kc) (hc : c.Ok) (hnB : B.ws.length = B.n) (hzB : (B.n : Int) = sizeOfC c) (hnA : A.ws.length = A.n) (hzA : (A.n : Int) = sizeOfC c) (hsA : 0 ≤ A.steps ∧ A.steps ≤ 900000) (hsB : 0 ≤ B.steps ∧ B.steps ≤ 900000) (hwB : U64 (B.ws.getD (ctlAt c 0).toNat 0)) (hps : ps.length = 4) (hks : ks.length = 4) (hl : (ks.getD 0 dK).ret.length ≤ 1000) :
  Ctr Tryz.prog 27 #[vP x, .agg #[vI wh, vI n_]] [Ed2706 x c (vP ba) (vP rb) ka ps.length kc ma many.length mc now, .sl ka kc encP 0 1 ps 68, E3504b ba A, E35fb1 A, E99bbc rb B false 0, E35fb1 B, .res (KsR ps ks c)] (Ret (vI (((ks.getD 0 dK).whoD (B.ws.getD (ctlAt c 0).toNat 0) wh n_).1)) [Ed2706 x c (vP ba) (vP rb) ka ps.length kc ma many.length mc (bif ((ks.getD 0 dK).whoD (B.ws.getD (ctlAt c 0).toNat 0) wh n_).2.1 then 0 else now), .sl ka kc encP 0 1 ps 68, E3504b ba (bif ((ks.getD 0 dK).whoD (B.ws.getD (ctlAt c 0).toNat 0) wh n_).2.1 then (anewW c (B.ws.getD (ctlAt c 0).toNat 0) A) else A), E35fb1 (bif ((ks.getD 0 dK).whoD (B.ws.getD (ctlAt c 0).toNat 0) wh n_).2.1 then (anewW c (B.ws.getD (ctlAt c 0).toNat 0) A) else A), E99bbc rb (bif ((ks.getD 0 dK).whoD (B.ws.getD (ctlAt c 0).toNat 0) wh n_).2.1 then (anewW c (B.ws.getD (ctlAt c 0).toNat 0) B) else B) false 0, E35fb1 (bif ((ks.getD 0 dK).whoD (B.ws.getD (ctlAt c 0).toNat 0) wh n_).2.1 then (anewW c (B.ws.getD (ctlAt c 0).toNat 0) B) else B), .res (KsR ps (ks.set 0 ((ks.getD 0 dK).whoD (B.ws.getD (ctlAt c 0).toNat 0) wh n_).2.2) c)]) := by
 refine ctr_view (ks_focus 6 0 (ps := ps) (ks := ks) (c := c) (by omega) (by omega)) ?_
 generalize hk : ks.getD 0 dK = k at hl
 refine oC (I := fun _ : KlH => True) (LL := klL c (ps.getD 0 0) k) 6 ?_
 rintro ⟨pv, sv, rv, ra, rc, y⟩ -
 obtain ⟨d, ret, id_⟩ := k
 simp only at hl
 cases d with
 | idle =>
  by_cases h4 : bAnd .i64 wh 4 = 0
  ·skip
   have e : Kc.whoD (B.ws.getD (ctlAt c 0).toNat 0) ⟨.idle, ret, id_⟩ wh n_ = (bAnd .i64 wh 3, false, ⟨.idle, ret, id_⟩) := by unfold Kc.whoD; simp only; rw [if_pos (.inl h4)]
   rw [e]
   refine cP [0] (w_whoa c x ba rb now (.slice ka ps.length kc) (.slice ma many.length mc) wh n_ h4) ?_
   rintro v post ⟨rfl, rfl⟩
   exact ⟨_, ((vK (fun _ : KlH => True) (klL c (ps.getD 0 0) ⟨.idle, ret, id_⟩) ⟨pv, sv, rv, ra, rc, y⟩ [6, 7] trivial).trans (ks_unfocus (ps := ps) (ks := ks) (c := c) 7 5 0 ⟨.idle, ret, id_⟩ (by omega) (by omega))).trans (vQ [5, 0, 1, 2, 3, 4, 6]), rfl, rfl⟩
  ·by_cases h15 : bAnd .i64 n_ 15 = 0
   ·by_cases hbp : ctlBlock (B.ws.getD (ctlAt c 0).toNat 0) > 0
    ·skip
     have e : Kc.whoD (B.ws.getD (ctlAt c 0).toNat 0) ⟨.idle, ret, id_⟩ wh n_ = (-1, true, ⟨.idle, ret ++ [ctlBlock (B.ws.getD (ctlAt c 0).toNat 0)], id_⟩) := by unfold Kc.whoD; simp only; rw [if_neg (fun h => h.elim h4 (fun h => h h15)), if_pos hbp]; rfl
     rw [e]
     refine cP [0, 1, 7, 8, 2, 3, 4, 5] (w_whoR c x ba rb now ka ma kc mc ps many A B wh n_ (.pointer none) (.pointer none) pv sv rv ra rc id_ ret hc hnB hzB hnA hzA hsA hsB hwB hps hl h4 h15 hbp) ?_
     rintro v post ⟨ra2_1, rc2_2, rfl, rfl⟩
     exact ⟨_, ((vK (fun _ : KlH => True) (klL c (ps.getD 0 0) ⟨.idle, ret ++ [ctlBlock (B.ws.getD (ctlAt c 0).toNat 0)], id_⟩) ⟨pv, sv, rv, ra2_1, rc2_2, y⟩ [3, 4] trivial).trans (ks_unfocus (ps := ps) (ks := ks) (c := c) 7 0 0 ⟨.idle, ret ++ [ctlBlock (B.ws.getD (ctlAt c 0).toNat 0)], id_⟩ (by omega) (by omega))).trans (vQ [0, 1, 2, 3, 4, 5, 6]), rfl, rfl⟩
    ·skip
     have e : Kc.whoD (B.ws.getD (ctlAt c 0).toNat 0) ⟨.idle, ret, id_⟩ wh n_ = (-1, true, ⟨.idle, ret, id_⟩) := by unfold Kc.whoD; simp only; rw [if_neg (fun h => h.elim h4 (fun h => h h15)), if_neg hbp]
     rw [e]
     refine cP [0, 2, 3, 4, 5] (w_whoN c x ba rb now ka ma kc mc ps many A B wh n_ hc hnB hzB hnA hzA hsA hsB hwB h4 h15 hbp) ?_
     rintro v post ⟨rfl, rfl⟩
     exact ⟨_, ((vK (fun _ : KlH => True) (klL c (ps.getD 0 0) ⟨.idle, ret, id_⟩) ⟨pv, sv, rv, ra, rc, y⟩ [2, 3] trivial).trans (ks_unfocus (ps := ps) (ks := ks) (c := c) 7 1 0 ⟨.idle, ret, id_⟩ (by omega) (by omega))).trans (vQ [1, 0, 2, 3, 4, 5, 6]), rfl, rfl⟩
   ·skip
    have e : Kc.whoD (B.ws.getD (ctlAt c 0).toNat 0) ⟨.idle, ret, id_⟩ wh n_ = (bAnd .i64 wh 3, false, ⟨.idle, ret, id_⟩) := by unfold Kc.whoD; simp only; rw [if_pos (.inr h15)]
    rw [e]
    refine cP [0] (w_whob c x ba rb now (.slice ka ps.length kc) (.slice ma many.length mc) wh n_ h4 h15) ?_
    rintro v post ⟨rfl, rfl⟩
    exact ⟨_, ((vK (fun _ : KlH => True) (klL c (ps.getD 0 0) ⟨.idle, ret, id_⟩) ⟨pv, sv, rv, ra, rc, y⟩ [6, 7] trivial).trans (ks_unfocus (ps := ps) (ks := ks) (c := c) 7 5 0 ⟨.idle, ret, id_⟩ (by omega) (by omega))).trans (vQ [5, 0, 1, 2, 3, 4, 6]), rfl, rfl⟩
 | pub ep ws S =>
  by_cases h4 : bAnd .i64 wh 4 = 0
  ·skip
   have e : Kc.whoD (B.ws.getD (ctlAt c 0).toNat 0) ⟨.pub ep ws S, ret, id_⟩ wh n_ = (bAnd .i64 wh 3, false, ⟨.pub ep ws S, ret, id_⟩) := by unfold Kc.whoD; simp only; rw [if_pos (.inl h4)]
   rw [e]
   refine cP [0] (w_whoa c x ba rb now (.slice ka ps.length kc) (.slice ma many.length mc) wh n_ h4) ?_
   rintro v post ⟨rfl, rfl⟩
   exact ⟨_, ((vK (fun _ : KlH => True) (klL c (ps.getD 0 0) ⟨.pub ep ws S, ret, id_⟩) ⟨pv, sv, rv, ra, rc, y⟩ [6, 7, 8] trivial).trans (ks_unfocus (ps := ps) (ks := ks) (c := c) 7 5 0 ⟨.pub ep ws S, ret, id_⟩ (by omega) (by omega))).trans (vQ [5, 0, 1, 2, 3, 4, 6]), rfl, rfl⟩
  ·by_cases h15 : bAnd .i64 n_ 15 = 0
   ·by_cases hbp : ctlBlock (B.ws.getD (ctlAt c 0).toNat 0) > 0
    ·skip
     have e : Kc.whoD (B.ws.getD (ctlAt c 0).toNat 0) ⟨.pub ep ws S, ret, id_⟩ wh n_ = (-1, true, ⟨.pub ep ws S, ret ++ [ctlBlock (B.ws.getD (ctlAt c 0).toNat 0)], id_⟩) := by unfold Kc.whoD; simp only; rw [if_neg (fun h => h.elim h4 (fun h => h h15)), if_pos hbp]; rfl
     rw [e]
     refine cP [0, 1, 7, 8, 2, 3, 4, 5] (w_whoR c x ba rb now ka ma kc mc ps many A B wh n_ (vP y) (.pointer none) pv sv rv ra rc id_ ret hc hnB hzB hnA hzA hsA hsB hwB hps hl h4 h15 hbp) ?_
     rintro v post ⟨ra2_1, rc2_2, rfl, rfl⟩
     exact ⟨_, ((vK (fun _ : KlH => True) (klL c (ps.getD 0 0) ⟨.pub ep ws S, ret ++ [ctlBlock (B.ws.getD (ctlAt c 0).toNat 0)], id_⟩) ⟨pv, sv, rv, ra2_1, rc2_2, y⟩ [4, 5, 1] trivial).trans (ks_unfocus (ps := ps) (ks := ks) (c := c) 7 0 0 ⟨.pub ep ws S, ret ++ [ctlBlock (B.ws.getD (ctlAt c 0).toNat 0)], id_⟩ (by omega) (by omega))).trans (vQ [0, 1, 2, 3, 4, 5, 6]), rfl, rfl⟩
    ·skip
     have e : Kc.whoD (B.ws.getD (ctlAt c 0).toNat 0) ⟨.pub ep ws S, ret, id_⟩ wh n_ = (-1, true, ⟨.pub ep ws S, ret, id_⟩) := by unfold Kc.whoD; simp only; rw [if_neg (fun h => h.elim h4 (fun h => h h15)), if_neg hbp]
     rw [e]
     refine cP [0, 2, 3, 4, 5] (w_whoN c x ba rb now ka ma kc mc ps many A B wh n_ hc hnB hzB hnA hzA hsA hsB hwB h4 h15 hbp) ?_
     rintro v post ⟨rfl, rfl⟩
     exact ⟨_, ((vK (fun _ : KlH => True) (klL c (ps.getD 0 0) ⟨.pub ep ws S, ret, id_⟩) ⟨pv, sv, rv, ra, rc, y⟩ [2, 3, 4] trivial).trans (ks_unfocus (ps := ps) (ks := ks) (c := c) 7 1 0 ⟨.pub ep ws S, ret, id_⟩ (by omega) (by omega))).trans (vQ [1, 0, 2, 3, 4, 5, 6]), rfl, rfl⟩
   ·skip
    have e : Kc.whoD (B.ws.getD (ctlAt c 0).toNat 0) ⟨.pub ep ws S, ret, id_⟩ wh n_ = (bAnd .i64 wh 3, false, ⟨.pub ep ws S, ret, id_⟩) := by unfold Kc.whoD; simp only; rw [if_pos (.inr h15)]
    rw [e]
    refine cP [0] (w_whob c x ba rb now (.slice ka ps.length kc) (.slice ma many.length mc) wh n_ h4 h15) ?_
    rintro v post ⟨rfl, rfl⟩
    exact ⟨_, ((vK (fun _ : KlH => True) (klL c (ps.getD 0 0) ⟨.pub ep ws S, ret, id_⟩) ⟨pv, sv, rv, ra, rc, y⟩ [6, 7, 8] trivial).trans (ks_unfocus (ps := ps) (ks := ks) (c := c) 7 5 0 ⟨.pub ep ws S, ret, id_⟩ (by omega) (by omega))).trans (vQ [5, 0, 1, 2, 3, 4, 6]), rfl, rfl⟩
 | scan S =>
  by_cases h4 : bAnd .i64 wh 4 = 0
  ·skip
   have e : Kc.whoD (B.ws.getD (ctlAt c 0).toNat 0) ⟨.scan S, ret, id_⟩ wh n_ = (bAnd .i64 wh 3, false, ⟨.scan S, ret, id_⟩) := by unfold Kc.whoD; simp only; rw [if_pos (.inl h4)]
   rw [e]
   refine cP [0] (w_whoa c x ba rb now (.slice ka ps.length kc) (.slice ma many.length mc) wh n_ h4) ?_
   rintro v post ⟨rfl, rfl⟩
   exact ⟨_, ((vK (fun _ : KlH => True) (klL c (ps.getD 0 0) ⟨.scan S, ret, id_⟩) ⟨pv, sv, rv, ra, rc, y⟩ [6, 7, 8] trivial).trans (ks_unfocus (ps := ps) (ks := ks) (c := c) 7 5 0 ⟨.scan S, ret, id_⟩ (by omega) (by omega))).trans (vQ [5, 0, 1, 2, 3, 4, 6]), rfl, rfl⟩
  ·by_cases h15 : bAnd .i64 n_ 15 = 0
   ·by_cases hbp : ctlBlock (B.ws.getD (ctlAt c 0).toNat 0) > 0
    ·skip
     have e : Kc.whoD (B.ws.getD (ctlAt c 0).toNat 0) ⟨.scan S, ret, id_⟩ wh n_ = (bAnd .i64 wh 3, false, ⟨.scan S, ret, id_⟩) := by unfold Kc.whoD; simp only; rw [if_neg (fun h => h.elim h4 (fun h => h h15)), if_pos hbp]; rfl
     rw [e]
     refine cP [0, 1, 7, 4, 5] (w_whoS c x ba rb now ka ma kc mc ps many wh n_ B y (.pointer none) (.pointer none) pv sv rv ra rc id_ ret hc hnB hzB hps hwB h4 h15 hbp) ?_
     rintro v post ⟨rfl, rfl⟩
     exact ⟨_, ((vK (fun _ : KlH => True) (klL c (ps.getD 0 0) ⟨.scan S, ret, id_⟩) ⟨pv, sv, rv, ra, rc, y⟩ [7, 3, 4] trivial).trans (ks_unfocus (ps := ps) (ks := ks) (c := c) 7 2 0 ⟨.scan S, ret, id_⟩ (by omega) (by omega))).trans (vQ [2, 3, 0, 1, 4, 5, 6]), rfl, rfl⟩
    ·skip
     have e : Kc.whoD (B.ws.getD (ctlAt c 0).toNat 0) ⟨.scan S, ret, id_⟩ wh n_ = (-1, true, ⟨.scan S, ret, id_⟩) := by unfold Kc.whoD; simp only; rw [if_neg (fun h => h.elim h4 (fun h => h h15)), if_neg hbp]
     rw [e]
     refine cP [0, 2, 3, 4, 5] (w_whoN c x ba rb now ka ma kc mc ps many A B wh n_ hc hnB hzB hnA hzA hsA hsB hwB h4 h15 hbp) ?_
     rintro v post ⟨rfl, rfl⟩
     exact ⟨_, ((vK (fun _ : KlH => True) (klL c (ps.getD 0 0) ⟨.scan S, ret, id_⟩) ⟨pv, sv, rv, ra, rc, y⟩ [2, 3, 4] trivial).trans (ks_unfocus (ps := ps) (ks := ks) (c := c) 7 1 0 ⟨.scan S, ret, id_⟩ (by omega) (by omega))).trans (vQ [1, 0, 2, 3, 4, 5, 6]), rfl, rfl⟩
   ·skip
    have e : Kc.whoD (B.ws.getD (ctlAt c 0).toNat 0) ⟨.scan S, ret, id_⟩ wh n_ = (bAnd .i64 wh 3, false, ⟨.scan S, ret, id_⟩) := by unfold Kc.whoD; simp only; rw [if_pos (.inr h15)]
    rw [e]
    refine cP [0] (w_whob c x ba rb now (.slice ka ps.length kc) (.slice ma many.length mc) wh n_ h4 h15) ?_
    rintro v post ⟨rfl, rfl⟩
    exact ⟨_, ((vK (fun _ : KlH => True) (klL c (ps.getD 0 0) ⟨.scan S, ret, id_⟩) ⟨pv, sv, rv, ra, rc, y⟩ [6, 7, 8] trivial).trans (ks_unfocus (ps := ps) (ks := ks) (c := c) 7 5 0 ⟨.scan S, ret, id_⟩ (by omega) (by omega))).trans (vQ [5, 0, 1, 2, 3, 4, 6]), rfl, rfl⟩
 | read cl ep S =>
  by_cases h4 : bAnd .i64 wh 4 = 0
  ·skip
   have e : Kc.whoD (B.ws.getD (ctlAt c 0).toNat 0) ⟨.read cl ep S, ret, id_⟩ wh n_ = (bAnd .i64 wh 3, false, ⟨.read cl ep S, ret, id_⟩) := by unfold Kc.whoD; simp only; rw [if_pos (.inl h4)]
   rw [e]
   refine cP [0] (w_whoa c x ba rb now (.slice ka ps.length kc) (.slice ma many.length mc) wh n_ h4) ?_
   rintro v post ⟨rfl, rfl⟩
   exact ⟨_, ((vK (fun _ : KlH => True) (klL c (ps.getD 0 0) ⟨.read cl ep S, ret, id_⟩) ⟨pv, sv, rv, ra, rc, y⟩ [6, 7, 8] trivial).trans (ks_unfocus (ps := ps) (ks := ks) (c := c) 7 5 0 ⟨.read cl ep S, ret, id_⟩ (by omega) (by omega))).trans (vQ [5, 0, 1, 2, 3, 4, 6]), rfl, rfl⟩
  ·by_cases h15 : bAnd .i64 n_ 15 = 0
   ·by_cases hbp : ctlBlock (B.ws.getD (ctlAt c 0).toNat 0) > 0
    ·skip
     have e : Kc.whoD (B.ws.getD (ctlAt c 0).toNat 0) ⟨.read cl ep S, ret, id_⟩ wh n_ = (-1, true, ⟨.read cl ep S, ret ++ [ctlBlock (B.ws.getD (ctlAt c 0).toNat 0)], id_⟩) := by unfold Kc.whoD; simp only; rw [if_neg (fun h => h.elim h4 (fun h => h h15)), if_pos hbp]; rfl
     rw [e]
     refine cP [0, 1, 7, 8, 2, 3, 4, 5] (w_whoR c x ba rb now ka ma kc mc ps many A B wh n_ (.pointer none) (vP y) pv sv rv ra rc id_ ret hc hnB hzB hnA hzA hsA hsB hwB hps hl h4 h15 hbp) ?_
     rintro v post ⟨ra2_1, rc2_2, rfl, rfl⟩
     exact ⟨_, ((vK (fun _ : KlH => True) (klL c (ps.getD 0 0) ⟨.read cl ep S, ret ++ [ctlBlock (B.ws.getD (ctlAt c 0).toNat 0)], id_⟩) ⟨pv, sv, rv, ra2_1, rc2_2, y⟩ [4, 5, 1] trivial).trans (ks_unfocus (ps := ps) (ks := ks) (c := c) 7 0 0 ⟨.read cl ep S, ret ++ [ctlBlock (B.ws.getD (ctlAt c 0).toNat 0)], id_⟩ (by omega) (by omega))).trans (vQ [0, 1, 2, 3, 4, 5, 6]), rfl, rfl⟩
    ·skip
     have e : Kc.whoD (B.ws.getD (ctlAt c 0).toNat 0) ⟨.read cl ep S, ret, id_⟩ wh n_ = (-1, true, ⟨.read cl ep S, ret, id_⟩) := by unfold Kc.whoD; simp only; rw [if_neg (fun h => h.elim h4 (fun h => h h15)), if_neg hbp]
     rw [e]
     refine cP [0, 2, 3, 4, 5] (w_whoN c x ba rb now ka ma kc mc ps many A B wh n_ hc hnB hzB hnA hzA hsA hsB hwB h4 h15 hbp) ?_
     rintro v post ⟨rfl, rfl⟩
     exact ⟨_, ((vK (fun _ : KlH => True) (klL c (ps.getD 0 0) ⟨.read cl ep S, ret, id_⟩) ⟨pv, sv, rv, ra, rc, y⟩ [2, 3, 4] trivial).trans (ks_unfocus (ps := ps) (ks := ks) (c := c) 7 1 0 ⟨.read cl ep S, ret, id_⟩ (by omega) (by omega))).trans (vQ [1, 0, 2, 3, 4, 5, 6]), rfl, rfl⟩
   ·skip
    have e : Kc.whoD (B.ws.getD (ctlAt c 0).toNat 0) ⟨.read cl ep S, ret, id_⟩ wh n_ = (bAnd .i64 wh 3, false, ⟨.read cl ep S, ret, id_⟩) := by unfold Kc.whoD; simp only; rw [if_pos (.inr h15)]
    rw [e]
    refine cP [0] (w_whob c x ba rb now (.slice ka ps.length kc) (.slice ma many.length mc) wh n_ h4 h15) ?_
    rintro v post ⟨rfl, rfl⟩
    exact ⟨_, ((vK (fun _ : KlH => True) (klL c (ps.getD 0 0) ⟨.read cl ep S, ret, id_⟩) ⟨pv, sv, rv, ra, rc, y⟩ [6, 7, 8] trivial).trans (ks_unfocus (ps := ps) (ks := ks) (c := c) 7 5 0 ⟨.read cl ep S, ret, id_⟩ (by omega) (by omega))).trans (vQ [5, 0, 1, 2, 3, 4, 6]), rfl, rfl⟩
end Go.Proofs.YtpcaijopodhdgaaGreatDoor
namespace Go.Proofs.YtpcaijopodhdgaaGreatDoor
open Go.Sx
abbrev E0b46c (x0 : Nat) (x1 : Int) : Ent := .pts x0 [.pointer none, .pointer none, .pointer none, .pointer none, .pointer none, .pointer none, .slice none 0 0, .int .u64 x1] 74
abbrev E9e911 (x0 : Nat) (x1 : Value) (x2 : Value) (x3 : Value) (x4 : Value) : Ent := .pts x0 [x1, x2, x3, x4] 68
abbrev E6e29b (x0 : Nat) (c1 : Cfg) (x2 : Value) (x3 : Value) (x4 : Value) (x5 : Int) : Ent := .pts x0 [.int .i64 c1.topics, .int .i64 c1.small, .int .i64 c1.slots, .int .i64 c1.clients, .int .i64 c1.s0, .int .i64 c1.n0, .int .i64 c1.s1, .int .i64 c1.n1, .int .i64 c1.retry, x2, x3, x4, .slice none 0 0, .int .u64 x5] 62
abbrev zK : Value := .agg #[.pointer none, .pointer none, .pointer none, .pointer none, .pointer none, .pointer none, .slice none 0 0, vU 0]
theorem law17_configC (c : Cfg) (q0 q1 q2 : Int) (hq : c = cfgL q0 q1 q2) :
  Ctr Tryz.prog 9 #[.agg #[vI q0, vI q1, vI q2]] [] (Ret (cfgV c) []) := by
 subst hq
 exact law17_config q0 q1 q2
noncomputable def B26 : Code := (Tryz.f26.body).getD .skip
abbrev Ylaw17_begun (c : Cfg) : Value → List Ent → Prop := (fun v L => ∃ (x : Nat) (ba : Nat) (rb : Nat) (ka : Option Addr) (kc : Nat) (ps : List Nat) (aw : Option Addr) (cw : Nat) (aw2 : Option Addr) (cw2 : Nat), v = vP x ∧ L = [Ed2706 x c (vP ba) (vP rb) ka ps.length kc none 0 0 0, .sl ka kc encP 0 1 ps 68, Ee1326 none 0 ([] : List Int), E3504b ba ((mkAr c aw cw).store (ctlAt c 0) (bornW 0)), E35fb1 ((mkAr c aw cw).store (ctlAt c 0) (bornW 0)), E99bbc rb ((rmAr c (rpackW c) aw2 cw2).store (ctlAt c 0) (bornW 0)) false 0, E35fb1 ((rmAr c (rpackW c) aw2 cw2).store (ctlAt c 0) (bornW 0)), .res (KsR ps four c)] ∧ (ps.length = 4))
set_option maxHeartbeats 4000000 in
theorem law17_begun (c : Cfg) (q0 q1 q2 : Int) (hq : c = cfgL q0 q1 q2) :
  Ctr Tryz.prog 26 #[.agg #[vI q0, vI q1, vI q2]] [] (Ylaw17_begun c) := by
 refine cB B26 35 Tryz.func26 ?_
 intro F
 have hc : c.Ok := hq ▸ cfgL_ok q0 q1 q2
 refine gX [.e 0, .z [0, 1] 1 [7]] (gN fun b_1 => gQ b_1 (gS [.o [0, 1] 1, .c [1, 1]] ?_))
 refine gC (some 8) [] Tryz.call9 (law17_configC c q0 q1 q2 hq) ?_
 refine gX [.e 1, .e 1, .z [0, 1, 1] 1 [3, 10]] (gN fun b_3 => gQ b_3 (gQ b_3 (gS [.o [0, 1, 1] 1, .c [1, 1, 1]] ?_)))
 refine go_call (some 11) [] Tryz.call60 (plan_Make c hc) kR ?_
 rintro v post ⟨ba_4, aw_5, cw_6, rfl, rfl⟩
 refine gX [.z [0, 1, 1, 1, 1] 0 [3, 4]] (gS [.c [0, 1, 1, 1, 1], .c [1, 1, 1, 1, 1]] ?_)
 refine zG ?_
 have aS_154 : ∀ (ra_3_1 : Nat) (aw_3_1 : Option Addr) (cw_3_1 : Nat) (b_5_1 : Nat) (b_7_1 : Nat) (b_9_1 : Nat) (b_11_1 : Nat) (b_12_1 : Nat) (b_14_1 : Nat), Lz Tryz.prog Tryz.f26 B26 35 F (RetR F (Ylaw17_begun c)) (regOps B26 [0, 1, 1, 1, 1]) [.c [1, 1, 1, 1, 1]] (mk 16 [0, 1, 2, 3, 4, 5, 6, 7, 8, 9, 10, 11, 12, 13, 14]) [] [(30, vP b_14_1)] [.pts b_1 [vI q0, vI q1, vI q2] 22, Efdc04 b_3 c, E3504b ba_4 (mkAr c aw_5 cw_6), E35fb1 (mkAr c aw_5 cw_6), E99bbc ra_3_1 (rmAr c (rpackW c) aw_3_1 cw_3_1) false 0, E35fb1 (rmAr c (rpackW c) aw_3_1 cw_3_1), E0b46c b_5_1 0, E0b46c b_7_1 0, E0b46c b_9_1 0, E0b46c b_11_1 0, E9e911 b_12_1 (vP b_5_1) (vP b_7_1) (vP b_9_1) (vP b_11_1), E6e29b b_14_1 c (vP ba_4) (vP ra_3_1) (.slice (some ⟨b_12_1, 0, none⟩) 4 4) 0] := by
  intro ra_3_1 aw_3_1 cw_3_1 b_5_1 b_7_1 b_9_1 b_11_1 b_12_1 b_14_1
  refine zE [15] (kV 15 [.w]) [6] .n ?_
  refine gX [.z [0, 1, 1, 1, 1, 1] 0 [6]] (gW (ks := [.o [0, 1, 1, 1, 1, 1] 0, .c [1, 1, 1, 1, 1, 1]]) [(6, vP b_14_1)] [.pts b_1 [vI q0, vI q1, vI q2] 22, Efdc04 b_3 c, E3504b ba_4 (mkAr c aw_5 cw_6), E35fb1 (mkAr c aw_5 cw_6), E99bbc ra_3_1 (rmAr c (rpackW c) aw_3_1 cw_3_1) false 0, E35fb1 (rmAr c (rpackW c) aw_3_1 cw_3_1), E0b46c b_5_1 0, E0b46c b_7_1 0, E0b46c b_9_1 0, E0b46c b_11_1 0, E9e911 b_12_1 (vP b_5_1) (vP b_7_1) (vP b_9_1) (vP b_11_1), E6e29b b_14_1 c (vP ba_4) (vP ra_3_1) (.slice (some ⟨b_12_1, 0, none⟩) 4 4) 0] ?_)
  have hA0 := mkAr_ok hc aw_5 cw_6
  have hT0 : Go.Sx.Twin (mkAr c aw_5 cw_6) (rmAr c (rpackW c) aw_3_1 cw_3_1) 0 := by rw [hq]; exact L_twinQ q0 q1 q2 aw_5 aw_3_1 cw_6 cw_3_1
  have hB0 := rm_arW hc hA0 hT0
  have hA1 := hA0.1
  have hA2 := hA0.2.1
  have hA3 := hA0.2.2.2
  have hB1 := hB0.1
  have hB2 := hB0.2.1
  have hB3 := hB0.2.2.2
  have hU0 : U64 0 := by unfold U64; decide
  refine gX [.z [0, 1, 1, 1, 1, 1] 1 [6, 31]] (gS [.o [0, 1, 1, 1, 1, 1] 1, .c [1, 1, 1, 1, 1, 1]] ?_)
  refine gC (some 32) [] Tryz.call70 (r13_Born 0 hU0) ?_
  refine gC (some 33) [11, 2, 3, 4, 5] Tryz.call69 (w_put c b_14_1 ba_4 ra_3_1 0 (.slice (some ⟨b_12_1, 0, none⟩) 4 4) (.slice none 0 0) (mkAr c aw_5 cw_6) (rmAr c (rpackW c) aw_3_1 cw_3_1) (bornW 0) hc hB1 hB2 hA1 hA2 (by omega) (by omega)) ?_
  refine gX [] (gW0 (vP b_14_1) [.pts b_1 [vI q0, vI q1, vI q2] 22, Efdc04 b_3 c, E0b46c b_5_1 0, E0b46c b_7_1 0, E0b46c b_9_1 0, E0b46c b_11_1 0, E9e911 b_12_1 (vP b_5_1) (vP b_7_1) (vP b_9_1) (vP b_11_1), E6e29b b_14_1 c (vP ba_4) (vP ra_3_1) (.slice (some ⟨b_12_1, 0, none⟩) 4 4) 0, E3504b ba_4 ((mkAr c aw_5 cw_6).store (ctlAt c 0) (bornW 0)), E35fb1 ((mkAr c aw_5 cw_6).store (ctlAt c 0) (bornW 0)), E99bbc ra_3_1 ((rmAr c (rpackW c) aw_3_1 cw_3_1).store (ctlAt c 0) (bornW 0)) false 0, E35fb1 ((rmAr c (rpackW c) aw_3_1 cw_3_1).store (ctlAt c 0) (bornW 0))] ?_)
  refine ret_view (L' := [.pts b_1 [vI q0, vI q1, vI q2] 22, Efdc04 b_3 c, E0b46c b_5_1 0, E0b46c b_7_1 0, E0b46c b_9_1 0, E0b46c b_11_1 0, .sl (some ⟨b_12_1, 0, none⟩) 4 encP 0 1 ([b_5_1, b_7_1, b_9_1, b_11_1] : List Nat) 68, E6e29b b_14_1 c (vP ba_4) (vP ra_3_1) (.slice (some ⟨b_12_1, 0, none⟩) 4 4) 0, E3504b ba_4 ((mkAr c aw_5 cw_6).store (ctlAt c 0) (bornW 0)), E35fb1 ((mkAr c aw_5 cw_6).store (ctlAt c 0) (bornW 0)), E99bbc ra_3_1 ((rmAr c (rpackW c) aw_3_1 cw_3_1).store (ctlAt c 0) (bornW 0)) false 0, E35fb1 ((rmAr c (rpackW c) aw_3_1 cw_3_1).store (ctlAt c 0) (bornW 0))]) (view_row 6 (b := b_12_1) encP 0 1 ([b_5_1, b_7_1, b_9_1, b_11_1] : List Nat) 68 sized_encP (by simp [maxLen]) kR) ?_
  refine ret_view (L' := [.pts b_1 [vI q0, vI q1, vI q2] 22, Efdc04 b_3 c, E0b46c b_5_1 0, E0b46c b_7_1 0, E0b46c b_9_1 0, E0b46c b_11_1 0, .sl (some ⟨b_12_1, 0, none⟩) 4 encP 0 1 ([b_5_1, b_7_1, b_9_1, b_11_1] : List Nat) 68, E6e29b b_14_1 c (vP ba_4) (vP ra_3_1) (.slice (some ⟨b_12_1, 0, none⟩) 4 4) 0, E3504b ba_4 ((mkAr c aw_5 cw_6).store (ctlAt c 0) (bornW 0)), E35fb1 ((mkAr c aw_5 cw_6).store (ctlAt c 0) (bornW 0)), E99bbc ra_3_1 ((rmAr c (rpackW c) aw_3_1 cw_3_1).store (ctlAt c 0) (bornW 0)) false 0, E35fb1 ((rmAr c (rpackW c) aw_3_1 cw_3_1).store (ctlAt c 0) (bornW 0)), Ee1326 none 0 ([] : List Int)]) (view_nil (encI .i64) 0 1 3 (sizedI _)) ?_
  refine ret_view (L' := [.pts b_1 [vI q0, vI q1, vI q2] 22, Efdc04 b_3 c, E0b46c b_7_1 0, E0b46c b_9_1 0, E0b46c b_11_1 0, .sl (some ⟨b_12_1, 0, none⟩) 4 encP 0 1 ([b_5_1, b_7_1, b_9_1, b_11_1] : List Nat) 68, E6e29b b_14_1 c (vP ba_4) (vP ra_3_1) (.slice (some ⟨b_12_1, 0, none⟩) 4 4) 0, E3504b ba_4 ((mkAr c aw_5 cw_6).store (ctlAt c 0) (bornW 0)), E35fb1 ((mkAr c aw_5 cw_6).store (ctlAt c 0) (bornW 0)), E99bbc ra_3_1 ((rmAr c (rpackW c) aw_3_1 cw_3_1).store (ctlAt c 0) (bornW 0)) false 0, E35fb1 ((rmAr c (rpackW c) aw_3_1 cw_3_1).store (ctlAt c 0) (bornW 0)), .res (KlR c b_5_1 dK)]) (vK (fun _ : KlH => True) (klL c b_5_1 dK) ⟨.pointer none, .pointer none, .pointer none, none, 0, 0⟩ [2, 12] trivial) ?_
  refine ret_view (L' := [.pts b_1 [vI q0, vI q1, vI q2] 22, Efdc04 b_3 c, E0b46c b_7_1 0, E0b46c b_9_1 0, E0b46c b_11_1 0, .sl (some ⟨b_12_1, 0, none⟩) 4 encP 0 1 ([b_5_1, b_7_1, b_9_1, b_11_1] : List Nat) 68, E6e29b b_14_1 c (vP ba_4) (vP ra_3_1) (.slice (some ⟨b_12_1, 0, none⟩) 4 4) 0, E3504b ba_4 ((mkAr c aw_5 cw_6).store (ctlAt c 0) (bornW 0)), E35fb1 ((mkAr c aw_5 cw_6).store (ctlAt c 0) (bornW 0)), E99bbc ra_3_1 ((rmAr c (rpackW c) aw_3_1 cw_3_1).store (ctlAt c 0) (bornW 0)) false 0, E35fb1 ((rmAr c (rpackW c) aw_3_1 cw_3_1).store (ctlAt c 0) (bornW 0)), .res (KlR c b_5_1 dK), Ee1326 none 0 ([] : List Int)]) (view_nil (encI .i64) 0 1 3 (sizedI _)) ?_
  refine ret_view (L' := [.pts b_1 [vI q0, vI q1, vI q2] 22, Efdc04 b_3 c, E0b46c b_9_1 0, E0b46c b_11_1 0, .sl (some ⟨b_12_1, 0, none⟩) 4 encP 0 1 ([b_5_1, b_7_1, b_9_1, b_11_1] : List Nat) 68, E6e29b b_14_1 c (vP ba_4) (vP ra_3_1) (.slice (some ⟨b_12_1, 0, none⟩) 4 4) 0, E3504b ba_4 ((mkAr c aw_5 cw_6).store (ctlAt c 0) (bornW 0)), E35fb1 ((mkAr c aw_5 cw_6).store (ctlAt c 0) (bornW 0)), E99bbc ra_3_1 ((rmAr c (rpackW c) aw_3_1 cw_3_1).store (ctlAt c 0) (bornW 0)) false 0, E35fb1 ((rmAr c (rpackW c) aw_3_1 cw_3_1).store (ctlAt c 0) (bornW 0)), .res (KlR c b_5_1 dK), .res (KlR c b_7_1 dK)]) (vK (fun _ : KlH => True) (klL c b_7_1 dK) ⟨.pointer none, .pointer none, .pointer none, none, 0, 0⟩ [2, 12] trivial) ?_
  refine ret_view (L' := [.pts b_1 [vI q0, vI q1, vI q2] 22, Efdc04 b_3 c, E0b46c b_9_1 0, E0b46c b_11_1 0, .sl (some ⟨b_12_1, 0, none⟩) 4 encP 0 1 ([b_5_1, b_7_1, b_9_1, b_11_1] : List Nat) 68, E6e29b b_14_1 c (vP ba_4) (vP ra_3_1) (.slice (some ⟨b_12_1, 0, none⟩) 4 4) 0, E3504b ba_4 ((mkAr c aw_5 cw_6).store (ctlAt c 0) (bornW 0)), E35fb1 ((mkAr c aw_5 cw_6).store (ctlAt c 0) (bornW 0)), E99bbc ra_3_1 ((rmAr c (rpackW c) aw_3_1 cw_3_1).store (ctlAt c 0) (bornW 0)) false 0, E35fb1 ((rmAr c (rpackW c) aw_3_1 cw_3_1).store (ctlAt c 0) (bornW 0)), .res (KlR c b_5_1 dK), .res (KlR c b_7_1 dK), Ee1326 none 0 ([] : List Int)]) (view_nil (encI .i64) 0 1 3 (sizedI _)) ?_
  refine ret_view (L' := [.pts b_1 [vI q0, vI q1, vI q2] 22, Efdc04 b_3 c, E0b46c b_11_1 0, .sl (some ⟨b_12_1, 0, none⟩) 4 encP 0 1 ([b_5_1, b_7_1, b_9_1, b_11_1] : List Nat) 68, E6e29b b_14_1 c (vP ba_4) (vP ra_3_1) (.slice (some ⟨b_12_1, 0, none⟩) 4 4) 0, E3504b ba_4 ((mkAr c aw_5 cw_6).store (ctlAt c 0) (bornW 0)), E35fb1 ((mkAr c aw_5 cw_6).store (ctlAt c 0) (bornW 0)), E99bbc ra_3_1 ((rmAr c (rpackW c) aw_3_1 cw_3_1).store (ctlAt c 0) (bornW 0)) false 0, E35fb1 ((rmAr c (rpackW c) aw_3_1 cw_3_1).store (ctlAt c 0) (bornW 0)), .res (KlR c b_5_1 dK), .res (KlR c b_7_1 dK), .res (KlR c b_9_1 dK)]) (vK (fun _ : KlH => True) (klL c b_9_1 dK) ⟨.pointer none, .pointer none, .pointer none, none, 0, 0⟩ [2, 12] trivial) ?_
  refine ret_view (L' := [.pts b_1 [vI q0, vI q1, vI q2] 22, Efdc04 b_3 c, E0b46c b_11_1 0, .sl (some ⟨b_12_1, 0, none⟩) 4 encP 0 1 ([b_5_1, b_7_1, b_9_1, b_11_1] : List Nat) 68, E6e29b b_14_1 c (vP ba_4) (vP ra_3_1) (.slice (some ⟨b_12_1, 0, none⟩) 4 4) 0, E3504b ba_4 ((mkAr c aw_5 cw_6).store (ctlAt c 0) (bornW 0)), E35fb1 ((mkAr c aw_5 cw_6).store (ctlAt c 0) (bornW 0)), E99bbc ra_3_1 ((rmAr c (rpackW c) aw_3_1 cw_3_1).store (ctlAt c 0) (bornW 0)) false 0, E35fb1 ((rmAr c (rpackW c) aw_3_1 cw_3_1).store (ctlAt c 0) (bornW 0)), .res (KlR c b_5_1 dK), .res (KlR c b_7_1 dK), .res (KlR c b_9_1 dK), Ee1326 none 0 ([] : List Int)]) (view_nil (encI .i64) 0 1 3 (sizedI _)) ?_
  refine ret_view (L' := [.pts b_1 [vI q0, vI q1, vI q2] 22, Efdc04 b_3 c, .sl (some ⟨b_12_1, 0, none⟩) 4 encP 0 1 ([b_5_1, b_7_1, b_9_1, b_11_1] : List Nat) 68, E6e29b b_14_1 c (vP ba_4) (vP ra_3_1) (.slice (some ⟨b_12_1, 0, none⟩) 4 4) 0, E3504b ba_4 ((mkAr c aw_5 cw_6).store (ctlAt c 0) (bornW 0)), E35fb1 ((mkAr c aw_5 cw_6).store (ctlAt c 0) (bornW 0)), E99bbc ra_3_1 ((rmAr c (rpackW c) aw_3_1 cw_3_1).store (ctlAt c 0) (bornW 0)) false 0, E35fb1 ((rmAr c (rpackW c) aw_3_1 cw_3_1).store (ctlAt c 0) (bornW 0)), .res (KlR c b_5_1 dK), .res (KlR c b_7_1 dK), .res (KlR c b_9_1 dK), .res (KlR c b_11_1 dK)]) (vK (fun _ : KlH => True) (klL c b_11_1 dK) ⟨.pointer none, .pointer none, .pointer none, none, 0, 0⟩ [2, 12] trivial) ?_
  refine ret_view (L' := [.pts b_1 [vI q0, vI q1, vI q2] 22, Efdc04 b_3 c, .sl (some ⟨b_12_1, 0, none⟩) 4 encP 0 1 ([b_5_1, b_7_1, b_9_1, b_11_1] : List Nat) 68, E6e29b b_14_1 c (vP ba_4) (vP ra_3_1) (.slice (some ⟨b_12_1, 0, none⟩) 4 4) 0, E3504b ba_4 ((mkAr c aw_5 cw_6).store (ctlAt c 0) (bornW 0)), E35fb1 ((mkAr c aw_5 cw_6).store (ctlAt c 0) (bornW 0)), E99bbc ra_3_1 ((rmAr c (rpackW c) aw_3_1 cw_3_1).store (ctlAt c 0) (bornW 0)) false 0, E35fb1 ((rmAr c (rpackW c) aw_3_1 cw_3_1).store (ctlAt c 0) (bornW 0)), .res (KsR ([b_5_1, b_7_1, b_9_1, b_11_1] : List Nat) four c)]) (vC [8, 9, 10, 11]) ?_
  refine ret_view (L' := [.pts b_1 [vI q0, vI q1, vI q2] 22, Efdc04 b_3 c, .sl (some ⟨b_12_1, 0, none⟩) 4 encP 0 1 ([b_5_1, b_7_1, b_9_1, b_11_1] : List Nat) 68, E6e29b b_14_1 c (vP ba_4) (vP ra_3_1) (.slice (some ⟨b_12_1, 0, none⟩) 4 4) 0, E3504b ba_4 ((mkAr c aw_5 cw_6).store (ctlAt c 0) (bornW 0)), E35fb1 ((mkAr c aw_5 cw_6).store (ctlAt c 0) (bornW 0)), E99bbc ra_3_1 ((rmAr c (rpackW c) aw_3_1 cw_3_1).store (ctlAt c 0) (bornW 0)) false 0, E35fb1 ((rmAr c (rpackW c) aw_3_1 cw_3_1).store (ctlAt c 0) (bornW 0)), .res (KsR ([b_5_1, b_7_1, b_9_1, b_11_1] : List Nat) four c), Ee1326 none 0 ([] : List Int)]) (view_nil (encI .i64) 0 1 3 (sizedI _)) ?_
  exact ret_ok (post := [E6e29b b_14_1 c (vP ba_4) (vP ra_3_1) (.slice (some ⟨b_12_1, 0, none⟩) 4 4) 0, .sl (some ⟨b_12_1, 0, none⟩) 4 encP 0 1 ([b_5_1, b_7_1, b_9_1, b_11_1] : List Nat) 68, Ee1326 none 0 ([] : List Int), E3504b ba_4 ((mkAr c aw_5 cw_6).store (ctlAt c 0) (bornW 0)), E35fb1 ((mkAr c aw_5 cw_6).store (ctlAt c 0) (bornW 0)), E99bbc ra_3_1 ((rmAr c (rpackW c) aw_3_1 cw_3_1).store (ctlAt c 0) (bornW 0)) false 0, E35fb1 ((rmAr c (rpackW c) aw_3_1 cw_3_1).store (ctlAt c 0) (bornW 0)), .res (KsR ([b_5_1, b_7_1, b_9_1, b_11_1] : List Nat) four c)]) [3, 2, 9, 4, 5, 6, 7, 8] kR ⟨b_14_1, ba_4, ra_3_1, (some ⟨b_12_1, 0, none⟩), 4, [b_5_1, b_7_1, b_9_1, b_11_1], aw_5, cw_6, aw_3_1, cw_3_1, rfl, kR, rfl⟩
 have aS_155 : ∀ (ra_3_1 : Nat) (aw_3_1 : Option Addr) (cw_3_1 : Nat) (b_5_1 : Nat) (b_7_1 : Nat) (b_9_1 : Nat) (b_11_1 : Nat) (b_12_1 : Nat), Lz Tryz.prog Tryz.f26 B26 35 F (RetR F (Ylaw17_begun c)) (regOps B26 [0, 1, 1, 1, 1]) [.c [1, 1, 1, 1, 1]] (mk 16 [0, 1, 2, 3, 4, 5, 6, 7, 8, 9, 10, 11, 12]) [0, 1] [(28, .slice (some ⟨b_12_1, 0, none⟩) 4 4), (19, vP ra_3_1), (3, vP b_3), (4, vP ba_4), (16, cfgV c), (17, vP ba_4)] [.pts b_1 [vI q0, vI q1, vI q2] 22, Efdc04 b_3 c, E3504b ba_4 (mkAr c aw_5 cw_6), E35fb1 (mkAr c aw_5 cw_6), E99bbc ra_3_1 (rmAr c (rpackW c) aw_3_1 cw_3_1) false 0, E35fb1 (rmAr c (rpackW c) aw_3_1 cw_3_1), E0b46c b_5_1 0, E0b46c b_7_1 0, E0b46c b_9_1 0, E0b46c b_11_1 0, E9e911 b_12_1 (vP b_5_1) (vP b_7_1) (vP b_9_1) (vP b_11_1)] := by
  intro ra_3_1 aw_3_1 cw_3_1 b_5_1 b_7_1 b_9_1 b_11_1 b_12_1
  refine zN [13] [(0, .e 1), (1, .w), (13, .w)] [28, 19, 3, 4, 16, 17, 29] [14] (.e b_3 .n) ⟨?_, trivial⟩
  refine zX .w (sN fun b_14_1 => (sV ?_))
  exact zW [30] [0, 1, 2, 3, 4, 5, 6, 7, 8, 9, 10, 11] (aS_154 ra_3_1 aw_3_1 cw_3_1 b_5_1 b_7_1 b_9_1 b_11_1 b_12_1 b_14_1)
 have aS_156 : ∀ (ra_3_1 : Nat) (aw_3_1 : Option Addr) (cw_3_1 : Nat) (b_5_1 : Nat) (b_7_1 : Nat) (b_9_1 : Nat) (b_11_1 : Nat), Lz Tryz.prog Tryz.f26 B26 35 F (RetR F (Ylaw17_begun c)) (regOps B26 [0, 1, 1, 1, 1]) [.c [1, 1, 1, 1, 1]] (mk 16 [0, 1, 2, 3, 4, 5, 6, 7, 8, 9, 10, 11]) [0, 1] [(27, vP b_11_1), (25, vP b_9_1), (23, vP b_7_1), (21, vP b_5_1), (19, vP ra_3_1), (3, vP b_3), (4, vP ba_4), (16, cfgV c), (17, vP ba_4)] [.pts b_1 [vI q0, vI q1, vI q2] 22, Efdc04 b_3 c, E3504b ba_4 (mkAr c aw_5 cw_6), E35fb1 (mkAr c aw_5 cw_6), E99bbc ra_3_1 (rmAr c (rpackW c) aw_3_1 cw_3_1) false 0, E35fb1 (rmAr c (rpackW c) aw_3_1 cw_3_1), E0b46c b_5_1 0, E0b46c b_7_1 0, E0b46c b_9_1 0, E0b46c b_11_1 0] := by
  intro ra_3_1 aw_3_1 cw_3_1 b_5_1 b_7_1 b_9_1 b_11_1
  refine zN [] (kV 0 [.e 1, .w]) [27, 25, 23, 21, 19, 3, 4, 16, 17] [12] (.e b_3 .n) ⟨?_, trivial⟩
  refine zX .w (sN fun b_12_1 => (sV ?_))
  exact zW [28, 19, 3, 4, 16, 17] [0, 1, 2, 3, 4, 5, 6, 7, 8, 9, 10] (aS_155 ra_3_1 aw_3_1 cw_3_1 b_5_1 b_7_1 b_9_1 b_11_1 b_12_1)
 have aS_157 : ∀ (b_5_1 : Nat) (b_7_1 : Nat) (b_9_1 : Nat) (b_11_1 : Nat) (b_12_1 : Nat), Lz Tryz.prog Tryz.f26 B26 35 F (RetR F (Ylaw17_begun c)) (regOps B26 [0, 1, 1, 1, 1]) [.c [1, 1, 1, 1, 1]] (mk 16 [0, 1, 2, 4, 5, 6, 7, 8, 9, 10, 11, 12]) [0, 1, 2] [(28, .slice (some ⟨b_12_1, 0, none⟩) 4 4), (3, vP b_3), (4, vP ba_4), (16, cfgV c), (17, vP ba_4), (18, cfgV c)] [.pts b_1 [vI q0, vI q1, vI q2] 22, Efdc04 b_3 c, E3504b ba_4 (mkAr c aw_5 cw_6), E35fb1 (mkAr c aw_5 cw_6), E0b46c b_5_1 0, E0b46c b_7_1 0, E0b46c b_9_1 0, E0b46c b_11_1 0, E9e911 b_12_1 (vP b_5_1) (vP b_7_1) (vP b_9_1) (vP b_11_1)] := by
  intro b_5_1 b_7_1 b_9_1 b_11_1 b_12_1
  refine zN [] (kV 0 [.e 1, .w, .e 1]) [28, 3, 4, 16, 17, 18] [3] (.e b_3 (.e b_3 .n)) ⟨?_, trivial⟩
  refine zC (some 19) [] Tryz.call68 (ref_MakeX c hc) ?_
  rintro v post ⟨ra_3_1, aw_3_1, cw_3_1, rfl, rfl⟩
  exact zW [28, 19, 3, 4, 16, 17] [0, 1, 2, 3, 9, 10, 4, 5, 6, 7, 8] (aS_155 ra_3_1 aw_3_1 cw_3_1 b_5_1 b_7_1 b_9_1 b_11_1 b_12_1)
 have aS_158 : ∀ (ra_3_1 : Nat) (aw_3_1 : Option Addr) (cw_3_1 : Nat) (b_5_1 : Nat) (b_7_1 : Nat) (b_9_1 : Nat), Lz Tryz.prog Tryz.f26 B26 35 F (RetR F (Ylaw17_begun c)) (regOps B26 [0, 1, 1, 1, 1]) [.c [1, 1, 1, 1, 1]] (mk 16 [0, 1, 2, 3, 4, 5, 6, 7, 8, 9, 10]) [0, 1, 10] [(25, vP b_9_1), (23, vP b_7_1), (21, vP b_5_1), (19, vP ra_3_1), (3, vP b_3), (4, vP ba_4), (16, cfgV c), (17, vP ba_4), (26, zK)] [.pts b_1 [vI q0, vI q1, vI q2] 22, Efdc04 b_3 c, E3504b ba_4 (mkAr c aw_5 cw_6), E35fb1 (mkAr c aw_5 cw_6), E99bbc ra_3_1 (rmAr c (rpackW c) aw_3_1 cw_3_1) false 0, E35fb1 (rmAr c (rpackW c) aw_3_1 cw_3_1), E0b46c b_5_1 0, E0b46c b_7_1 0, E0b46c b_9_1 0] := by
  intro ra_3_1 aw_3_1 cw_3_1 b_5_1 b_7_1 b_9_1
  refine zN [] [(0, .e 1), (1, .w), (10, .w)] [25, 23, 21, 19, 3, 4, 16, 17, 26] [11] (.e b_3 .n) ⟨?_, trivial⟩
  refine zX .w (sN fun b_11_1 => (sV ?_))
  exact zW [27, 25, 23, 21, 19, 3, 4, 16, 17] [0, 1, 2, 3, 4, 5, 6, 7, 8, 9] (aS_156 ra_3_1 aw_3_1 cw_3_1 b_5_1 b_7_1 b_9_1 b_11_1)
 have aS_159 : ∀ (ra_3_1 : Nat) (aw_3_1 : Option Addr) (cw_3_1 : Nat) (b_5_1 : Nat) (b_7_1 : Nat) (b_11_1 : Nat), Lz Tryz.prog Tryz.f26 B26 35 F (RetR F (Ylaw17_begun c)) (regOps B26 [0, 1, 1, 1, 1]) [.c [1, 1, 1, 1, 1]] (mk 16 [0, 1, 2, 3, 4, 5, 6, 7, 8, 10, 11]) [0, 1, 8] [(27, vP b_11_1), (23, vP b_7_1), (21, vP b_5_1), (19, vP ra_3_1), (3, vP b_3), (4, vP ba_4), (16, cfgV c), (17, vP ba_4), (24, zK)] [.pts b_1 [vI q0, vI q1, vI q2] 22, Efdc04 b_3 c, E3504b ba_4 (mkAr c aw_5 cw_6), E35fb1 (mkAr c aw_5 cw_6), E99bbc ra_3_1 (rmAr c (rpackW c) aw_3_1 cw_3_1) false 0, E35fb1 (rmAr c (rpackW c) aw_3_1 cw_3_1), E0b46c b_5_1 0, E0b46c b_7_1 0, E0b46c b_11_1 0] := by
  intro ra_3_1 aw_3_1 cw_3_1 b_5_1 b_7_1 b_11_1
  refine zN [] [(0, .e 1), (1, .w), (8, .w)] [27, 23, 21, 19, 3, 4, 16, 17, 24] [9] (.e b_3 .n) ⟨?_, trivial⟩
  refine zX .w (sN fun b_9_1 => (sV ?_))
  exact zW [27, 25, 23, 21, 19, 3, 4, 16, 17] [0, 1, 2, 3, 4, 5, 6, 7, 9, 8] (aS_156 ra_3_1 aw_3_1 cw_3_1 b_5_1 b_7_1 b_9_1 b_11_1)
 have aS_160 : ∀ (ra_3_1 : Nat) (aw_3_1 : Option Addr) (cw_3_1 : Nat) (b_5_1 : Nat) (b_9_1 : Nat) (b_11_1 : Nat), Lz Tryz.prog Tryz.f26 B26 35 F (RetR F (Ylaw17_begun c)) (regOps B26 [0, 1, 1, 1, 1]) [.c [1, 1, 1, 1, 1]] (mk 16 [0, 1, 2, 3, 4, 5, 6, 8, 9, 10, 11]) [0, 1, 6] [(27, vP b_11_1), (25, vP b_9_1), (21, vP b_5_1), (19, vP ra_3_1), (3, vP b_3), (4, vP ba_4), (16, cfgV c), (17, vP ba_4), (22, zK)] [.pts b_1 [vI q0, vI q1, vI q2] 22, Efdc04 b_3 c, E3504b ba_4 (mkAr c aw_5 cw_6), E35fb1 (mkAr c aw_5 cw_6), E99bbc ra_3_1 (rmAr c (rpackW c) aw_3_1 cw_3_1) false 0, E35fb1 (rmAr c (rpackW c) aw_3_1 cw_3_1), E0b46c b_5_1 0, E0b46c b_9_1 0, E0b46c b_11_1 0] := by
  intro ra_3_1 aw_3_1 cw_3_1 b_5_1 b_9_1 b_11_1
  refine zN [] [(0, .e 1), (1, .w), (6, .w)] [27, 25, 21, 19, 3, 4, 16, 17, 22] [7] (.e b_3 .n) ⟨?_, trivial⟩
  refine zX .w (sN fun b_7_1 => (sV ?_))
  exact zW [27, 25, 23, 21, 19, 3, 4, 16, 17] [0, 1, 2, 3, 4, 5, 6, 9, 7, 8] (aS_156 ra_3_1 aw_3_1 cw_3_1 b_5_1 b_7_1 b_9_1 b_11_1)
 have aS_161 : ∀ (ra_3_1 : Nat) (aw_3_1 : Option Addr) (cw_3_1 : Nat) (b_7_1 : Nat) (b_9_1 : Nat) (b_11_1 : Nat), Lz Tryz.prog Tryz.f26 B26 35 F (RetR F (Ylaw17_begun c)) (regOps B26 [0, 1, 1, 1, 1]) [.c [1, 1, 1, 1, 1]] (mk 16 [0, 1, 2, 3, 4, 6, 7, 8, 9, 10, 11]) [0, 1, 4] [(27, vP b_11_1), (25, vP b_9_1), (23, vP b_7_1), (19, vP ra_3_1), (3, vP b_3), (4, vP ba_4), (16, cfgV c), (17, vP ba_4), (20, zK)] [.pts b_1 [vI q0, vI q1, vI q2] 22, Efdc04 b_3 c, E3504b ba_4 (mkAr c aw_5 cw_6), E35fb1 (mkAr c aw_5 cw_6), E99bbc ra_3_1 (rmAr c (rpackW c) aw_3_1 cw_3_1) false 0, E35fb1 (rmAr c (rpackW c) aw_3_1 cw_3_1), E0b46c b_7_1 0, E0b46c b_9_1 0, E0b46c b_11_1 0] := by
  intro ra_3_1 aw_3_1 cw_3_1 b_7_1 b_9_1 b_11_1
  refine zN [] [(0, .e 1), (1, .w), (4, .w)] [27, 25, 23, 19, 3, 4, 16, 17, 20] [5] (.e b_3 .n) ⟨?_, trivial⟩
  refine zX .w (sN fun b_5_1 => (sV ?_))
  exact zW [27, 25, 23, 21, 19, 3, 4, 16, 17] [0, 1, 2, 3, 4, 5, 9, 6, 7, 8] (aS_156 ra_3_1 aw_3_1 cw_3_1 b_5_1 b_7_1 b_9_1 b_11_1)
 have aS_162 : ∀ (b_5_1 : Nat) (b_7_1 : Nat) (b_9_1 : Nat) (b_11_1 : Nat), Lz Tryz.prog Tryz.f26 B26 35 F (RetR F (Ylaw17_begun c)) (regOps B26 [0, 1, 1, 1, 1]) [.c [1, 1, 1, 1, 1]] (mk 16 [0, 1, 2, 4, 5, 6, 7, 8, 9, 10, 11]) [0, 1, 2] [(27, vP b_11_1), (25, vP b_9_1), (23, vP b_7_1), (21, vP b_5_1), (3, vP b_3), (4, vP ba_4), (16, cfgV c), (17, vP ba_4), (18, cfgV c)] [.pts b_1 [vI q0, vI q1, vI q2] 22, Efdc04 b_3 c, E3504b ba_4 (mkAr c aw_5 cw_6), E35fb1 (mkAr c aw_5 cw_6), E0b46c b_5_1 0, E0b46c b_7_1 0, E0b46c b_9_1 0, E0b46c b_11_1 0] := by
  intro b_5_1 b_7_1 b_9_1 b_11_1
  refine zN [] (kV 0 [.e 1, .w, .e 1]) [27, 25, 23, 21, 3, 4, 16, 17, 18] [3, 12] (.e b_3 (.e b_3 .n)) ⟨?_, ?_, trivial⟩
  ·refine zC (some 19) [] Tryz.call68 (ref_MakeX c hc) ?_
   rintro v post ⟨ra_3_1, aw_3_1, cw_3_1, rfl, rfl⟩
   exact zW [27, 25, 23, 21, 19, 3, 4, 16, 17] [0, 1, 2, 3, 8, 9, 4, 5, 6, 7] (aS_156 ra_3_1 aw_3_1 cw_3_1 b_5_1 b_7_1 b_9_1 b_11_1)
  ·refine zX .w (sN fun b_12_1 => (sV ?_))
   exact zW [28, 3, 4, 16, 17, 18] [0, 1, 2, 3, 4, 5, 6, 7, 8] (aS_157 b_5_1 b_7_1 b_9_1 b_11_1 b_12_1)
 have aS_163 : ∀ (ra_3_1 : Nat) (aw_3_1 : Option Addr) (cw_3_1 : Nat) (b_5_1 : Nat) (b_7_1 : Nat), Lz Tryz.prog Tryz.f26 B26 35 F (RetR F (Ylaw17_begun c)) (regOps B26 [0, 1, 1, 1, 1]) [.c [1, 1, 1, 1, 1]] (mk 16 [0, 1, 2, 3, 4, 5, 6, 7, 8, 10]) [0, 1, 8, 10] [(23, vP b_7_1), (21, vP b_5_1), (19, vP ra_3_1), (3, vP b_3), (4, vP ba_4), (16, cfgV c), (17, vP ba_4), (24, zK), (26, zK)] [.pts b_1 [vI q0, vI q1, vI q2] 22, Efdc04 b_3 c, E3504b ba_4 (mkAr c aw_5 cw_6), E35fb1 (mkAr c aw_5 cw_6), E99bbc ra_3_1 (rmAr c (rpackW c) aw_3_1 cw_3_1) false 0, E35fb1 (rmAr c (rpackW c) aw_3_1 cw_3_1), E0b46c b_5_1 0, E0b46c b_7_1 0] := by
  intro ra_3_1 aw_3_1 cw_3_1 b_5_1 b_7_1
  refine zN [] [(0, .e 1), (1, .w), (8, .w), (10, .w)] [23, 21, 19, 3, 4, 16, 17, 24, 26] [9, 11] (.e b_3 .n) ⟨?_, ?_, trivial⟩
  ·refine zX .w (sN fun b_9_1 => (sV ?_))
   exact zW [25, 23, 21, 19, 3, 4, 16, 17, 26] [0, 1, 2, 3, 4, 5, 6, 7, 8] (aS_158 ra_3_1 aw_3_1 cw_3_1 b_5_1 b_7_1 b_9_1)
  ·refine zX .w (sN fun b_11_1 => (sV ?_))
   exact zW [27, 23, 21, 19, 3, 4, 16, 17, 24] [0, 1, 2, 3, 4, 5, 6, 7, 8] (aS_159 ra_3_1 aw_3_1 cw_3_1 b_5_1 b_7_1 b_11_1)
 have aS_164 : ∀ (ra_3_1 : Nat) (aw_3_1 : Option Addr) (cw_3_1 : Nat) (b_5_1 : Nat) (b_9_1 : Nat), Lz Tryz.prog Tryz.f26 B26 35 F (RetR F (Ylaw17_begun c)) (regOps B26 [0, 1, 1, 1, 1]) [.c [1, 1, 1, 1, 1]] (mk 16 [0, 1, 2, 3, 4, 5, 6, 8, 9, 10]) [0, 1, 6, 10] [(25, vP b_9_1), (21, vP b_5_1), (19, vP ra_3_1), (3, vP b_3), (4, vP ba_4), (16, cfgV c), (17, vP ba_4), (22, zK), (26, zK)] [.pts b_1 [vI q0, vI q1, vI q2] 22, Efdc04 b_3 c, E3504b ba_4 (mkAr c aw_5 cw_6), E35fb1 (mkAr c aw_5 cw_6), E99bbc ra_3_1 (rmAr c (rpackW c) aw_3_1 cw_3_1) false 0, E35fb1 (rmAr c (rpackW c) aw_3_1 cw_3_1), E0b46c b_5_1 0, E0b46c b_9_1 0] := by
  intro ra_3_1 aw_3_1 cw_3_1 b_5_1 b_9_1
  refine zN [] [(0, .e 1), (1, .w), (6, .w), (10, .w)] [25, 21, 19, 3, 4, 16, 17, 22, 26] [7, 11] (.e b_3 .n) ⟨?_, ?_, trivial⟩
  ·refine zX .w (sN fun b_7_1 => (sV ?_))
   exact zW [25, 23, 21, 19, 3, 4, 16, 17, 26] [0, 1, 2, 3, 4, 5, 6, 8, 7] (aS_158 ra_3_1 aw_3_1 cw_3_1 b_5_1 b_7_1 b_9_1)
  ·refine zX .w (sN fun b_11_1 => (sV ?_))
   exact zW [27, 25, 21, 19, 3, 4, 16, 17, 22] [0, 1, 2, 3, 4, 5, 6, 7, 8] (aS_160 ra_3_1 aw_3_1 cw_3_1 b_5_1 b_9_1 b_11_1)
 have aS_165 : ∀ (ra_3_1 : Nat) (aw_3_1 : Option Addr) (cw_3_1 : Nat) (b_5_1 : Nat) (b_11_1 : Nat), Lz Tryz.prog Tryz.f26 B26 35 F (RetR F (Ylaw17_begun c)) (regOps B26 [0, 1, 1, 1, 1]) [.c [1, 1, 1, 1, 1]] (mk 16 [0, 1, 2, 3, 4, 5, 6, 8, 10, 11]) [0, 1, 6, 8] [(27, vP b_11_1), (21, vP b_5_1), (19, vP ra_3_1), (3, vP b_3), (4, vP ba_4), (16, cfgV c), (17, vP ba_4), (22, zK), (24, zK)] [.pts b_1 [vI q0, vI q1, vI q2] 22, Efdc04 b_3 c, E3504b ba_4 (mkAr c aw_5 cw_6), E35fb1 (mkAr c aw_5 cw_6), E99bbc ra_3_1 (rmAr c (rpackW c) aw_3_1 cw_3_1) false 0, E35fb1 (rmAr c (rpackW c) aw_3_1 cw_3_1), E0b46c b_5_1 0, E0b46c b_11_1 0] := by
  intro ra_3_1 aw_3_1 cw_3_1 b_5_1 b_11_1
  refine zN [] [(0, .e 1), (1, .w), (6, .w), (8, .w)] [27, 21, 19, 3, 4, 16, 17, 22, 24] [7, 9] (.e b_3 .n) ⟨?_, ?_, trivial⟩
  ·refine zX .w (sN fun b_7_1 => (sV ?_))
   exact zW [27, 23, 21, 19, 3, 4, 16, 17, 24] [0, 1, 2, 3, 4, 5, 6, 8, 7] (aS_159 ra_3_1 aw_3_1 cw_3_1 b_5_1 b_7_1 b_11_1)
  ·refine zX .w (sN fun b_9_1 => (sV ?_))
   exact zW [27, 25, 21, 19, 3, 4, 16, 17, 22] [0, 1, 2, 3, 4, 5, 6, 8, 7] (aS_160 ra_3_1 aw_3_1 cw_3_1 b_5_1 b_9_1 b_11_1)
 have aS_166 : ∀ (ra_3_1 : Nat) (aw_3_1 : Option Addr) (cw_3_1 : Nat) (b_7_1 : Nat) (b_9_1 : Nat), Lz Tryz.prog Tryz.f26 B26 35 F (RetR F (Ylaw17_begun c)) (regOps B26 [0, 1, 1, 1, 1]) [.c [1, 1, 1, 1, 1]] (mk 16 [0, 1, 2, 3, 4, 6, 7, 8, 9, 10]) [0, 1, 4, 10] [(25, vP b_9_1), (23, vP b_7_1), (19, vP ra_3_1), (3, vP b_3), (4, vP ba_4), (16, cfgV c), (17, vP ba_4), (20, zK), (26, zK)] [.pts b_1 [vI q0, vI q1, vI q2] 22, Efdc04 b_3 c, E3504b ba_4 (mkAr c aw_5 cw_6), E35fb1 (mkAr c aw_5 cw_6), E99bbc ra_3_1 (rmAr c (rpackW c) aw_3_1 cw_3_1) false 0, E35fb1 (rmAr c (rpackW c) aw_3_1 cw_3_1), E0b46c b_7_1 0, E0b46c b_9_1 0] := by
  intro ra_3_1 aw_3_1 cw_3_1 b_7_1 b_9_1
  refine zN [] [(0, .e 1), (1, .w), (4, .w), (10, .w)] [25, 23, 19, 3, 4, 16, 17, 20, 26] [5, 11] (.e b_3 .n) ⟨?_, ?_, trivial⟩
  ·refine zX .w (sN fun b_5_1 => (sV ?_))
   exact zW [25, 23, 21, 19, 3, 4, 16, 17, 26] [0, 1, 2, 3, 4, 5, 8, 6, 7] (aS_158 ra_3_1 aw_3_1 cw_3_1 b_5_1 b_7_1 b_9_1)
  ·refine zX .w (sN fun b_11_1 => (sV ?_))
   exact zW [27, 25, 23, 19, 3, 4, 16, 17, 20] [0, 1, 2, 3, 4, 5, 6, 7, 8] (aS_161 ra_3_1 aw_3_1 cw_3_1 b_7_1 b_9_1 b_11_1)
 have aS_167 : ∀ (ra_3_1 : Nat) (aw_3_1 : Option Addr) (cw_3_1 : Nat) (b_7_1 : Nat) (b_11_1 : Nat), Lz Tryz.prog Tryz.f26 B26 35 F (RetR F (Ylaw17_begun c)) (regOps B26 [0, 1, 1, 1, 1]) [.c [1, 1, 1, 1, 1]] (mk 16 [0, 1, 2, 3, 4, 6, 7, 8, 10, 11]) [0, 1, 4, 8] [(27, vP b_11_1), (23, vP b_7_1), (19, vP ra_3_1), (3, vP b_3), (4, vP ba_4), (16, cfgV c), (17, vP ba_4), (20, zK), (24, zK)] [.pts b_1 [vI q0, vI q1, vI q2] 22, Efdc04 b_3 c, E3504b ba_4 (mkAr c aw_5 cw_6), E35fb1 (mkAr c aw_5 cw_6), E99bbc ra_3_1 (rmAr c (rpackW c) aw_3_1 cw_3_1) false 0, E35fb1 (rmAr c (rpackW c) aw_3_1 cw_3_1), E0b46c b_7_1 0, E0b46c b_11_1 0] := by
  intro ra_3_1 aw_3_1 cw_3_1 b_7_1 b_11_1
  refine zN [] [(0, .e 1), (1, .w), (4, .w), (8, .w)] [27, 23, 19, 3, 4, 16, 17, 20, 24] [5, 9] (.e b_3 .n) ⟨?_, ?_, trivial⟩
  ·refine zX .w (sN fun b_5_1 => (sV ?_))
   exact zW [27, 23, 21, 19, 3, 4, 16, 17, 24] [0, 1, 2, 3, 4, 5, 8, 6, 7] (aS_159 ra_3_1 aw_3_1 cw_3_1 b_5_1 b_7_1 b_11_1)
  ·refine zX .w (sN fun b_9_1 => (sV ?_))
   exact zW [27, 25, 23, 19, 3, 4, 16, 17, 20] [0, 1, 2, 3, 4, 5, 6, 8, 7] (aS_161 ra_3_1 aw_3_1 cw_3_1 b_7_1 b_9_1 b_11_1)
 have aS_168 : ∀ (ra_3_1 : Nat) (aw_3_1 : Option Addr) (cw_3_1 : Nat) (b_9_1 : Nat) (b_11_1 : Nat), Lz Tryz.prog Tryz.f26 B26 35 F (RetR F (Ylaw17_begun c)) (regOps B26 [0, 1, 1, 1, 1]) [.c [1, 1, 1, 1, 1]] (mk 16 [0, 1, 2, 3, 4, 6, 8, 9, 10, 11]) [0, 1, 4, 6] [(27, vP b_11_1), (25, vP b_9_1), (19, vP ra_3_1), (3, vP b_3), (4, vP ba_4), (16, cfgV c), (17, vP ba_4), (20, zK), (22, zK)] [.pts b_1 [vI q0, vI q1, vI q2] 22, Efdc04 b_3 c, E3504b ba_4 (mkAr c aw_5 cw_6), E35fb1 (mkAr c aw_5 cw_6), E99bbc ra_3_1 (rmAr c (rpackW c) aw_3_1 cw_3_1) false 0, E35fb1 (rmAr c (rpackW c) aw_3_1 cw_3_1), E0b46c b_9_1 0, E0b46c b_11_1 0] := by
  intro ra_3_1 aw_3_1 cw_3_1 b_9_1 b_11_1
  refine zN [] [(0, .e 1), (1, .w), (4, .w), (6, .w)] [27, 25, 19, 3, 4, 16, 17, 20, 22] [5, 7] (.e b_3 .n) ⟨?_, ?_, trivial⟩
  ·refine zX .w (sN fun b_5_1 => (sV ?_))
   exact zW [27, 25, 21, 19, 3, 4, 16, 17, 22] [0, 1, 2, 3, 4, 5, 8, 6, 7] (aS_160 ra_3_1 aw_3_1 cw_3_1 b_5_1 b_9_1 b_11_1)
  ·refine zX .w (sN fun b_7_1 => (sV ?_))
   exact zW [27, 25, 23, 19, 3, 4, 16, 17, 20] [0, 1, 2, 3, 4, 5, 8, 6, 7] (aS_161 ra_3_1 aw_3_1 cw_3_1 b_7_1 b_9_1 b_11_1)
 have aS_169 : ∀ (b_5_1 : Nat) (b_7_1 : Nat) (b_9_1 : Nat), Lz Tryz.prog Tryz.f26 B26 35 F (RetR F (Ylaw17_begun c)) (regOps B26 [0, 1, 1, 1, 1]) [.c [1, 1, 1, 1, 1]] (mk 16 [0, 1, 2, 4, 5, 6, 7, 8, 9, 10]) [0, 1, 2, 10] [(25, vP b_9_1), (23, vP b_7_1), (21, vP b_5_1), (3, vP b_3), (4, vP ba_4), (16, cfgV c), (17, vP ba_4), (18, cfgV c), (26, zK)] [.pts b_1 [vI q0, vI q1, vI q2] 22, Efdc04 b_3 c, E3504b ba_4 (mkAr c aw_5 cw_6), E35fb1 (mkAr c aw_5 cw_6), E0b46c b_5_1 0, E0b46c b_7_1 0, E0b46c b_9_1 0] := by
  intro b_5_1 b_7_1 b_9_1
  refine zN [] [(0, .e 1), (1, .w), (2, .e 1), (10, .w)] [25, 23, 21, 3, 4, 16, 17, 18, 26] [3, 11] (.e b_3 (.e b_3 .n)) ⟨?_, ?_, trivial⟩
  ·refine zC (some 19) [] Tryz.call68 (ref_MakeX c hc) ?_
   rintro v post ⟨ra_3_1, aw_3_1, cw_3_1, rfl, rfl⟩
   exact zW [25, 23, 21, 19, 3, 4, 16, 17, 26] [0, 1, 2, 3, 7, 8, 4, 5, 6] (aS_158 ra_3_1 aw_3_1 cw_3_1 b_5_1 b_7_1 b_9_1)
  ·refine zX .w (sN fun b_11_1 => (sV ?_))
   exact zW [27, 25, 23, 21, 3, 4, 16, 17, 18] [0, 1, 2, 3, 4, 5, 6, 7] (aS_162 b_5_1 b_7_1 b_9_1 b_11_1)
 have aS_170 : ∀ (b_5_1 : Nat) (b_7_1 : Nat) (b_11_1 : Nat), Lz Tryz.prog Tryz.f26 B26 35 F (RetR F (Ylaw17_begun c)) (regOps B26 [0, 1, 1, 1, 1]) [.c [1, 1, 1, 1, 1]] (mk 16 [0, 1, 2, 4, 5, 6, 7, 8, 10, 11]) [0, 1, 2, 8] [(27, vP b_11_1), (23, vP b_7_1), (21, vP b_5_1), (3, vP b_3), (4, vP ba_4), (16, cfgV c), (17, vP ba_4), (18, cfgV c), (24, zK)] [.pts b_1 [vI q0, vI q1, vI q2] 22, Efdc04 b_3 c, E3504b ba_4 (mkAr c aw_5 cw_6), E35fb1 (mkAr c aw_5 cw_6), E0b46c b_5_1 0, E0b46c b_7_1 0, E0b46c b_11_1 0] := by
  intro b_5_1 b_7_1 b_11_1
  refine zN [] [(0, .e 1), (1, .w), (2, .e 1), (8, .w)] [27, 23, 21, 3, 4, 16, 17, 18, 24] [3, 9] (.e b_3 (.e b_3 .n)) ⟨?_, ?_, trivial⟩
  ·refine zC (some 19) [] Tryz.call68 (ref_MakeX c hc) ?_
   rintro v post ⟨ra_3_1, aw_3_1, cw_3_1, rfl, rfl⟩
   exact zW [27, 23, 21, 19, 3, 4, 16, 17, 24] [0, 1, 2, 3, 7, 8, 4, 5, 6] (aS_159 ra_3_1 aw_3_1 cw_3_1 b_5_1 b_7_1 b_11_1)
  ·refine zX .w (sN fun b_9_1 => (sV ?_))
   exact zW [27, 25, 23, 21, 3, 4, 16, 17, 18] [0, 1, 2, 3, 4, 5, 7, 6] (aS_162 b_5_1 b_7_1 b_9_1 b_11_1)
 have aS_171 : ∀ (b_5_1 : Nat) (b_9_1 : Nat) (b_11_1 : Nat), Lz Tryz.prog Tryz.f26 B26 35 F (RetR F (Ylaw17_begun c)) (regOps B26 [0, 1, 1, 1, 1]) [.c [1, 1, 1, 1, 1]] (mk 16 [0, 1, 2, 4, 5, 6, 8, 9, 10, 11]) [0, 1, 2, 6] [(27, vP b_11_1), (25, vP b_9_1), (21, vP b_5_1), (3, vP b_3), (4, vP ba_4), (16, cfgV c), (17, vP ba_4), (18, cfgV c), (22, zK)] [.pts b_1 [vI q0, vI q1, vI q2] 22, Efdc04 b_3 c, E3504b ba_4 (mkAr c aw_5 cw_6), E35fb1 (mkAr c aw_5 cw_6), E0b46c b_5_1 0, E0b46c b_9_1 0, E0b46c b_11_1 0] := by
  intro b_5_1 b_9_1 b_11_1
  refine zN [] [(0, .e 1), (1, .w), (2, .e 1), (6, .w)] [27, 25, 21, 3, 4, 16, 17, 18, 22] [3, 7] (.e b_3 (.e b_3 .n)) ⟨?_, ?_, trivial⟩
  ·refine zC (some 19) [] Tryz.call68 (ref_MakeX c hc) ?_
   rintro v post ⟨ra_3_1, aw_3_1, cw_3_1, rfl, rfl⟩
   exact zW [27, 25, 21, 19, 3, 4, 16, 17, 22] [0, 1, 2, 3, 7, 8, 4, 5, 6] (aS_160 ra_3_1 aw_3_1 cw_3_1 b_5_1 b_9_1 b_11_1)
  ·refine zX .w (sN fun b_7_1 => (sV ?_))
   exact zW [27, 25, 23, 21, 3, 4, 16, 17, 18] [0, 1, 2, 3, 4, 7, 5, 6] (aS_162 b_5_1 b_7_1 b_9_1 b_11_1)
 have aS_172 : ∀ (b_7_1 : Nat) (b_9_1 : Nat) (b_11_1 : Nat), Lz Tryz.prog Tryz.f26 B26 35 F (RetR F (Ylaw17_begun c)) (regOps B26 [0, 1, 1, 1, 1]) [.c [1, 1, 1, 1, 1]] (mk 16 [0, 1, 2, 4, 6, 7, 8, 9, 10, 11]) [0, 1, 2, 4] [(27, vP b_11_1), (25, vP b_9_1), (23, vP b_7_1), (3, vP b_3), (4, vP ba_4), (16, cfgV c), (17, vP ba_4), (18, cfgV c), (20, zK)] [.pts b_1 [vI q0, vI q1, vI q2] 22, Efdc04 b_3 c, E3504b ba_4 (mkAr c aw_5 cw_6), E35fb1 (mkAr c aw_5 cw_6), E0b46c b_7_1 0, E0b46c b_9_1 0, E0b46c b_11_1 0] := by
  intro b_7_1 b_9_1 b_11_1
  refine zN [] [(0, .e 1), (1, .w), (2, .e 1), (4, .w)] [27, 25, 23, 3, 4, 16, 17, 18, 20] [3, 5] (.e b_3 (.e b_3 .n)) ⟨?_, ?_, trivial⟩
  ·refine zC (some 19) [] Tryz.call68 (ref_MakeX c hc) ?_
   rintro v post ⟨ra_3_1, aw_3_1, cw_3_1, rfl, rfl⟩
   exact zW [27, 25, 23, 19, 3, 4, 16, 17, 20] [0, 1, 2, 3, 7, 8, 4, 5, 6] (aS_161 ra_3_1 aw_3_1 cw_3_1 b_7_1 b_9_1 b_11_1)
  ·refine zX .w (sN fun b_5_1 => (sV ?_))
   exact zW [27, 25, 23, 21, 3, 4, 16, 17, 18] [0, 1, 2, 3, 7, 4, 5, 6] (aS_162 b_5_1 b_7_1 b_9_1 b_11_1)
 have aS_173 : ∀ (ra_3_1 : Nat) (aw_3_1 : Option Addr) (cw_3_1 : Nat) (b_5_1 : Nat), Lz Tryz.prog Tryz.f26 B26 35 F (RetR F (Ylaw17_begun c)) (regOps B26 [0, 1, 1, 1, 1]) [.c [1, 1, 1, 1, 1]] (mk 16 [0, 1, 2, 3, 4, 5, 6, 8, 10]) [0, 1, 6, 8, 10] [(21, vP b_5_1), (19, vP ra_3_1), (3, vP b_3), (4, vP ba_4), (16, cfgV c), (17, vP ba_4), (22, zK), (24, zK), (26, zK)] [.pts b_1 [vI q0, vI q1, vI q2] 22, Efdc04 b_3 c, E3504b ba_4 (mkAr c aw_5 cw_6), E35fb1 (mkAr c aw_5 cw_6), E99bbc ra_3_1 (rmAr c (rpackW c) aw_3_1 cw_3_1) false 0, E35fb1 (rmAr c (rpackW c) aw_3_1 cw_3_1), E0b46c b_5_1 0] := by
  intro ra_3_1 aw_3_1 cw_3_1 b_5_1
  refine zN [] [(0, .e 1), (1, .w), (6, .w), (8, .w), (10, .w)] [21, 19, 3, 4, 16, 17, 22, 24, 26] [7, 9, 11] (.e b_3 .n) ⟨?_, ?_, ?_, trivial⟩
  ·refine zX .w (sN fun b_7_1 => (sV ?_))
   exact zW [23, 21, 19, 3, 4, 16, 17, 24, 26] [0, 1, 2, 3, 4, 5, 6, 7] (aS_163 ra_3_1 aw_3_1 cw_3_1 b_5_1 b_7_1)
  ·refine zX .w (sN fun b_9_1 => (sV ?_))
   exact zW [25, 21, 19, 3, 4, 16, 17, 22, 26] [0, 1, 2, 3, 4, 5, 6, 7] (aS_164 ra_3_1 aw_3_1 cw_3_1 b_5_1 b_9_1)
  ·refine zX .w (sN fun b_11_1 => (sV ?_))
   exact zW [27, 21, 19, 3, 4, 16, 17, 22, 24] [0, 1, 2, 3, 4, 5, 6, 7] (aS_165 ra_3_1 aw_3_1 cw_3_1 b_5_1 b_11_1)
 have aS_174 : ∀ (ra_3_1 : Nat) (aw_3_1 : Option Addr) (cw_3_1 : Nat) (b_7_1 : Nat), Lz Tryz.prog Tryz.f26 B26 35 F (RetR F (Ylaw17_begun c)) (regOps B26 [0, 1, 1, 1, 1]) [.c [1, 1, 1, 1, 1]] (mk 16 [0, 1, 2, 3, 4, 6, 7, 8, 10]) [0, 1, 4, 8, 10] [(23, vP b_7_1), (19, vP ra_3_1), (3, vP b_3), (4, vP ba_4), (16, cfgV c), (17, vP ba_4), (20, zK), (24, zK), (26, zK)] [.pts b_1 [vI q0, vI q1, vI q2] 22, Efdc04 b_3 c, E3504b ba_4 (mkAr c aw_5 cw_6), E35fb1 (mkAr c aw_5 cw_6), E99bbc ra_3_1 (rmAr c (rpackW c) aw_3_1 cw_3_1) false 0, E35fb1 (rmAr c (rpackW c) aw_3_1 cw_3_1), E0b46c b_7_1 0] := by
  intro ra_3_1 aw_3_1 cw_3_1 b_7_1
  refine zN [] [(0, .e 1), (1, .w), (4, .w), (8, .w), (10, .w)] [23, 19, 3, 4, 16, 17, 20, 24, 26] [5, 9, 11] (.e b_3 .n) ⟨?_, ?_, ?_, trivial⟩
  ·refine zX .w (sN fun b_5_1 => (sV ?_))
   exact zW [23, 21, 19, 3, 4, 16, 17, 24, 26] [0, 1, 2, 3, 4, 5, 7, 6] (aS_163 ra_3_1 aw_3_1 cw_3_1 b_5_1 b_7_1)
  ·refine zX .w (sN fun b_9_1 => (sV ?_))
   exact zW [25, 23, 19, 3, 4, 16, 17, 20, 26] [0, 1, 2, 3, 4, 5, 6, 7] (aS_166 ra_3_1 aw_3_1 cw_3_1 b_7_1 b_9_1)
  ·refine zX .w (sN fun b_11_1 => (sV ?_))
   exact zW [27, 23, 19, 3, 4, 16, 17, 20, 24] [0, 1, 2, 3, 4, 5, 6, 7] (aS_167 ra_3_1 aw_3_1 cw_3_1 b_7_1 b_11_1)
 have aS_175 : ∀ (ra_3_1 : Nat) (aw_3_1 : Option Addr) (cw_3_1 : Nat) (b_9_1 : Nat), Lz Tryz.prog Tryz.f26 B26 35 F (RetR F (Ylaw17_begun c)) (regOps B26 [0, 1, 1, 1, 1]) [.c [1, 1, 1, 1, 1]] (mk 16 [0, 1, 2, 3, 4, 6, 8, 9, 10]) [0, 1, 4, 6, 10] [(25, vP b_9_1), (19, vP ra_3_1), (3, vP b_3), (4, vP ba_4), (16, cfgV c), (17, vP ba_4), (20, zK), (22, zK), (26, zK)] [.pts b_1 [vI q0, vI q1, vI q2] 22, Efdc04 b_3 c, E3504b ba_4 (mkAr c aw_5 cw_6), E35fb1 (mkAr c aw_5 cw_6), E99bbc ra_3_1 (rmAr c (rpackW c) aw_3_1 cw_3_1) false 0, E35fb1 (rmAr c (rpackW c) aw_3_1 cw_3_1), E0b46c b_9_1 0] := by
  intro ra_3_1 aw_3_1 cw_3_1 b_9_1
  refine zN [] [(0, .e 1), (1, .w), (4, .w), (6, .w), (10, .w)] [25, 19, 3, 4, 16, 17, 20, 22, 26] [5, 7, 11] (.e b_3 .n) ⟨?_, ?_, ?_, trivial⟩
  ·refine zX .w (sN fun b_5_1 => (sV ?_))
   exact zW [25, 21, 19, 3, 4, 16, 17, 22, 26] [0, 1, 2, 3, 4, 5, 7, 6] (aS_164 ra_3_1 aw_3_1 cw_3_1 b_5_1 b_9_1)
  ·refine zX .w (sN fun b_7_1 => (sV ?_))
   exact zW [25, 23, 19, 3, 4, 16, 17, 20, 26] [0, 1, 2, 3, 4, 5, 7, 6] (aS_166 ra_3_1 aw_3_1 cw_3_1 b_7_1 b_9_1)
  ·refine zX .w (sN fun b_11_1 => (sV ?_))
   exact zW [27, 25, 19, 3, 4, 16, 17, 20, 22] [0, 1, 2, 3, 4, 5, 6, 7] (aS_168 ra_3_1 aw_3_1 cw_3_1 b_9_1 b_11_1)
 have aS_176 : ∀ (ra_3_1 : Nat) (aw_3_1 : Option Addr) (cw_3_1 : Nat) (b_11_1 : Nat), Lz Tryz.prog Tryz.f26 B26 35 F (RetR F (Ylaw17_begun c)) (regOps B26 [0, 1, 1, 1, 1]) [.c [1, 1, 1, 1, 1]] (mk 16 [0, 1, 2, 3, 4, 6, 8, 10, 11]) [0, 1, 4, 6, 8] [(27, vP b_11_1), (19, vP ra_3_1), (3, vP b_3), (4, vP ba_4), (16, cfgV c), (17, vP ba_4), (20, zK), (22, zK), (24, zK)] [.pts b_1 [vI q0, vI q1, vI q2] 22, Efdc04 b_3 c, E3504b ba_4 (mkAr c aw_5 cw_6), E35fb1 (mkAr c aw_5 cw_6), E99bbc ra_3_1 (rmAr c (rpackW c) aw_3_1 cw_3_1) false 0, E35fb1 (rmAr c (rpackW c) aw_3_1 cw_3_1), E0b46c b_11_1 0] := by
  intro ra_3_1 aw_3_1 cw_3_1 b_11_1
  refine zN [] [(0, .e 1), (1, .w), (4, .w), (6, .w), (8, .w)] [27, 19, 3, 4, 16, 17, 20, 22, 24] [5, 7, 9] (.e b_3 .n) ⟨?_, ?_, ?_, trivial⟩
  ·refine zX .w (sN fun b_5_1 => (sV ?_))
   exact zW [27, 21, 19, 3, 4, 16, 17, 22, 24] [0, 1, 2, 3, 4, 5, 7, 6] (aS_165 ra_3_1 aw_3_1 cw_3_1 b_5_1 b_11_1)
  ·refine zX .w (sN fun b_7_1 => (sV ?_))
   exact zW [27, 23, 19, 3, 4, 16, 17, 20, 24] [0, 1, 2, 3, 4, 5, 7, 6] (aS_167 ra_3_1 aw_3_1 cw_3_1 b_7_1 b_11_1)
  ·refine zX .w (sN fun b_9_1 => (sV ?_))
   exact zW [27, 25, 19, 3, 4, 16, 17, 20, 22] [0, 1, 2, 3, 4, 5, 7, 6] (aS_168 ra_3_1 aw_3_1 cw_3_1 b_9_1 b_11_1)
 have aS_177 : ∀ (b_5_1 : Nat) (b_7_1 : Nat), Lz Tryz.prog Tryz.f26 B26 35 F (RetR F (Ylaw17_begun c)) (regOps B26 [0, 1, 1, 1, 1]) [.c [1, 1, 1, 1, 1]] (mk 16 [0, 1, 2, 4, 5, 6, 7, 8, 10]) [0, 1, 2, 8, 10] [(23, vP b_7_1), (21, vP b_5_1), (3, vP b_3), (4, vP ba_4), (16, cfgV c), (17, vP ba_4), (18, cfgV c), (24, zK), (26, zK)] [.pts b_1 [vI q0, vI q1, vI q2] 22, Efdc04 b_3 c, E3504b ba_4 (mkAr c aw_5 cw_6), E35fb1 (mkAr c aw_5 cw_6), E0b46c b_5_1 0, E0b46c b_7_1 0] := by
  intro b_5_1 b_7_1
  refine zN [] [(0, .e 1), (1, .w), (2, .e 1), (8, .w), (10, .w)] [23, 21, 3, 4, 16, 17, 18, 24, 26] [3, 9, 11] (.e b_3 (.e b_3 .n)) ⟨?_, ?_, ?_, trivial⟩
  ·refine zC (some 19) [] Tryz.call68 (ref_MakeX c hc) ?_
   rintro v post ⟨ra_3_1, aw_3_1, cw_3_1, rfl, rfl⟩
   exact zW [23, 21, 19, 3, 4, 16, 17, 24, 26] [0, 1, 2, 3, 6, 7, 4, 5] (aS_163 ra_3_1 aw_3_1 cw_3_1 b_5_1 b_7_1)
  ·refine zX .w (sN fun b_9_1 => (sV ?_))
   exact zW [25, 23, 21, 3, 4, 16, 17, 18, 26] [0, 1, 2, 3, 4, 5, 6] (aS_169 b_5_1 b_7_1 b_9_1)
  ·refine zX .w (sN fun b_11_1 => (sV ?_))
   exact zW [27, 23, 21, 3, 4, 16, 17, 18, 24] [0, 1, 2, 3, 4, 5, 6] (aS_170 b_5_1 b_7_1 b_11_1)
 have aS_178 : ∀ (b_5_1 : Nat) (b_9_1 : Nat), Lz Tryz.prog Tryz.f26 B26 35 F (RetR F (Ylaw17_begun c)) (regOps B26 [0, 1, 1, 1, 1]) [.c [1, 1, 1, 1, 1]] (mk 16 [0, 1, 2, 4, 5, 6, 8, 9, 10]) [0, 1, 2, 6, 10] [(25, vP b_9_1), (21, vP b_5_1), (3, vP b_3), (4, vP ba_4), (16, cfgV c), (17, vP ba_4), (18, cfgV c), (22, zK), (26, zK)] [.pts b_1 [vI q0, vI q1, vI q2] 22, Efdc04 b_3 c, E3504b ba_4 (mkAr c aw_5 cw_6), E35fb1 (mkAr c aw_5 cw_6), E0b46c b_5_1 0, E0b46c b_9_1 0] := by
  intro b_5_1 b_9_1
  refine zN [] [(0, .e 1), (1, .w), (2, .e 1), (6, .w), (10, .w)] [25, 21, 3, 4, 16, 17, 18, 22, 26] [3, 7, 11] (.e b_3 (.e b_3 .n)) ⟨?_, ?_, ?_, trivial⟩
  ·refine zC (some 19) [] Tryz.call68 (ref_MakeX c hc) ?_
   rintro v post ⟨ra_3_1, aw_3_1, cw_3_1, rfl, rfl⟩
   exact zW [25, 21, 19, 3, 4, 16, 17, 22, 26] [0, 1, 2, 3, 6, 7, 4, 5] (aS_164 ra_3_1 aw_3_1 cw_3_1 b_5_1 b_9_1)
  ·refine zX .w (sN fun b_7_1 => (sV ?_))
   exact zW [25, 23, 21, 3, 4, 16, 17, 18, 26] [0, 1, 2, 3, 4, 6, 5] (aS_169 b_5_1 b_7_1 b_9_1)
  ·refine zX .w (sN fun b_11_1 => (sV ?_))
   exact zW [27, 25, 21, 3, 4, 16, 17, 18, 22] [0, 1, 2, 3, 4, 5, 6] (aS_171 b_5_1 b_9_1 b_11_1)
 have aS_179 : ∀ (b_5_1 : Nat) (b_11_1 : Nat), Lz Tryz.prog Tryz.f26 B26 35 F (RetR F (Ylaw17_begun c)) (regOps B26 [0, 1, 1, 1, 1]) [.c [1, 1, 1, 1, 1]] (mk 16 [0, 1, 2, 4, 5, 6, 8, 10, 11]) [0, 1, 2, 6, 8] [(27, vP b_11_1), (21, vP b_5_1), (3, vP b_3), (4, vP ba_4), (16, cfgV c), (17, vP ba_4), (18, cfgV c), (22, zK), (24, zK)] [.pts b_1 [vI q0, vI q1, vI q2] 22, Efdc04 b_3 c, E3504b ba_4 (mkAr c aw_5 cw_6), E35fb1 (mkAr c aw_5 cw_6), E0b46c b_5_1 0, E0b46c b_11_1 0] := by
  intro b_5_1 b_11_1
  refine zN [] [(0, .e 1), (1, .w), (2, .e 1), (6, .w), (8, .w)] [27, 21, 3, 4, 16, 17, 18, 22, 24] [3, 7, 9] (.e b_3 (.e b_3 .n)) ⟨?_, ?_, ?_, trivial⟩
  ·refine zC (some 19) [] Tryz.call68 (ref_MakeX c hc) ?_
   rintro v post ⟨ra_3_1, aw_3_1, cw_3_1, rfl, rfl⟩
   exact zW [27, 21, 19, 3, 4, 16, 17, 22, 24] [0, 1, 2, 3, 6, 7, 4, 5] (aS_165 ra_3_1 aw_3_1 cw_3_1 b_5_1 b_11_1)
  ·refine zX .w (sN fun b_7_1 => (sV ?_))
   exact zW [27, 23, 21, 3, 4, 16, 17, 18, 24] [0, 1, 2, 3, 4, 6, 5] (aS_170 b_5_1 b_7_1 b_11_1)
  ·refine zX .w (sN fun b_9_1 => (sV ?_))
   exact zW [27, 25, 21, 3, 4, 16, 17, 18, 22] [0, 1, 2, 3, 4, 6, 5] (aS_171 b_5_1 b_9_1 b_11_1)
 have aS_180 : ∀ (b_7_1 : Nat) (b_9_1 : Nat), Lz Tryz.prog Tryz.f26 B26 35 F (RetR F (Ylaw17_begun c)) (regOps B26 [0, 1, 1, 1, 1]) [.c [1, 1, 1, 1, 1]] (mk 16 [0, 1, 2, 4, 6, 7, 8, 9, 10]) [0, 1, 2, 4, 10] [(25, vP b_9_1), (23, vP b_7_1), (3, vP b_3), (4, vP ba_4), (16, cfgV c), (17, vP ba_4), (18, cfgV c), (20, zK), (26, zK)] [.pts b_1 [vI q0, vI q1, vI q2] 22, Efdc04 b_3 c, E3504b ba_4 (mkAr c aw_5 cw_6), E35fb1 (mkAr c aw_5 cw_6), E0b46c b_7_1 0, E0b46c b_9_1 0] := by
  intro b_7_1 b_9_1
  refine zN [] [(0, .e 1), (1, .w), (2, .e 1), (4, .w), (10, .w)] [25, 23, 3, 4, 16, 17, 18, 20, 26] [3, 5, 11] (.e b_3 (.e b_3 .n)) ⟨?_, ?_, ?_, trivial⟩
  ·refine zC (some 19) [] Tryz.call68 (ref_MakeX c hc) ?_
   rintro v post ⟨ra_3_1, aw_3_1, cw_3_1, rfl, rfl⟩
   exact zW [25, 23, 19, 3, 4, 16, 17, 20, 26] [0, 1, 2, 3, 6, 7, 4, 5] (aS_166 ra_3_1 aw_3_1 cw_3_1 b_7_1 b_9_1)
  ·refine zX .w (sN fun b_5_1 => (sV ?_))
   exact zW [25, 23, 21, 3, 4, 16, 17, 18, 26] [0, 1, 2, 3, 6, 4, 5] (aS_169 b_5_1 b_7_1 b_9_1)
  ·refine zX .w (sN fun b_11_1 => (sV ?_))
   exact zW [27, 25, 23, 3, 4, 16, 17, 18, 20] [0, 1, 2, 3, 4, 5, 6] (aS_172 b_7_1 b_9_1 b_11_1)
 have aS_181 : ∀ (b_7_1 : Nat) (b_11_1 : Nat), Lz Tryz.prog Tryz.f26 B26 35 F (RetR F (Ylaw17_begun c)) (regOps B26 [0, 1, 1, 1, 1]) [.c [1, 1, 1, 1, 1]] (mk 16 [0, 1, 2, 4, 6, 7, 8, 10, 11]) [0, 1, 2, 4, 8] [(27, vP b_11_1), (23, vP b_7_1), (3, vP b_3), (4, vP ba_4), (16, cfgV c), (17, vP ba_4), (18, cfgV c), (20, zK), (24, zK)] [.pts b_1 [vI q0, vI q1, vI q2] 22, Efdc04 b_3 c, E3504b ba_4 (mkAr c aw_5 cw_6), E35fb1 (mkAr c aw_5 cw_6), E0b46c b_7_1 0, E0b46c b_11_1 0] := by
  intro b_7_1 b_11_1
  refine zN [] [(0, .e 1), (1, .w), (2, .e 1), (4, .w), (8, .w)] [27, 23, 3, 4, 16, 17, 18, 20, 24] [3, 5, 9] (.e b_3 (.e b_3 .n)) ⟨?_, ?_, ?_, trivial⟩
  ·refine zC (some 19) [] Tryz.call68 (ref_MakeX c hc) ?_
   rintro v post ⟨ra_3_1, aw_3_1, cw_3_1, rfl, rfl⟩
   exact zW [27, 23, 19, 3, 4, 16, 17, 20, 24] [0, 1, 2, 3, 6, 7, 4, 5] (aS_167 ra_3_1 aw_3_1 cw_3_1 b_7_1 b_11_1)
  ·refine zX .w (sN fun b_5_1 => (sV ?_))
   exact zW [27, 23, 21, 3, 4, 16, 17, 18, 24] [0, 1, 2, 3, 6, 4, 5] (aS_170 b_5_1 b_7_1 b_11_1)
  ·refine zX .w (sN fun b_9_1 => (sV ?_))
   exact zW [27, 25, 23, 3, 4, 16, 17, 18, 20] [0, 1, 2, 3, 4, 6, 5] (aS_172 b_7_1 b_9_1 b_11_1)
 have aS_182 : ∀ (b_9_1 : Nat) (b_11_1 : Nat), Lz Tryz.prog Tryz.f26 B26 35 F (RetR F (Ylaw17_begun c)) (regOps B26 [0, 1, 1, 1, 1]) [.c [1, 1, 1, 1, 1]] (mk 16 [0, 1, 2, 4, 6, 8, 9, 10, 11]) [0, 1, 2, 4, 6] [(27, vP b_11_1), (25, vP b_9_1), (3, vP b_3), (4, vP ba_4), (16, cfgV c), (17, vP ba_4), (18, cfgV c), (20, zK), (22, zK)] [.pts b_1 [vI q0, vI q1, vI q2] 22, Efdc04 b_3 c, E3504b ba_4 (mkAr c aw_5 cw_6), E35fb1 (mkAr c aw_5 cw_6), E0b46c b_9_1 0, E0b46c b_11_1 0] := by
  intro b_9_1 b_11_1
  refine zN [] [(0, .e 1), (1, .w), (2, .e 1), (4, .w), (6, .w)] [27, 25, 3, 4, 16, 17, 18, 20, 22] [3, 5, 7] (.e b_3 (.e b_3 .n)) ⟨?_, ?_, ?_, trivial⟩
  ·refine zC (some 19) [] Tryz.call68 (ref_MakeX c hc) ?_
   rintro v post ⟨ra_3_1, aw_3_1, cw_3_1, rfl, rfl⟩
   exact zW [27, 25, 19, 3, 4, 16, 17, 20, 22] [0, 1, 2, 3, 6, 7, 4, 5] (aS_168 ra_3_1 aw_3_1 cw_3_1 b_9_1 b_11_1)
  ·refine zX .w (sN fun b_5_1 => (sV ?_))
   exact zW [27, 25, 21, 3, 4, 16, 17, 18, 22] [0, 1, 2, 3, 6, 4, 5] (aS_171 b_5_1 b_9_1 b_11_1)
  ·refine zX .w (sN fun b_7_1 => (sV ?_))
   exact zW [27, 25, 23, 3, 4, 16, 17, 18, 20] [0, 1, 2, 3, 6, 4, 5] (aS_172 b_7_1 b_9_1 b_11_1)
 have aS_183 : ∀ (ra_3_1 : Nat) (aw_3_1 : Option Addr) (cw_3_1 : Nat), Lz Tryz.prog Tryz.f26 B26 35 F (RetR F (Ylaw17_begun c)) (regOps B26 [0, 1, 1, 1, 1]) [.c [1, 1, 1, 1, 1]] (mk 16 [0, 1, 2, 3, 4, 6, 8, 10]) [0, 1, 4, 6, 8, 10] [(19, vP ra_3_1), (3, vP b_3), (4, vP ba_4), (16, cfgV c), (17, vP ba_4), (20, zK), (22, zK), (24, zK), (26, zK)] [.pts b_1 [vI q0, vI q1, vI q2] 22, Efdc04 b_3 c, E3504b ba_4 (mkAr c aw_5 cw_6), E35fb1 (mkAr c aw_5 cw_6), E99bbc ra_3_1 (rmAr c (rpackW c) aw_3_1 cw_3_1) false 0, E35fb1 (rmAr c (rpackW c) aw_3_1 cw_3_1)] := by
  intro ra_3_1 aw_3_1 cw_3_1
  refine zN [] [(0, .e 1), (1, .w), (4, .w), (6, .w), (8, .w), (10, .w)] [19, 3, 4, 16, 17, 20, 22, 24, 26] [5, 7, 9, 11] (.e b_3 .n) ⟨?_, ?_, ?_, ?_, trivial⟩
  ·refine zX .w (sN fun b_5_1 => (sV ?_))
   exact zW [21, 19, 3, 4, 16, 17, 22, 24, 26] [0, 1, 2, 3, 4, 5, 6] (aS_173 ra_3_1 aw_3_1 cw_3_1 b_5_1)
  ·refine zX .w (sN fun b_7_1 => (sV ?_))
   exact zW [23, 19, 3, 4, 16, 17, 20, 24, 26] [0, 1, 2, 3, 4, 5, 6] (aS_174 ra_3_1 aw_3_1 cw_3_1 b_7_1)
  ·refine zX .w (sN fun b_9_1 => (sV ?_))
   exact zW [25, 19, 3, 4, 16, 17, 20, 22, 26] [0, 1, 2, 3, 4, 5, 6] (aS_175 ra_3_1 aw_3_1 cw_3_1 b_9_1)
  ·refine zX .w (sN fun b_11_1 => (sV ?_))
   exact zW [27, 19, 3, 4, 16, 17, 20, 22, 24] [0, 1, 2, 3, 4, 5, 6] (aS_176 ra_3_1 aw_3_1 cw_3_1 b_11_1)
 have aS_184 : ∀ (b_5_1 : Nat), Lz Tryz.prog Tryz.f26 B26 35 F (RetR F (Ylaw17_begun c)) (regOps B26 [0, 1, 1, 1, 1]) [.c [1, 1, 1, 1, 1]] (mk 16 [0, 1, 2, 4, 5, 6, 8, 10]) [0, 1, 2, 6, 8, 10] [(21, vP b_5_1), (3, vP b_3), (4, vP ba_4), (16, cfgV c), (17, vP ba_4), (18, cfgV c), (22, zK), (24, zK), (26, zK)] [.pts b_1 [vI q0, vI q1, vI q2] 22, Efdc04 b_3 c, E3504b ba_4 (mkAr c aw_5 cw_6), E35fb1 (mkAr c aw_5 cw_6), E0b46c b_5_1 0] := by
  intro b_5_1
  refine zN [] [(0, .e 1), (1, .w), (2, .e 1), (6, .w), (8, .w), (10, .w)] [21, 3, 4, 16, 17, 18, 22, 24, 26] [3, 7, 9, 11] (.e b_3 (.e b_3 .n)) ⟨?_, ?_, ?_, ?_, trivial⟩
  ·refine zC (some 19) [] Tryz.call68 (ref_MakeX c hc) ?_
   rintro v post ⟨ra_3_1, aw_3_1, cw_3_1, rfl, rfl⟩
   exact zW [21, 19, 3, 4, 16, 17, 22, 24, 26] [0, 1, 2, 3, 5, 6, 4] (aS_173 ra_3_1 aw_3_1 cw_3_1 b_5_1)
  ·refine zX .w (sN fun b_7_1 => (sV ?_))
   exact zW [23, 21, 3, 4, 16, 17, 18, 24, 26] [0, 1, 2, 3, 4, 5] (aS_177 b_5_1 b_7_1)
  ·refine zX .w (sN fun b_9_1 => (sV ?_))
   exact zW [25, 21, 3, 4, 16, 17, 18, 22, 26] [0, 1, 2, 3, 4, 5] (aS_178 b_5_1 b_9_1)
  ·refine zX .w (sN fun b_11_1 => (sV ?_))
   exact zW [27, 21, 3, 4, 16, 17, 18, 22, 24] [0, 1, 2, 3, 4, 5] (aS_179 b_5_1 b_11_1)
 have aS_185 : ∀ (b_7_1 : Nat), Lz Tryz.prog Tryz.f26 B26 35 F (RetR F (Ylaw17_begun c)) (regOps B26 [0, 1, 1, 1, 1]) [.c [1, 1, 1, 1, 1]] (mk 16 [0, 1, 2, 4, 6, 7, 8, 10]) [0, 1, 2, 4, 8, 10] [(23, vP b_7_1), (3, vP b_3), (4, vP ba_4), (16, cfgV c), (17, vP ba_4), (18, cfgV c), (20, zK), (24, zK), (26, zK)] [.pts b_1 [vI q0, vI q1, vI q2] 22, Efdc04 b_3 c, E3504b ba_4 (mkAr c aw_5 cw_6), E35fb1 (mkAr c aw_5 cw_6), E0b46c b_7_1 0] := by
  intro b_7_1
  refine zN [] [(0, .e 1), (1, .w), (2, .e 1), (4, .w), (8, .w), (10, .w)] [23, 3, 4, 16, 17, 18, 20, 24, 26] [3, 5, 9, 11] (.e b_3 (.e b_3 .n)) ⟨?_, ?_, ?_, ?_, trivial⟩
  ·refine zC (some 19) [] Tryz.call68 (ref_MakeX c hc) ?_
   rintro v post ⟨ra_3_1, aw_3_1, cw_3_1, rfl, rfl⟩
   exact zW [23, 19, 3, 4, 16, 17, 20, 24, 26] [0, 1, 2, 3, 5, 6, 4] (aS_174 ra_3_1 aw_3_1 cw_3_1 b_7_1)
  ·refine zX .w (sN fun b_5_1 => (sV ?_))
   exact zW [23, 21, 3, 4, 16, 17, 18, 24, 26] [0, 1, 2, 3, 5, 4] (aS_177 b_5_1 b_7_1)
  ·refine zX .w (sN fun b_9_1 => (sV ?_))
   exact zW [25, 23, 3, 4, 16, 17, 18, 20, 26] [0, 1, 2, 3, 4, 5] (aS_180 b_7_1 b_9_1)
  ·refine zX .w (sN fun b_11_1 => (sV ?_))
   exact zW [27, 23, 3, 4, 16, 17, 18, 20, 24] [0, 1, 2, 3, 4, 5] (aS_181 b_7_1 b_11_1)
 have aS_186 : ∀ (b_9_1 : Nat), Lz Tryz.prog Tryz.f26 B26 35 F (RetR F (Ylaw17_begun c)) (regOps B26 [0, 1, 1, 1, 1]) [.c [1, 1, 1, 1, 1]] (mk 16 [0, 1, 2, 4, 6, 8, 9, 10]) [0, 1, 2, 4, 6, 10] [(25, vP b_9_1), (3, vP b_3), (4, vP ba_4), (16, cfgV c), (17, vP ba_4), (18, cfgV c), (20, zK), (22, zK), (26, zK)] [.pts b_1 [vI q0, vI q1, vI q2] 22, Efdc04 b_3 c, E3504b ba_4 (mkAr c aw_5 cw_6), E35fb1 (mkAr c aw_5 cw_6), E0b46c b_9_1 0] := by
  intro b_9_1
  refine zN [] [(0, .e 1), (1, .w), (2, .e 1), (4, .w), (6, .w), (10, .w)] [25, 3, 4, 16, 17, 18, 20, 22, 26] [3, 5, 7, 11] (.e b_3 (.e b_3 .n)) ⟨?_, ?_, ?_, ?_, trivial⟩
  ·refine zC (some 19) [] Tryz.call68 (ref_MakeX c hc) ?_
   rintro v post ⟨ra_3_1, aw_3_1, cw_3_1, rfl, rfl⟩
   exact zW [25, 19, 3, 4, 16, 17, 20, 22, 26] [0, 1, 2, 3, 5, 6, 4] (aS_175 ra_3_1 aw_3_1 cw_3_1 b_9_1)
  ·refine zX .w (sN fun b_5_1 => (sV ?_))
   exact zW [25, 21, 3, 4, 16, 17, 18, 22, 26] [0, 1, 2, 3, 5, 4] (aS_178 b_5_1 b_9_1)
  ·refine zX .w (sN fun b_7_1 => (sV ?_))
   exact zW [25, 23, 3, 4, 16, 17, 18, 20, 26] [0, 1, 2, 3, 5, 4] (aS_180 b_7_1 b_9_1)
  ·refine zX .w (sN fun b_11_1 => (sV ?_))
   exact zW [27, 25, 3, 4, 16, 17, 18, 20, 22] [0, 1, 2, 3, 4, 5] (aS_182 b_9_1 b_11_1)
 have aS_187 : ∀ (b_11_1 : Nat), Lz Tryz.prog Tryz.f26 B26 35 F (RetR F (Ylaw17_begun c)) (regOps B26 [0, 1, 1, 1, 1]) [.c [1, 1, 1, 1, 1]] (mk 16 [0, 1, 2, 4, 6, 8, 10, 11]) [0, 1, 2, 4, 6, 8] [(27, vP b_11_1), (3, vP b_3), (4, vP ba_4), (16, cfgV c), (17, vP ba_4), (18, cfgV c), (20, zK), (22, zK), (24, zK)] [.pts b_1 [vI q0, vI q1, vI q2] 22, Efdc04 b_3 c, E3504b ba_4 (mkAr c aw_5 cw_6), E35fb1 (mkAr c aw_5 cw_6), E0b46c b_11_1 0] := by
  intro b_11_1
  refine zN [] [(0, .e 1), (1, .w), (2, .e 1), (4, .w), (6, .w), (8, .w)] [27, 3, 4, 16, 17, 18, 20, 22, 24] [3, 5, 7, 9] (.e b_3 (.e b_3 .n)) ⟨?_, ?_, ?_, ?_, trivial⟩
  ·refine zC (some 19) [] Tryz.call68 (ref_MakeX c hc) ?_
   rintro v post ⟨ra_3_1, aw_3_1, cw_3_1, rfl, rfl⟩
   exact zW [27, 19, 3, 4, 16, 17, 20, 22, 24] [0, 1, 2, 3, 5, 6, 4] (aS_176 ra_3_1 aw_3_1 cw_3_1 b_11_1)
  ·refine zX .w (sN fun b_5_1 => (sV ?_))
   exact zW [27, 21, 3, 4, 16, 17, 18, 22, 24] [0, 1, 2, 3, 5, 4] (aS_179 b_5_1 b_11_1)
  ·refine zX .w (sN fun b_7_1 => (sV ?_))
   exact zW [27, 23, 3, 4, 16, 17, 18, 20, 24] [0, 1, 2, 3, 5, 4] (aS_181 b_7_1 b_11_1)
  ·refine zX .w (sN fun b_9_1 => (sV ?_))
   exact zW [27, 25, 3, 4, 16, 17, 18, 20, 22] [0, 1, 2, 3, 5, 4] (aS_182 b_9_1 b_11_1)
 refine zN [0, 1, 2, 4, 6, 8, 10] [(0, .e 1), (1, .w), (2, .e 1), (4, .w), (6, .w), (8, .w), (10, .w)] [3, 4, 16, 17, 18, 20, 22, 24, 26] [3, 5, 7, 9, 11] (.e b_3 (.e b_3 .n)) ⟨?_, ?_, ?_, ?_, ?_, trivial⟩
 ·refine zC (some 19) [] Tryz.call68 (ref_MakeX c hc) ?_
  rintro v post ⟨ra_3_1, aw_3_1, cw_3_1, rfl, rfl⟩
  exact zW [19, 3, 4, 16, 17, 20, 22, 24, 26] [0, 1, 2, 3, 4, 5] (aS_183 ra_3_1 aw_3_1 cw_3_1)
 ·refine zX .w (sN fun b_5_1 => (sV ?_))
  exact zW [21, 3, 4, 16, 17, 18, 22, 24, 26] [0, 1, 2, 3, 4] (aS_184 b_5_1)
 ·refine zX .w (sN fun b_7_1 => (sV ?_))
  exact zW [23, 3, 4, 16, 17, 18, 20, 24, 26] [0, 1, 2, 3, 4] (aS_185 b_7_1)
 ·refine zX .w (sN fun b_9_1 => (sV ?_))
  exact zW [25, 3, 4, 16, 17, 18, 20, 22, 26] [0, 1, 2, 3, 4] (aS_186 b_9_1)
 ·refine zX .w (sN fun b_11_1 => (sV ?_))
  exact zW [27, 3, 4, 16, 17, 18, 20, 22, 24] [0, 1, 2, 3, 4] (aS_187 b_11_1)
end Go.Proofs.YtpcaijopodhdgaaGreatDoor
namespace Go.Proofs.YtpcaijopodhdgaaGreatDoor
open Go.Sx
theorem W_who (c : Cfg) (x ba rb : Nat) (ka ma : Option Addr) (kc mc : Nat) (ps : List Nat) (W : Wd) (B : Ar) (wh n_ : Int) (hc : c.Ok) (hZ : ∃ k, Sy c W B k ∧ k ≤ 90000) (hps : ps.length = 4) :
  Ctr Tryz.prog 27 #[vP x, .agg #[vI wh, vI n_]] [Ed2706 x c (vP ba) (vP rb) ka ps.length kc ma W.many.length mc W.now, .sl ka kc encP 0 1 ps 68, E3504b ba W.A, E35fb1 W.A, E99bbc rb B false 0, E35fb1 B, .res (KsR ps W.ks c)] (Ret (vI (W.at_ c wh n_)) [Ed2706 x c (vP ba) (vP rb) ka ps.length kc ma ((W.who c wh n_).many.length) mc ((W.who c wh n_).now), .sl ka kc encP 0 1 ps 68, E3504b ba ((W.who c wh n_).A), E35fb1 ((W.who c wh n_).A), E99bbc rb (W.whoB c B wh n_) false 0, E35fb1 (W.whoB c B wh n_), .res (KsR ps ((W.who c wh n_).ks) c)]) := by
 obtain ⟨k, hZ, hk⟩ := hZ
 have h0 := hZ.k0
 have h1 := hZ.bs
 have h2 := hZ.arw.2.2.2
 have hg : (W.ks.getD 0 dK).ret.length ≤ 24 := (hZ.good hc (i := 0) (by omega)).2
 have h := w_who c x ba rb W.now ka ma kc mc ps W.many W.A B wh n_ W.ks hc hZ.bl hZ.bz hZ.arw.1 hZ.arw.2.1 (by omega) (by omega) (by rw [hZ.word]; exact hZ.arw.2.2.1 _) hps hZ.len (by omega)
 rw [hZ.word] at h
 exact h
theorem W_begin (c : Cfg) (x ba rb : Nat) (ka ma : Option Addr) (kc mc : Nat) (ps : List Nat) (W : Wd) (B : Ar) (i n_ : Int) (hc : C17 c) (hZ : ∃ k, Sy c W B k ∧ k ≤ 1900) (hi : 0 ≤ i ∧ i < 4) (hps : ps.length = 4) :
  Ctr Tryz.prog 28 #[vP x, vI i, vI n_] [Ed2706 x c (vP ba) (vP rb) ka ps.length kc ma W.many.length mc W.now, .sl ka kc encP 0 1 ps 68, Ee1326 ma mc W.many, E99bbc rb B false 0, E35fb1 B, .res (KsR ps W.ks c)] (fun v L => ∃ (ma2 : Option Addr) (mc2 : Nat), v = undef ∧ L = [Ed2706 x c (vP ba) (vP rb) ka ps.length kc ma2 ((W.begin c i n_).many.length) mc2 ((W.begin c i n_).now), .sl ka kc encP 0 1 ps 68, Ee1326 ma2 mc2 ((W.begin c i n_).many), E99bbc rb B false 0, E35fb1 B, .res (KsR ps ((W.begin c i n_).ks) c)]) := by
 obtain ⟨k, hZ, hk⟩ := hZ
 have h0 := hZ.k0
 have hm := hZ.many
 have hg := hZ.good hc.ok hi
 have h := w_begin c x ba rb W.now ka ma kc mc ps W.many B i n_ W.ks hi hps hc.ok hZ.bl hZ.bz (by rw [hZ.word]; exact hZ.arw.2.2.1 _) (by omega) ⟨hc.cl, hc.s0, hc.s1⟩ hZ.len ⟨hg.1, by have : (W.ks.getD i.toNat dK).ret.length ≤ 24 := hg.2; omega⟩
 rw [hZ.word] at h
 exact h
theorem W_step (o_ : Obj) (c : Cfg) (x ba rb : Nat) (ka ma : Option Addr) (kc mc : Nat) (ps : List Nat) (W : Wd) (i : Int) (ho : IsH o_) (hc : c.Ok) (hO : ∃ l k, Own c W l k ∧ k ≤ 90000) (hi : 0 ≤ i ∧ i < 4) (hps : ps.length = 4) :
  Ctr Tryz.prog 29 #[vP x, vI i] [.raw 0 o_, Ed2706 x c (vP ba) (vP rb) ka ps.length kc ma W.many.length mc W.now, .sl ka kc encP 0 1 ps 68, E3504b ba W.A, E35fb1 W.A, .res (KsR ps W.ks c)] (fun v L => ∃ (a2 : Option Addr) (c2 : Nat), v = .tuple #[.slice a2 ((W.told c i).l.length) c2, vI ((W.told c i).e), .bool ((W.told c i).done)] ∧ L = [.raw 0 o_, Ed2706 x c (vP ba) (vP rb) ka ps.length kc ma ((W.step c i).many.length) mc ((W.step c i).now), .sl ka kc encP 0 1 ps 68, E3504b ba ((W.step c i).A), E35fb1 ((W.step c i).A), .res (KsR ps ((W.step c i).ks) c), E54ea0 a2 c2 ((W.told c i).l)]) := by
 obtain ⟨l, k, hO, hk⟩ := hO
 have hs := hO.arw.2.2.2
 exact w_step o_ c x ba rb W.now ka ma kc mc ps W.many W.A i W.ks ho hc hO.arw.1 (by omega) hO.arw.2.1 hO.arw.2.2.1 hi hps hO.len (hO.kok hc hi)
end Go.Proofs.YtpcaijopodhdgaaGreatDoor
namespace Go.Proofs.YtpcaijopodhdgaaGreatDoor
open Go.Sx
abbrev q92_0 : List Nat := [0, 1, 0, 1, 1, 1, 1]
abbrev q92_1 : List Nat := [0, 0, 0, 1, 0, 0, 1, 0, 1, 1, 1, 1]
abbrev q92_2 : List Nat := [0, 1, 1, 1, 1, 1, 1]
abbrev q92_3 : List Nat := [1, 0, 0, 1, 0, 0, 1, 0, 1, 1, 1, 1]
abbrev q92_4 : List Nat := [1, 1, 0, 0, 1, 0, 1, 1, 1, 1]
abbrev q92_5 : List Nat := [0, 0, 1, 1, 0, 0, 1, 0, 0, 1, 0, 1, 1, 1, 1]
abbrev q92_6 : List Nat := [1, 0, 1, 1, 0, 0, 1, 0, 0, 1, 0, 1, 1, 1, 1]
abbrev q92_7 : List Nat := [0, 1, 0, 1, 1, 0, 0, 1, 0, 0, 1, 0, 1, 1, 1, 1]
abbrev q92_8 : List Nat := [1, 1, 0, 1, 1, 0, 0, 1, 0, 0, 1, 0, 1, 1, 1, 1]
abbrev q92_9 : List Nat := [1, 1, 1, 1, 1, 1, 1]
abbrev q92_10 : List Nat := [0, 0, 1, 1, 1, 1, 1, 1, 1, 1, 1]
abbrev q92_11 : List Nat := [1, 0, 1, 1, 1, 1, 1, 1, 1, 1, 1]
abbrev q92_12 : List Nat := [1, 1, 1, 1, 1, 1, 1, 1, 1, 1]
abbrev q92_13 : List Nat := [0, 0, 1, 1, 1, 1, 1, 1, 1, 1, 1, 1, 1, 1]
abbrev q92_14 : List Nat := [1, 0, 1, 1, 1, 1, 1, 1, 1, 1, 1, 1, 1, 1]
abbrev q92_15 : List Nat := [1, 1, 1, 1, 1, 1, 1, 1, 1, 1, 1, 1, 1]
abbrev q92_16 : List Nat := [0, 1, 0, 1, 1, 1, 1, 1, 1, 1, 1, 1, 1, 1, 1]
abbrev q92_17 : List Nat := [0, 0, 0, 1, 0, 0, 1, 0, 1, 1, 1, 1, 1, 1, 1, 1, 1, 1, 1, 1]
abbrev q92_18 : List Nat := [1, 0, 0, 1, 0, 0, 1, 0, 1, 1, 1, 1, 1, 1, 1, 1, 1, 1, 1, 1]
abbrev q92_19 : List Nat := [1, 1, 0, 0, 1, 0, 1, 1, 1, 1, 1, 1, 1, 1, 1, 1, 1, 1]
abbrev q92_20 : List Nat := [0, 1, 0, 1, 1, 1, 1, 1, 1, 1, 1, 1, 1, 1]
abbrev q92_21 : List Nat := [1, 1, 1, 1, 1, 1, 1, 1, 1, 1, 1, 1]
noncomputable def B31 : Code := (Tryz.f31.body).getD .skip
theorem ref15_Bound (c : Cfg) (n : Int) (hc : c.Ok) (hn : 0 ≤ n ∧ n ≤ 1000) :
  Ctr Tryz.prog 31 #[cfgV c, vI n] [] (Ret (vI (c.slots + 3 * n + 3)) []) := by
 refine cB B31 18 Tryz.func31 ?_
 intro F
 refine gX [.e 0, .z [0, 1] 1 [1, 2, 6]] (gN fun b_1 => gQ b_1 (gS [.o [0, 1] 1, .c [1, 1]] ?_))
 refine gC (some 7) [] Tryz.call67 (ref_right c oM) ?_
 exact gX [.sp [11] [.dead] [.e 0, .n, .n, .n]] (gF (decide (n < 0)) (decide_eq_false (by omega)) (gQ b_1 (gO (InK .i64 (3 * n)) (by simp only [Cfg.Ok, InK] at *; omega) (gO (InK .i64 (c.slots + (3 * n))) (by simp only [Cfg.Ok, InK] at *; omega) (gO (InK .i64 ((c.slots + (3 * n)) + 3)) (by simp only [Cfg.Ok, InK] at *; omega) (gI (vI ((c.slots + (3 * n)) + 3)) [] ⟨(congrArg (Value.int .i64) (by omega)), rfl⟩))))))
noncomputable def B4 : Code := (Tryz.f4.body).getD .skip
set_option maxHeartbeats 4000000 in
theorem law_lalone (o_ : Obj) (q0 q1 q2 : Int) (a : Option Addr) (c0 : Nat) (xs : List LAct) (bt : TypeId) (r : Sx.Rest) (q2_ : Int) (ho : IsH o_) :
  Ctr Tryz.prog 4 #[.agg #[vI q0, vI q1, vI q2], .slice a xs.length c0, vI q2_] [.raw 0 o_, .rd a c0 encLAct dLAct 2 xs bt r] (Ret (.bool true) [.raw 0 o_, .rd a c0 encLAct dLAct 2 xs bt r]) := by
 refine cB B4 129 Tryz.func4 ?_
 intro F
 obtain ⟨c, hq⟩ : ∃ c, c = cfgL q0 q1 q2 := ⟨_, rfl⟩
 have hC : C17 c := by rw [hq]; exact c17 q0 q1 q2
 have hc := hC.ok
 refine gX [.z [0, 1] 0 [1, 2, 3]] (gN fun b_1 => gW (ks := [.o [0, 1] 0, .c [1, 1]]) [(1, .slice a xs.length c0), (2, vI q2_), (3, vP b_1)] [.raw 0 o_, .rd a c0 encLAct dLAct 2 xs bt r, .pts b_1 [vI q0, vI q1, vI q2] 22] ?_)
 refine gC (some 18) [0] Tryz.call14 (law17_awake o_ ho) ?_
 refine gX [.e 1, .z [0, 1, 1] 1 [1, 2, 7, 19]] (gQ b_1 (gS [.o [0, 1, 1] 1, .c [1, 1, 1]] ?_))
 refine go_call (some 20) [] Tryz.call26 (law17_begun c q0 q1 q2 hq) kR ?_
 rintro v post ⟨x_2, ba_3, rb_4, ka_5, kc_6, ps_7, aw_8, cw_9, aw2_10, cw2_11, rfl, rfl, hf_12⟩
 refine gX [.z q92_0 0 [1, 2, 7, 8, 9]] (gW (ks := [.c q92_0, .b 0, .c [1, 1, 1, 1, 1]]) [(1, .slice a xs.length c0), (2, vI q2_), (7, .bool true), (8, vP x_2), (9, vI 0)] [.rd a c0 encLAct dLAct 2 xs bt r, .pts b_1 [vI q0, vI q1, vI q2] 22, .raw 0 o_, Ed2706 x_2 c (vP ba_3) (vP rb_4) ka_5 ps_7.length kc_6 none 0 0 0, .sl ka_5 kc_6 encP 0 1 ps_7 68, Ee1326 none 0 ([] : List Int), E3504b ba_3 ((mkAr c aw_8 cw_9).store (ctlAt c 0) (bornW 0)), E35fb1 ((mkAr c aw_8 cw_9).store (ctlAt c 0) (bornW 0)), E99bbc rb_4 ((rmAr c (rpackW c) aw2_10 cw2_11).store (ctlAt c 0) (bornW 0)) false 0, E35fb1 ((rmAr c (rpackW c) aw2_10 cw2_11).store (ctlAt c 0) (bornW 0)), .res (KsR ps_7 four c)] ?_)
 have hps : ps_7.length = 4 := hf_12
 have hp00 : LtOk c (⟨0, ⟨((mkAr c aw_8 cw_9).store (ctlAt c 0) (bornW 0)), four, [], 0⟩, ((rmAr c (rpackW c) aw2_10 cw2_11).store (ctlAt c 0) (bornW 0)), none, 0⟩ : Lt) := by rw [hq]; exact ⟨sy_first, Int.le_refl 0⟩
 refine go_loop (ι := Lt) (fun p => [(1, .slice a xs.length c0), (2, vI q2_), (7, .bool true), (8, vP x_2), (9, vI p.i)]) (fun p => [.raw 0 o_, .pts b_1 [vI q0, vI q1, vI q2] 22, Ed2706 x_2 c (vP ba_3) (vP rb_4) ka_5 ps_7.length kc_6 p.ma p.W.many.length p.mc p.W.now, .sl ka_5 kc_6 encP 0 1 ps_7 68, Ee1326 p.ma p.mc p.W.many, E3504b ba_3 p.W.A, E35fb1 p.W.A, E99bbc rb_4 p.B false 0, E35fb1 p.B, .res (KsR ps_7 p.W.ks c), .rd a c0 encLAct dLAct 2 xs bt r]) (fun p => LtOk c p ∧ p.i ≤ 120) (fun p => ((xs.length : Int) - p.i).toNat) (⟨0, ⟨((mkAr c aw_8 cw_9).store (ctlAt c 0) (bornW 0)), four, [], 0⟩, ((rmAr c (rpackW c) aw2_10 cw2_11).store (ctlAt c 0) (bornW 0)), none, 0⟩ : Lt) [1, 2, 7, 8, 9] [2, 1, 3, 4, 5, 6, 7, 8, 9, 10, 0] kR kR kR kR ⟨hp00, (by dsimp only; omega)⟩ ?_
 intro p J_13 hIJ_13 hJ_13
 have hp := hIJ_13.1
 have hpi := hIJ_13.2
 have hp0 := hp.2
 refine gX [.sp [27, 26] [.sp [30, 29] [.z q92_1 0 [1, 2, 7, 8, 9]] [.z q92_2 0 [7, 8, 11]]] [.z q92_2 0 [7, 8, 11]]] (gQ (decide (p.i < ((xs.length : Nat) : Int))) (gB (decide (p.i < ((xs.length : Nat) : Int))) (fun h_14 => ?_) (fun h_14 => ?_)))
 ·replace h_14 := decT h_14
  refine gQ (decide (p.i < 120)) (gB (decide (p.i < 120)) (fun h_15 => ?_) (fun h_15 => ?_))
  ·replace h_15 := decT h_15
   refine gW (ks := [.o q92_1 0, .c q92_3, .b 1, .c q92_4, .j J_13, .b 0, .c [1, 1, 1, 1, 1]]) [(1, .slice a xs.length c0), (2, vI q2_), (7, .bool true), (8, vP x_2), (9, vI p.i)] [.raw 0 o_, .pts b_1 [vI q0, vI q1, vI q2] 22, Ed2706 x_2 c (vP ba_3) (vP rb_4) ka_5 ps_7.length kc_6 p.ma p.W.many.length p.mc p.W.now, .sl ka_5 kc_6 encP 0 1 ps_7 68, Ee1326 p.ma p.mc p.W.many, E3504b ba_3 p.W.A, E35fb1 p.W.A, E99bbc rb_4 p.B false 0, E35fb1 p.B, .res (KsR ps_7 p.W.ks c), .rd a c0 encLAct dLAct 2 xs bt r] ?_
   have hj_16 : ∀ z : Lt, LtOk c z ∧ z.i = p.i + 1 → Go Tryz.prog Tryz.f4 B4 129 F (RetR F (Ret (.bool true) [.raw 0 o_, .rd a c0 encLAct dLAct 2 xs bt r])) [.o q92_4 0, .j J_13, .b 0, .c [1, 1, 1, 1, 1]] [(1, .slice a xs.length c0), (2, vI q2_), (7, .bool true), (8, vP x_2), (9, vI p.i)] [.raw 0 o_, .pts b_1 [vI q0, vI q1, vI q2] 22, Ed2706 x_2 c (vP ba_3) (vP rb_4) ka_5 ps_7.length kc_6 z.ma z.W.many.length z.mc z.W.now, .sl ka_5 kc_6 encP 0 1 ps_7 68, Ee1326 z.ma z.mc z.W.many, E3504b ba_3 z.W.A, E35fb1 z.W.A, E99bbc rb_4 z.B false 0, E35fb1 z.B, .res (KsR ps_7 z.W.ks c), .rd a c0 encLAct dLAct 2 xs bt r] := by
    intro z hz
    have hzz := hz
    refine gX [.n, .z [] 0 [1, 2, 7, 8, 9]] (gO (InK .i64 (p.i + 1)) (by simp only [InK]; omega) (gS [.j J_13, .b 0, .c [1, 1, 1, 1, 1]] ?_))
    exact go_back hJ_13 ((⟨p.i + 1, z.W, z.B, z.ma, z.mc⟩ : Lt)) [0, 1, 2, 3, 4, 5, 6, 7, 8, 9, 10] kR kR kR ⟨(by rw [← hzz.2]; exact hzz.1), (by dsimp only; omega)⟩ (by dsimp only; omega)
   refine gX [.s 10, .j 10 p.i.toNat, .z q92_1 5 [1, 2, 7, 8, 9, 33, 37]] (gO (a = a ∧ xs.length = xs.length) ⟨rfl, (by first | rfl | omega | (simp; done) | (simp; omega))⟩ (gO ((0 : Int) ≤ p.i ∧ p.i < ((xs.length : Nat) : Int)) oW (gQ (slAt a p.i.toNat 2) (gO (p.i.toNat < xs.length) oW (gS [.o q92_1 5, .c q92_3, .b 1, .c q92_4, .j J_13, .b 0, .c [1, 1, 1, 1, 1]] ?_)))))
   refine gC (some 38) [2, 3, 5, 6, 7, 8, 9] Tryz.call27 (W_who c x_2 ba_3 rb_4 ka_5 p.ma kc_6 p.mc ps_7 p.W p.B ((xs.getD p.i.toNat dLAct).wh) ((xs.getD p.i.toNat dLAct).n) hc ⟨_, hp.1, by omega⟩ hps) ?_
   refine gX [.sp [40] [.z q92_5 0 [1, 2, 7, 8, 9, 10]] [.z q92_4 0 [1, 2, 7, 8, 9]]] (gB (decide ((p.W.at_ c ((xs.getD p.i.toNat dLAct).wh) ((xs.getD p.i.toNat dLAct).n)) ≥ 0)) (fun h_17 => ?_) (fun h_17 => ?_))
   ·replace h_17 := decT h_17
    refine gW (ks := [.o q92_5 0, .c q92_6, .b 1, .c q92_4, .j J_13, .b 0, .c [1, 1, 1, 1, 1]]) [(1, .slice a xs.length c0), (2, vI q2_), (7, .bool true), (8, vP x_2), (9, vI p.i), (10, vI (p.W.at_ c ((xs.getD p.i.toNat dLAct).wh) ((xs.getD p.i.toNat dLAct).n)))] [.raw 0 o_, .pts b_1 [vI q0, vI q1, vI q2] 22, Ee1326 p.ma p.mc p.W.many, .rd a c0 encLAct dLAct 2 xs bt r, Ed2706 x_2 c (vP ba_3) (vP rb_4) ka_5 ps_7.length kc_6 p.ma ((p.W.who c ((xs.getD p.i.toNat dLAct).wh) ((xs.getD p.i.toNat dLAct).n)).many.length) p.mc ((p.W.who c ((xs.getD p.i.toNat dLAct).wh) ((xs.getD p.i.toNat dLAct).n)).now), .sl ka_5 kc_6 encP 0 1 ps_7 68, E3504b ba_3 ((p.W.who c ((xs.getD p.i.toNat dLAct).wh) ((xs.getD p.i.toNat dLAct).n)).A), E35fb1 ((p.W.who c ((xs.getD p.i.toNat dLAct).wh) ((xs.getD p.i.toNat dLAct).n)).A), E99bbc rb_4 (p.W.whoB c p.B ((xs.getD p.i.toNat dLAct).wh) ((xs.getD p.i.toNat dLAct).n)) false 0, E35fb1 (p.W.whoB c p.B ((xs.getD p.i.toNat dLAct).wh) ((xs.getD p.i.toNat dLAct).n)), .res (KsR ps_7 ((p.W.who c ((xs.getD p.i.toNat dLAct).wh) ((xs.getD p.i.toNat dLAct).n)).ks) c)] ?_
    have hat : 0 ≤ (p.W.at_ c (xs.getD p.i.toNat dLAct).wh (xs.getD p.i.toNat dLAct).n) ∧ (p.W.at_ c (xs.getD p.i.toNat dLAct).wh (xs.getD p.i.toNat dLAct).n) < 4 := by have := at_rng (c := c) (W := p.W) (wh := (xs.getD p.i.toNat dLAct).wh) (n := (xs.getD p.i.toNat dLAct).n); omega
    have s1 := hp.1.who hc (by omega) (xs.getD p.i.toNat dLAct).wh (xs.getD p.i.toNat dLAct).n
    have s2 := s1.begin hC (by omega) hat (xs.getD p.i.toNat dLAct).n
    obtain ⟨l3, o2⟩ := s2.own
    obtain ⟨l4, o3⟩ := o2.step hc (by omega) hat
    have o3a := o3.arw.1
    have o3b := o3.arw.2.1
    have hsz := sizeOfC_ok hc
    refine gX [.s 3, .z q92_5 6 [1, 2, 7, 8, 9, 10, 41, 42, 46]] (gO (a = a ∧ xs.length = xs.length) ⟨rfl, (by first | rfl | omega | (simp; done) | (simp; omega))⟩ (gO ((0 : Int) ≤ p.i ∧ p.i < ((xs.length : Nat) : Int)) oW (gS [.o q92_5 6, .c q92_6, .b 1, .c q92_4, .j J_13, .b 0, .c [1, 1, 1, 1, 1]] ?_)))
    refine go_by (some 47) (ldO Tryz.prog _) (some (.pointer (some ((slAd a p.i.toNat 2).add 1)), false, 1)) (R_ldF 3 (a := a) (c := c0) (enc := encLAct) (d := dLAct) (sz := 2) (xs := xs) (te := bt) (r := r) kR p.i.toNat 1 false 1 [vI ((xs.getD p.i.toNat dLAct).n)] (by rfl) (by rfl) (by decide) (by omega)) kR ?_
    rintro v L2 ⟨rfl, rfl⟩
    refine go_call (some 48) [4, 5, 2, 8, 9, 10] Tryz.call28 (W_begin c x_2 ba_3 rb_4 ka_5 p.ma kc_6 p.mc ps_7 (p.W.who c ((xs.getD p.i.toNat dLAct).wh) ((xs.getD p.i.toNat dLAct).n)) (p.W.whoB c p.B ((xs.getD p.i.toNat dLAct).wh) ((xs.getD p.i.toNat dLAct).n)) (p.W.at_ c ((xs.getD p.i.toNat dLAct).wh) ((xs.getD p.i.toNat dLAct).n)) ((xs.getD p.i.toNat dLAct).n) hC (by first | exact ⟨_, s1, by omega⟩ | exact ⟨_, hp.1, by omega⟩) hat hps) kR ?_
    rintro v post ⟨ma2_18, mc2_19, rfl, rfl⟩
    refine gX [.z q92_7 2 [1, 2, 7, 8, 9, 49, 50]] (gS [.o q92_7 2, .c q92_8, .b 1, .c q92_4, .j J_13, .b 0, .c [1, 1, 1, 1, 1]] ?_)
    refine go_call (some 51) [0, 5, 6, 3, 4, 10] Tryz.call29 (W_step o_ c x_2 ba_3 rb_4 ka_5 ma2_18 kc_6 mc2_19 ps_7 ((p.W.who c ((xs.getD p.i.toNat dLAct).wh) ((xs.getD p.i.toNat dLAct).n)).begin c (p.W.at_ c ((xs.getD p.i.toNat dLAct).wh) ((xs.getD p.i.toNat dLAct).n)) ((xs.getD p.i.toNat dLAct).n)) (p.W.at_ c ((xs.getD p.i.toNat dLAct).wh) ((xs.getD p.i.toNat dLAct).n)) ho hc ⟨_, _, o2, by omega⟩ hat hps) kR ?_
    rintro v post ⟨a2_20, c2_21, rfl, rfl⟩
    refine gX [.z q92_8 0 [1, 2, 7, 8, 9]] (gS [.c q92_8, .b 1, .c q92_4, .j J_13, .b 0, .c [1, 1, 1, 1, 1]] ?_)
    refine zG ?_
    refine zN [0, 1, 2, 3, 4, 5, 6, 7] (kV 0 [.w, .w, .w, .e 6, .w, .w, .w, .e 6]) [1, 2, 7, 8, 9, 52, 53, 54, 55, 56, 57, 58, 59] [8] (.e x_2 (.e x_2 .n)) ⟨?_, trivial⟩
    refine zC (some 60) [8, 9] Tryz.call30 (arena_Words ba_3 ((((p.W.who c ((xs.getD p.i.toNat dLAct).wh) ((xs.getD p.i.toNat dLAct).n)).begin c (p.W.at_ c ((xs.getD p.i.toNat dLAct).wh) ((xs.getD p.i.toNat dLAct).n)) ((xs.getD p.i.toNat dLAct).n)).step c (p.W.at_ c ((xs.getD p.i.toNat dLAct).wh) ((xs.getD p.i.toNat dLAct).n))).A) (by first | exact o3a | exact oa) (by omega)) ?_
    rintro v post ⟨a2_8_1, c2_8_1, rfl, rfl⟩
    refine zN [9, 10] (kV 0 [.w, .w, .w, .e 6] ++ kV 9 [.w, .w]) [60, 1, 2, 7, 8, 9, 52, 53, 54, 55, 61, 62] [11] (.e x_2 .n) ⟨?_, trivial⟩
    refine zX (.e 3) (sQ rb_4 (sK ?_))
    refine zE [] [] [1, 2, 7, 8, 9] .n ?_
    refine gX [.z q92_4 0 [1, 2, 7, 8, 9]] (gS [.o q92_4 0, .j J_13, .b 0, .c [1, 1, 1, 1, 1]] ?_)
    exact go_weak [1, 2, 7, 8, 9] [5, 0, 6, 7, 2, 10, 11, 3, 12, 8, 1] kR (hj_16 (⟨p.i + 1, (((p.W.who c ((xs.getD p.i.toNat dLAct).wh) ((xs.getD p.i.toNat dLAct).n)).begin c (p.W.at_ c ((xs.getD p.i.toNat dLAct).wh) ((xs.getD p.i.toNat dLAct).n)) ((xs.getD p.i.toNat dLAct).n)).step c (p.W.at_ c ((xs.getD p.i.toNat dLAct).wh) ((xs.getD p.i.toNat dLAct).n))), (⟨a2_8_1, c2_8_1, ((((p.W.who c ((xs.getD p.i.toNat dLAct).wh) ((xs.getD p.i.toNat dLAct).n)).begin c (p.W.at_ c ((xs.getD p.i.toNat dLAct).wh) ((xs.getD p.i.toNat dLAct).n)) ((xs.getD p.i.toNat dLAct).n)).step c (p.W.at_ c ((xs.getD p.i.toNat dLAct).wh) ((xs.getD p.i.toNat dLAct).n))).A.ws).length, ((((p.W.who c ((xs.getD p.i.toNat dLAct).wh) ((xs.getD p.i.toNat dLAct).n)).begin c (p.W.at_ c ((xs.getD p.i.toNat dLAct).wh) ((xs.getD p.i.toNat dLAct).n)) ((xs.getD p.i.toNat dLAct).n)).step c (p.W.at_ c ((xs.getD p.i.toNat dLAct).wh) ((xs.getD p.i.toNat dLAct).n))).A.ws), (p.W.whoB c p.B ((xs.getD p.i.toNat dLAct).wh) ((xs.getD p.i.toNat dLAct).n)).steps, (p.W.whoB c p.B ((xs.getD p.i.toNat dLAct).wh) ((xs.getD p.i.toNat dLAct).n)).lk, (p.W.whoB c p.B ((xs.getD p.i.toNat dLAct).wh) ((xs.getD p.i.toNat dLAct).n)).lw, (p.W.whoB c p.B ((xs.getD p.i.toNat dLAct).wh) ((xs.getD p.i.toNat dLAct).n)).lv, (p.W.whoB c p.B ((xs.getD p.i.toNat dLAct).wh) ((xs.getD p.i.toNat dLAct).n)).lc⟩ : Ar), ma2_18, mc2_19⟩ : Lt) ⟨(by first | exact lt_who hC hp (by omega) (xs.getD p.i.toNat dLAct).wh (xs.getD p.i.toNat dLAct).n _ _ | exact lt_turn hC hp (by omega) (xs.getD p.i.toNat dLAct).wh (xs.getD p.i.toNat dLAct).n (xs.getD p.i.toNat dLAct).n hat _ _ o3a _ _ _ _ _ _), rfl⟩)
   ·replace h_17 := decF h_17
    refine gS [.o q92_4 0, .j J_13, .b 0, .c [1, 1, 1, 1, 1]] ?_
    exact go_weak [1, 2, 7, 8, 9] [0, 1, 4, 5, 2, 6, 7, 8, 9, 10, 3] kR (hj_16 (⟨p.i + 1, (p.W.who c ((xs.getD p.i.toNat dLAct).wh) ((xs.getD p.i.toNat dLAct).n)), (p.W.whoB c p.B ((xs.getD p.i.toNat dLAct).wh) ((xs.getD p.i.toNat dLAct).n)), p.ma, p.mc⟩ : Lt) ⟨(by first | exact lt_who hC hp (by omega) (xs.getD p.i.toNat dLAct).wh (xs.getD p.i.toNat dLAct).n _ _ | exact lt_turn hC hp (by omega) (xs.getD p.i.toNat dLAct).wh (xs.getD p.i.toNat dLAct).n (xs.getD p.i.toNat dLAct).n hat _ _ o3a _ _ _ _ _ _), rfl⟩)
  ·replace h_15 := decF h_15
   refine gW (ks := [.o q92_2 0, .c q92_9]) [(7, .bool true), (8, vP x_2), (11, vI (bAnd .i64 q2_ 3))] [.raw 0 o_, .pts b_1 [vI q0, vI q1, vI q2] 22, Ed2706 x_2 c (vP ba_3) (vP rb_4) ka_5 ps_7.length kc_6 p.ma p.W.many.length p.mc p.W.now, .sl ka_5 kc_6 encP 0 1 ps_7 68, Ee1326 p.ma p.mc p.W.many, E3504b ba_3 p.W.A, E35fb1 p.W.A, E99bbc rb_4 p.B false 0, E35fb1 p.B, .res (KsR ps_7 p.W.ks c), .rd a c0 encLAct dLAct 2 xs bt r] ?_
   have hat : 0 ≤ (bAnd .i64 q2_ 3) ∧ (bAnd .i64 q2_ 3) < 4 := by have := and3 q2_; omega
   have s0 := hp.1
   refine gX [.z q92_2 2 [7, 8, 11, 65, 66]] (gS [.o q92_2 2, .c q92_9] ?_)
   refine go_call (some 67) [2, 3, 4, 7, 8, 9] Tryz.call28 (W_begin c x_2 ba_3 rb_4 ka_5 p.ma kc_6 p.mc ps_7 p.W p.B (bAnd .i64 q2_ 3) 1 hC (by first | exact ⟨_, s1, by omega⟩ | exact ⟨_, hp.1, by omega⟩) hat hps) kR ?_
   rintro v post ⟨ma2_26, mc2_27, rfl, rfl⟩
   refine gX [.e 5, .s 6, .j 6 ((bAnd .i64 q2_ 3).toNat), .z q92_10 0 [7, 8, 11, 12, 13]] (gQ x_2 (gO (ka_5 = ka_5 ∧ ps_7.length = ps_7.length) ⟨rfl, (by first | rfl | omega | (simp; done) | (simp; omega))⟩ (gO ((0 : Int) ≤ (bAnd .i64 q2_ 3) ∧ (bAnd .i64 q2_ 3) < ((ps_7.length : Nat) : Int)) oW (gQ (slAt ka_5 ((bAnd .i64 q2_ 3).toNat) 1) (gO ((bAnd .i64 q2_ 3).toNat < ps_7.length) oW (gW (ks := [.o q92_10 0, .c q92_11, .c q92_12]) [(7, .bool true), (8, vP x_2), (11, vI (bAnd .i64 q2_ 3)), (12, vP (ps_7.getD ((bAnd .i64 q2_ 3).toNat) 0)), (13, vI 0)] [.raw 0 o_, .pts b_1 [vI q0, vI q1, vI q2] 22, E3504b ba_3 p.W.A, E35fb1 p.W.A, .rd a c0 encLAct dLAct 2 xs bt r, Ed2706 x_2 c (vP ba_3) (vP rb_4) ka_5 ps_7.length kc_6 ma2_26 ((p.W.begin c (bAnd .i64 q2_ 3) 1).many.length) mc2_27 ((p.W.begin c (bAnd .i64 q2_ 3) 1).now), .sl ka_5 kc_6 encP 0 1 ps_7 68, Ee1326 ma2_26 mc2_27 ((p.W.begin c (bAnd .i64 q2_ 3) 1).many), E99bbc rb_4 p.B false 0, E35fb1 p.B, .res (KsR ps_7 ((p.W.begin c (bAnd .i64 q2_ 3) 1).ks) c)] ?_))))))
   have hj_28 : ∀ u : Int, LaOk c (bAnd .i64 q2_ 3) u (⟨0, (p.W.begin c (bAnd .i64 q2_ 3) 1), p.B, ma2_26, mc2_27⟩ : Lt) → Go Tryz.prog Tryz.f4 B4 129 F (RetR F (Ret (.bool true) [.raw 0 o_, .rd a c0 encLAct dLAct 2 xs bt r])) [.o q92_13 0, .c q92_14, .c q92_15] [(7, .bool true), (8, vP x_2), (11, vI (bAnd .i64 q2_ 3)), (13, vI u)] [.raw 0 o_, .pts b_1 [vI q0, vI q1, vI q2] 22, Ed2706 x_2 c (vP ba_3) (vP rb_4) ka_5 ps_7.length kc_6 ma2_26 ((p.W.begin c (bAnd .i64 q2_ 3) 1).many.length) mc2_27 ((p.W.begin c (bAnd .i64 q2_ 3) 1).now), .sl ka_5 kc_6 encP 0 1 ps_7 68, Ee1326 ma2_26 mc2_27 ((p.W.begin c (bAnd .i64 q2_ 3) 1).many), E3504b ba_3 p.W.A, E35fb1 p.W.A, E99bbc rb_4 p.B false 0, E35fb1 p.B, .res (KsR ps_7 ((p.W.begin c (bAnd .i64 q2_ 3) 1).ks) c), .rd a c0 encLAct dLAct 2 xs bt r] := by
    intro u hz
    have hu := hz
    refine gX [.z q92_16 0 [7, 8, 11, 13, 14]] (gS [.c q92_16, .b 2, .c q92_15] ?_)
    refine go_loop (ι := Lt) (fun zz => [(7, .bool true), (8, vP x_2), (11, vI (bAnd .i64 q2_ 3)), (13, vI u), (14, vI zz.i)]) (fun zz => [.raw 0 o_, .pts b_1 [vI q0, vI q1, vI q2] 22, Ed2706 x_2 c (vP ba_3) (vP rb_4) ka_5 ps_7.length kc_6 zz.ma zz.W.many.length zz.mc zz.W.now, .sl ka_5 kc_6 encP 0 1 ps_7 68, Ee1326 zz.ma zz.mc zz.W.many, E3504b ba_3 zz.W.A, E35fb1 zz.W.A, E99bbc rb_4 zz.B false 0, E35fb1 zz.B, .res (KsR ps_7 zz.W.ks c), .rd a c0 encLAct dLAct 2 xs bt r]) (fun zz => LaOk c (bAnd .i64 q2_ 3) u zz) (fun zz => (u - zz.i).toNat) (⟨0, (p.W.begin c (bAnd .i64 q2_ 3) 1), p.B, ma2_26, mc2_27⟩ : Lt) [7, 8, 11, 13, 14] [0, 1, 2, 3, 4, 5, 6, 7, 8, 9, 10] kR kR kR kR hu ?_
    intro zz J_29 hIJ_29 hJ_29
    have hzz := hIJ_29
    have hzlt := la_lt hC hat hzz
    obtain ⟨⟨l2, o2⟩, hzb, hzm, hz0, hu5⟩ := hIJ_29
    refine gX [.sp [117] [.z q92_17 2 [7, 8, 11, 13, 14, 121, 122]] [.dead]] (gT (decide (zz.i < u)) (decide_eq_true hzlt) (gS [.o q92_17 2, .c q92_18, .b 3, .c q92_19, .j J_29, .b 2, .c q92_15] ?_))
    refine go_call (some 123) [0, 2, 3, 5, 6, 9] Tryz.call29 (W_step o_ c x_2 ba_3 rb_4 ka_5 zz.ma kc_6 zz.mc ps_7 zz.W (bAnd .i64 q2_ 3) ho hc ⟨_, _, o2, by omega⟩ hat hps) kR ?_
    rintro v post ⟨a2_30, c2_31, rfl, rfl⟩
    refine gX [.sp [127, 126, 17] [] [.n, .z [] 0 [7, 8, 11, 13, 14]]] (gQ ((zz.W.told c (bAnd .i64 q2_ 3)).done) (gQ ((zz.W.told c (bAnd .i64 q2_ 3)).done) (gB ((zz.W.told c (bAnd .i64 q2_ 3)).done) (fun h_32 => ?_) (fun h_32 => ?_))))
    ·skip
     exact gJ [5, 4] ⟨rfl, rfl⟩
    ·skip
     refine gO (InK .i64 (zz.i + 1)) (by simp only [InK]; omega) (gS [.j J_29, .b 2, .c q92_15] ?_)
     exact go_back hJ_29 (⟨zz.i + 1, (zz.W.step c (bAnd .i64 q2_ 3)), zz.B, zz.ma, zz.mc⟩ : Lt) [5, 0, 6, 7, 1, 8, 9, 2, 3, 10, 4] kR kR kR (la_step hC hat hzz (by first | assumption | (simpa using ‹_›)) _ _ _) (by dsimp only; omega)
   have s1 := hp.1.begin hC (by omega) hat 1
   obtain ⟨l, o⟩ := s1.own
   have hst := o.st _ hat
   have hbz : ((p.W.begin c (bAnd .i64 q2_ 3) 1).k (bAnd .i64 q2_ 3)).busy := Wd.begin_k hp.1.len hat 1
   have hkl := o.len
   have hcc := hc
   simp only [Cfg.Ok] at hcc
   refine go_view (L' := [.raw 0 o_, .pts b_1 [vI q0, vI q1, vI q2] 22, E3504b ba_3 p.W.A, E35fb1 p.W.A, .rd a c0 encLAct dLAct 2 xs bt r, Ed2706 x_2 c (vP ba_3) (vP rb_4) ka_5 ps_7.length kc_6 ma2_26 ((p.W.begin c (bAnd .i64 q2_ 3) 1).many.length) mc2_27 ((p.W.begin c (bAnd .i64 q2_ 3) 1).now), .sl ka_5 kc_6 encP 0 1 ps_7 68, Ee1326 ma2_26 mc2_27 ((p.W.begin c (bAnd .i64 q2_ 3) 1).many), E99bbc rb_4 p.B false 0, E35fb1 p.B, .res (KlR c (ps_7.getD ((bAnd .i64 q2_ 3).toNat) 0) ((p.W.begin c (bAnd .i64 q2_ 3) 1).ks.getD ((bAnd .i64 q2_ 3).toNat) dK)), .res (KsX ps_7 ((p.W.begin c (bAnd .i64 q2_ 3) 1).ks) ((bAnd .i64 q2_ 3).toNat) c)]) (ks_focus 10 ((bAnd .i64 q2_ 3).toNat) (ps := ps_7) (ks := (p.W.begin c (bAnd .i64 q2_ 3) 1).ks) (c := c) (by omega) (by omega)) ?_
   obtain ⟨K, hK⟩ : ∃ K : Kc, (p.W.begin c (bAnd .i64 q2_ 3) 1).ks.getD ((bAnd .i64 q2_ 3).toNat) dK = K := ⟨_, rfl⟩
   refine go_cast (tm' := [(7, .bool true), (8, vP x_2), (11, vI (bAnd .i64 q2_ 3)), (12, vP (ps_7.getD ((bAnd .i64 q2_ 3).toNat) 0)), (13, vI 0)]) (L' := [.raw 0 o_, .pts b_1 [vI q0, vI q1, vI q2] 22, E3504b ba_3 p.W.A, E35fb1 p.W.A, .rd a c0 encLAct dLAct 2 xs bt r, Ed2706 x_2 c (vP ba_3) (vP rb_4) ka_5 ps_7.length kc_6 ma2_26 ((p.W.begin c (bAnd .i64 q2_ 3) 1).many.length) mc2_27 ((p.W.begin c (bAnd .i64 q2_ 3) 1).now), .sl ka_5 kc_6 encP 0 1 ps_7 68, Ee1326 ma2_26 mc2_27 ((p.W.begin c (bAnd .i64 q2_ 3) 1).many), E99bbc rb_4 p.B false 0, E35fb1 p.B, .res (KlR c (ps_7.getD ((bAnd .i64 q2_ 3).toNat) 0) K), .res (KsX ps_7 ((p.W.begin c (bAnd .i64 q2_ 3) 1).ks) ((bAnd .i64 q2_ 3).toNat) c)]) (by rw [hK]) ?_
   refine oG (I := fun _ : KlH => True) (LL := klL c (ps_7.getD ((bAnd .i64 q2_ 3).toNat) 0) K) 10 ?_
   rintro ⟨pv33, sv33, rv33, ra33, rc33, y33⟩ -
   obtain ⟨d33, ret33, id33⟩ := K
   cases d33 with
   | idle =>
    refine go_weak (tm' := [(7, .bool true), (8, vP x_2), (11, vI (bAnd .i64 q2_ 3)), (12, vP (ps_7.getD ((bAnd .i64 q2_ 3).toNat) 0)), (13, vI 0)]) (L' := [.raw 0 o_, .pts b_1 [vI q0, vI q1, vI q2] 22, E3504b ba_3 p.W.A, E35fb1 p.W.A, .rd a c0 encLAct dLAct 2 xs bt r, Ed2706 x_2 c (vP ba_3) (vP rb_4) ka_5 ps_7.length kc_6 ma2_26 ((p.W.begin c (bAnd .i64 q2_ 3) 1).many.length) mc2_27 ((p.W.begin c (bAnd .i64 q2_ 3) 1).now), .sl ka_5 kc_6 encP 0 1 ps_7 68, Ee1326 ma2_26 mc2_27 ((p.W.begin c (bAnd .i64 q2_ 3) 1).many), E99bbc rb_4 p.B false 0, E35fb1 p.B, .res (KsX ps_7 ((p.W.begin c (bAnd .i64 q2_ 3) 1).ks) ((bAnd .i64 q2_ 3).toNat) c), E4463d (ps_7.getD ((bAnd .i64 q2_ 3).toNat) 0) pv33 sv33 rv33 ra33 ret33.length rc33 id33, Ee1326 ra33 rc33 ret33]) [7, 8, 11, 12, 13] [0, 1, 2, 3, 4, 5, 6, 7, 8, 9, 10, 11, 12] kR ?_
    have hKk : (p.W.begin c (bAnd .i64 q2_ 3) 1).k (bAnd .i64 q2_ 3) = ⟨.idle, ret33, id33⟩ := hK
    rw [hKk] at hst
    have hgd : ret33.length ≤ 24 := by have h9 := (o.good hc hat).2; rw [hKk] at h9; exact h9
    rw [hKk] at hbz
    exact hbz.elim
   | pub ep33 ws33 S33 =>
    refine go_weak (tm' := [(7, .bool true), (8, vP x_2), (11, vI (bAnd .i64 q2_ 3)), (12, vP (ps_7.getD ((bAnd .i64 q2_ 3).toNat) 0)), (13, vI 0)]) (L' := [.raw 0 o_, .pts b_1 [vI q0, vI q1, vI q2] 22, E3504b ba_3 p.W.A, E35fb1 p.W.A, .rd a c0 encLAct dLAct 2 xs bt r, Ed2706 x_2 c (vP ba_3) (vP rb_4) ka_5 ps_7.length kc_6 ma2_26 ((p.W.begin c (bAnd .i64 q2_ 3) 1).many.length) mc2_27 ((p.W.begin c (bAnd .i64 q2_ 3) 1).now), .sl ka_5 kc_6 encP 0 1 ps_7 68, Ee1326 ma2_26 mc2_27 ((p.W.begin c (bAnd .i64 q2_ 3) 1).many), E99bbc rb_4 p.B false 0, E35fb1 p.B, .res (KsX ps_7 ((p.W.begin c (bAnd .i64 q2_ 3) 1).ks) ((bAnd .i64 q2_ 3).toNat) c), Eff665 (ps_7.getD ((bAnd .i64 q2_ 3).toNat) 0) (vP y33) pv33 sv33 rv33 ra33 ret33.length rc33 id33, Ee1326 ra33 rc33 ret33, .res (PbR y33 c (ctlAt c 0) ep33 ws33 S33)]) [7, 8, 11, 12, 13] [0, 1, 2, 3, 4, 5, 6, 7, 8, 9, 10, 11, 12, 13] kR ?_
    have hKk : (p.W.begin c (bAnd .i64 q2_ 3) 1).k (bAnd .i64 q2_ 3) = ⟨.pub ep33 ws33 S33, ret33, id33⟩ := hK
    rw [hKk] at hst
    have hgd : ret33.length ≤ 24 := by have h9 := (o.good hc hat).2; rw [hKk] at h9; exact h9
    have hmo := most_pub hc hC.s0 hC.s1 hst
    refine gX [.e 11, .e 5, .n, .n, .e 11, .e 11, .z q92_13 0 [7, 8, 11, 13]] (gQ (ps_7.getD ((bAnd .i64 q2_ 3).toNat) 0) (gQ x_2 (gO (InK .i64 (2 * c.retry)) (by simp only [InK]; omega) (gO (InK .i64 (22 + (2 * c.retry))) (by simp only [InK]; omega) (gQ (ps_7.getD ((bAnd .i64 q2_ 3).toNat) 0) (gQ (ps_7.getD ((bAnd .i64 q2_ 3).toNat) 0) (gS [.o q92_13 0, .c q92_14, .c q92_15] ?_)))))))
    refine go_view (vK (fun _ : KlH => True) (klL c (ps_7.getD ((bAnd .i64 q2_ 3).toNat) 0) ⟨.pub ep33 ws33 S33, ret33, id33⟩) ⟨pv33, sv33, rv33, ra33, rc33, y33⟩ [11, 12, 13] trivial) ?_
    refine go_view (ks_back (ps := ps_7) (ks := (p.W.begin c (bAnd .i64 q2_ 3) 1).ks) (c := c) 11 10 ((bAnd .i64 q2_ 3).toNat) ⟨.pub ep33 ws33 S33, ret33, id33⟩ hK (by omega) (by omega)) ?_
    exact go_weak [7, 8, 11, 13] [0, 1, 5, 6, 7, 2, 3, 8, 9, 10, 4] kR (hj_28 (22 + (2 * c.retry)) (la_first o (by omega) hbz hKk (by omega) (by omega)))
   | scan S33 =>
    refine go_weak (tm' := [(7, .bool true), (8, vP x_2), (11, vI (bAnd .i64 q2_ 3)), (12, vP (ps_7.getD ((bAnd .i64 q2_ 3).toNat) 0)), (13, vI 0)]) (L' := [.raw 0 o_, .pts b_1 [vI q0, vI q1, vI q2] 22, E3504b ba_3 p.W.A, E35fb1 p.W.A, .rd a c0 encLAct dLAct 2 xs bt r, Ed2706 x_2 c (vP ba_3) (vP rb_4) ka_5 ps_7.length kc_6 ma2_26 ((p.W.begin c (bAnd .i64 q2_ 3) 1).many.length) mc2_27 ((p.W.begin c (bAnd .i64 q2_ 3) 1).now), .sl ka_5 kc_6 encP 0 1 ps_7 68, Ee1326 ma2_26 mc2_27 ((p.W.begin c (bAnd .i64 q2_ 3) 1).many), E99bbc rb_4 p.B false 0, E35fb1 p.B, .res (KsX ps_7 ((p.W.begin c (bAnd .i64 q2_ 3) 1).ks) ((bAnd .i64 q2_ 3).toNat) c), Eb05f6 (ps_7.getD ((bAnd .i64 q2_ 3).toNat) 0) (vP y33) pv33 sv33 rv33 ra33 ret33.length rc33 id33, Ee1326 ra33 rc33 ret33, .res (ScanR y33 c S33)]) [7, 8, 11, 12, 13] [0, 1, 2, 3, 4, 5, 6, 7, 8, 9, 10, 11, 12, 13] kR ?_
    have hKk : (p.W.begin c (bAnd .i64 q2_ 3) 1).k (bAnd .i64 q2_ 3) = ⟨.scan S33, ret33, id33⟩ := hK
    rw [hKk] at hst
    have hgd : ret33.length ≤ 24 := by have h9 := (o.good hc hat).2; rw [hKk] at h9; exact h9
    have hmo := most_scan hst
    refine gX [.e 11, .e 11, .e 11, .z q92_20 0 [7, 8, 11, 12]] (gQ (ps_7.getD ((bAnd .i64 q2_ 3).toNat) 0) (gQ (ps_7.getD ((bAnd .i64 q2_ 3).toNat) 0) (gQ (ps_7.getD ((bAnd .i64 q2_ 3).toNat) 0) (gS [.c q92_20, .c q92_21] ?_))))
    refine qG (kV 0 [.ww, .ww, .ww, .e 5, .ww, .ww, .ww, .e 11, .ww, .h (.n), .q (vI (c.slots + 3 * (((ret33.length : Nat) : Int) + 1) + 3)), .ww]) [7, 8, 11, 13] (.e x_2 (.e (ps_7.getD ((bAnd .i64 q2_ 3).toNat) 0) (.p (InK .i64 (((ret33.length : Nat) : Int) + 1)) (by simp only [InK]; omega) .n))) (.c Tryz.call31 (qR [] (ref15_Bound c (((ret33.length : Nat) : Int) + 1) hc (by omega))) .n) ?_
    refine gX [.z q92_13 0 [7, 8, 11, 13]] (gS [.o q92_13 0, .c q92_14, .c q92_15] ?_)
    refine go_view (vK (fun _ : KlH => True) (klL c (ps_7.getD ((bAnd .i64 q2_ 3).toNat) 0) ⟨.scan S33, ret33, id33⟩) ⟨pv33, sv33, rv33, ra33, rc33, y33⟩ [11, 12, 13] trivial) ?_
    refine go_view (ks_back (ps := ps_7) (ks := (p.W.begin c (bAnd .i64 q2_ 3) 1).ks) (c := c) 11 10 ((bAnd .i64 q2_ 3).toNat) ⟨.scan S33, ret33, id33⟩ hK (by omega) (by omega)) ?_
    exact go_weak [7, 8, 11, 13] [0, 1, 5, 6, 7, 2, 3, 8, 9, 10, 4] kR (hj_28 (c.slots + 3 * (((ret33.length : Nat) : Int) + 1) + 3) (la_first o (by omega) hbz hKk (by omega) (by omega)))
   | read cl33 ep33 S33 =>
    refine go_weak (tm' := [(7, .bool true), (8, vP x_2), (11, vI (bAnd .i64 q2_ 3)), (12, vP (ps_7.getD ((bAnd .i64 q2_ 3).toNat) 0)), (13, vI 0)]) (L' := [.raw 0 o_, .pts b_1 [vI q0, vI q1, vI q2] 22, E3504b ba_3 p.W.A, E35fb1 p.W.A, .rd a c0 encLAct dLAct 2 xs bt r, Ed2706 x_2 c (vP ba_3) (vP rb_4) ka_5 ps_7.length kc_6 ma2_26 ((p.W.begin c (bAnd .i64 q2_ 3) 1).many.length) mc2_27 ((p.W.begin c (bAnd .i64 q2_ 3) 1).now), .sl ka_5 kc_6 encP 0 1 ps_7 68, Ee1326 ma2_26 mc2_27 ((p.W.begin c (bAnd .i64 q2_ 3) 1).many), E99bbc rb_4 p.B false 0, E35fb1 p.B, .res (KsX ps_7 ((p.W.begin c (bAnd .i64 q2_ 3) 1).ks) ((bAnd .i64 q2_ 3).toNat) c), E70a74 (ps_7.getD ((bAnd .i64 q2_ 3).toNat) 0) (vP y33) pv33 sv33 rv33 ra33 ret33.length rc33 id33, Ee1326 ra33 rc33 ret33, .res (RdR y33 c cl33 0 ep33 S33)]) [7, 8, 11, 12, 13] [0, 1, 2, 3, 4, 5, 6, 7, 8, 9, 10, 11, 12, 13] kR ?_
    have hKk : (p.W.begin c (bAnd .i64 q2_ 3) 1).k (bAnd .i64 q2_ 3) = ⟨.read cl33 ep33 S33, ret33, id33⟩ := hK
    rw [hKk] at hst
    have hgd : ret33.length ≤ 24 := by have h9 := (o.good hc hat).2; rw [hKk] at h9; exact h9
    have hmo := most_read hc hst
    refine gX [.e 11, .e 11, .e 5, .n, .n, .e 11, .z q92_13 0 [7, 8, 11, 13]] (gQ (ps_7.getD ((bAnd .i64 q2_ 3).toNat) 0) (gQ (ps_7.getD ((bAnd .i64 q2_ 3).toNat) 0) (gQ x_2 (gO (InK .i64 (c.slots + 6)) (by simp only [InK]; omega) (gO (InK .i64 ((c.slots + 6) + 6)) (by simp only [InK]; omega) (gQ (ps_7.getD ((bAnd .i64 q2_ 3).toNat) 0) (gS [.o q92_13 0, .c q92_14, .c q92_15] ?_)))))))
    refine go_view (vK (fun _ : KlH => True) (klL c (ps_7.getD ((bAnd .i64 q2_ 3).toNat) 0) ⟨.read cl33 ep33 S33, ret33, id33⟩) ⟨pv33, sv33, rv33, ra33, rc33, y33⟩ [11, 12, 13] trivial) ?_
    refine go_view (ks_back (ps := ps_7) (ks := (p.W.begin c (bAnd .i64 q2_ 3) 1).ks) (c := c) 11 10 ((bAnd .i64 q2_ 3).toNat) ⟨.read cl33 ep33 S33, ret33, id33⟩ hK (by omega) (by omega)) ?_
    exact go_weak [7, 8, 11, 13] [0, 1, 5, 6, 7, 2, 3, 8, 9, 10, 4] kR (hj_28 ((c.slots + 6) + 6) (la_first o (by omega) hbz hKk (by omega) (by omega)))
 ·replace h_14 := decF h_14
  refine gW (ks := [.o q92_2 0, .c q92_9]) [(7, .bool true), (8, vP x_2), (11, vI (bAnd .i64 q2_ 3))] [.raw 0 o_, .pts b_1 [vI q0, vI q1, vI q2] 22, Ed2706 x_2 c (vP ba_3) (vP rb_4) ka_5 ps_7.length kc_6 p.ma p.W.many.length p.mc p.W.now, .sl ka_5 kc_6 encP 0 1 ps_7 68, Ee1326 p.ma p.mc p.W.many, E3504b ba_3 p.W.A, E35fb1 p.W.A, E99bbc rb_4 p.B false 0, E35fb1 p.B, .res (KsR ps_7 p.W.ks c), .rd a c0 encLAct dLAct 2 xs bt r] ?_
  have hat : 0 ≤ (bAnd .i64 q2_ 3) ∧ (bAnd .i64 q2_ 3) < 4 := by have := and3 q2_; omega
  have s0 := hp.1
  refine gX [.z q92_2 2 [7, 8, 11, 65, 66]] (gS [.o q92_2 2, .c q92_9] ?_)
  refine go_call (some 67) [2, 3, 4, 7, 8, 9] Tryz.call28 (W_begin c x_2 ba_3 rb_4 ka_5 p.ma kc_6 p.mc ps_7 p.W p.B (bAnd .i64 q2_ 3) 1 hC (by first | exact ⟨_, s1, by omega⟩ | exact ⟨_, hp.1, by omega⟩) hat hps) kR ?_
  rintro v post ⟨ma2_34, mc2_35, rfl, rfl⟩
  refine gX [.e 5, .s 6, .j 6 ((bAnd .i64 q2_ 3).toNat), .z q92_10 0 [7, 8, 11, 12, 13]] (gQ x_2 (gO (ka_5 = ka_5 ∧ ps_7.length = ps_7.length) ⟨rfl, (by first | rfl | omega | (simp; done) | (simp; omega))⟩ (gO ((0 : Int) ≤ (bAnd .i64 q2_ 3) ∧ (bAnd .i64 q2_ 3) < ((ps_7.length : Nat) : Int)) oW (gQ (slAt ka_5 ((bAnd .i64 q2_ 3).toNat) 1) (gO ((bAnd .i64 q2_ 3).toNat < ps_7.length) oW (gW (ks := [.o q92_10 0, .c q92_11, .c q92_12]) [(7, .bool true), (8, vP x_2), (11, vI (bAnd .i64 q2_ 3)), (12, vP (ps_7.getD ((bAnd .i64 q2_ 3).toNat) 0)), (13, vI 0)] [.raw 0 o_, .pts b_1 [vI q0, vI q1, vI q2] 22, E3504b ba_3 p.W.A, E35fb1 p.W.A, .rd a c0 encLAct dLAct 2 xs bt r, Ed2706 x_2 c (vP ba_3) (vP rb_4) ka_5 ps_7.length kc_6 ma2_34 ((p.W.begin c (bAnd .i64 q2_ 3) 1).many.length) mc2_35 ((p.W.begin c (bAnd .i64 q2_ 3) 1).now), .sl ka_5 kc_6 encP 0 1 ps_7 68, Ee1326 ma2_34 mc2_35 ((p.W.begin c (bAnd .i64 q2_ 3) 1).many), E99bbc rb_4 p.B false 0, E35fb1 p.B, .res (KsR ps_7 ((p.W.begin c (bAnd .i64 q2_ 3) 1).ks) c)] ?_))))))
  have hj_36 : ∀ u : Int, LaOk c (bAnd .i64 q2_ 3) u (⟨0, (p.W.begin c (bAnd .i64 q2_ 3) 1), p.B, ma2_34, mc2_35⟩ : Lt) → Go Tryz.prog Tryz.f4 B4 129 F (RetR F (Ret (.bool true) [.raw 0 o_, .rd a c0 encLAct dLAct 2 xs bt r])) [.o q92_13 0, .c q92_14, .c q92_15] [(7, .bool true), (8, vP x_2), (11, vI (bAnd .i64 q2_ 3)), (13, vI u)] [.raw 0 o_, .pts b_1 [vI q0, vI q1, vI q2] 22, Ed2706 x_2 c (vP ba_3) (vP rb_4) ka_5 ps_7.length kc_6 ma2_34 ((p.W.begin c (bAnd .i64 q2_ 3) 1).many.length) mc2_35 ((p.W.begin c (bAnd .i64 q2_ 3) 1).now), .sl ka_5 kc_6 encP 0 1 ps_7 68, Ee1326 ma2_34 mc2_35 ((p.W.begin c (bAnd .i64 q2_ 3) 1).many), E3504b ba_3 p.W.A, E35fb1 p.W.A, E99bbc rb_4 p.B false 0, E35fb1 p.B, .res (KsR ps_7 ((p.W.begin c (bAnd .i64 q2_ 3) 1).ks) c), .rd a c0 encLAct dLAct 2 xs bt r] := by
   intro u hz
   have hu := hz
   refine gX [.z q92_16 0 [7, 8, 11, 13, 14]] (gS [.c q92_16, .b 2, .c q92_15] ?_)
   refine go_loop (ι := Lt) (fun zz => [(7, .bool true), (8, vP x_2), (11, vI (bAnd .i64 q2_ 3)), (13, vI u), (14, vI zz.i)]) (fun zz => [.raw 0 o_, .pts b_1 [vI q0, vI q1, vI q2] 22, Ed2706 x_2 c (vP ba_3) (vP rb_4) ka_5 ps_7.length kc_6 zz.ma zz.W.many.length zz.mc zz.W.now, .sl ka_5 kc_6 encP 0 1 ps_7 68, Ee1326 zz.ma zz.mc zz.W.many, E3504b ba_3 zz.W.A, E35fb1 zz.W.A, E99bbc rb_4 zz.B false 0, E35fb1 zz.B, .res (KsR ps_7 zz.W.ks c), .rd a c0 encLAct dLAct 2 xs bt r]) (fun zz => LaOk c (bAnd .i64 q2_ 3) u zz) (fun zz => (u - zz.i).toNat) (⟨0, (p.W.begin c (bAnd .i64 q2_ 3) 1), p.B, ma2_34, mc2_35⟩ : Lt) [7, 8, 11, 13, 14] [0, 1, 2, 3, 4, 5, 6, 7, 8, 9, 10] kR kR kR kR hu ?_
   intro zz J_37 hIJ_37 hJ_37
   have hzz := hIJ_37
   have hzlt := la_lt hC hat hzz
   obtain ⟨⟨l2, o2⟩, hzb, hzm, hz0, hu5⟩ := hIJ_37
   refine gX [.sp [117] [.z q92_17 2 [7, 8, 11, 13, 14, 121, 122]] [.dead]] (gT (decide (zz.i < u)) (decide_eq_true hzlt) (gS [.o q92_17 2, .c q92_18, .b 3, .c q92_19, .j J_37, .b 2, .c q92_15] ?_))
   refine go_call (some 123) [0, 2, 3, 5, 6, 9] Tryz.call29 (W_step o_ c x_2 ba_3 rb_4 ka_5 zz.ma kc_6 zz.mc ps_7 zz.W (bAnd .i64 q2_ 3) ho hc ⟨_, _, o2, by omega⟩ hat hps) kR ?_
   rintro v post ⟨a2_38, c2_39, rfl, rfl⟩
   refine gX [.sp [127, 126, 17] [] [.n, .z [] 0 [7, 8, 11, 13, 14]]] (gQ ((zz.W.told c (bAnd .i64 q2_ 3)).done) (gQ ((zz.W.told c (bAnd .i64 q2_ 3)).done) (gB ((zz.W.told c (bAnd .i64 q2_ 3)).done) (fun h_40 => ?_) (fun h_40 => ?_))))
   ·skip
    exact gJ [5, 4] ⟨rfl, rfl⟩
   ·skip
    refine gO (InK .i64 (zz.i + 1)) (by simp only [InK]; omega) (gS [.j J_37, .b 2, .c q92_15] ?_)
    exact go_back hJ_37 (⟨zz.i + 1, (zz.W.step c (bAnd .i64 q2_ 3)), zz.B, zz.ma, zz.mc⟩ : Lt) [5, 0, 6, 7, 1, 8, 9, 2, 3, 10, 4] kR kR kR (la_step hC hat hzz (by first | assumption | (simpa using ‹_›)) _ _ _) (by dsimp only; omega)
  have s1 := hp.1.begin hC (by omega) hat 1
  obtain ⟨l, o⟩ := s1.own
  have hst := o.st _ hat
  have hbz : ((p.W.begin c (bAnd .i64 q2_ 3) 1).k (bAnd .i64 q2_ 3)).busy := Wd.begin_k hp.1.len hat 1
  have hkl := o.len
  have hcc := hc
  simp only [Cfg.Ok] at hcc
  refine go_view (L' := [.raw 0 o_, .pts b_1 [vI q0, vI q1, vI q2] 22, E3504b ba_3 p.W.A, E35fb1 p.W.A, .rd a c0 encLAct dLAct 2 xs bt r, Ed2706 x_2 c (vP ba_3) (vP rb_4) ka_5 ps_7.length kc_6 ma2_34 ((p.W.begin c (bAnd .i64 q2_ 3) 1).many.length) mc2_35 ((p.W.begin c (bAnd .i64 q2_ 3) 1).now), .sl ka_5 kc_6 encP 0 1 ps_7 68, Ee1326 ma2_34 mc2_35 ((p.W.begin c (bAnd .i64 q2_ 3) 1).many), E99bbc rb_4 p.B false 0, E35fb1 p.B, .res (KlR c (ps_7.getD ((bAnd .i64 q2_ 3).toNat) 0) ((p.W.begin c (bAnd .i64 q2_ 3) 1).ks.getD ((bAnd .i64 q2_ 3).toNat) dK)), .res (KsX ps_7 ((p.W.begin c (bAnd .i64 q2_ 3) 1).ks) ((bAnd .i64 q2_ 3).toNat) c)]) (ks_focus 10 ((bAnd .i64 q2_ 3).toNat) (ps := ps_7) (ks := (p.W.begin c (bAnd .i64 q2_ 3) 1).ks) (c := c) (by omega) (by omega)) ?_
  obtain ⟨K, hK⟩ : ∃ K : Kc, (p.W.begin c (bAnd .i64 q2_ 3) 1).ks.getD ((bAnd .i64 q2_ 3).toNat) dK = K := ⟨_, rfl⟩
  refine go_cast (tm' := [(7, .bool true), (8, vP x_2), (11, vI (bAnd .i64 q2_ 3)), (12, vP (ps_7.getD ((bAnd .i64 q2_ 3).toNat) 0)), (13, vI 0)]) (L' := [.raw 0 o_, .pts b_1 [vI q0, vI q1, vI q2] 22, E3504b ba_3 p.W.A, E35fb1 p.W.A, .rd a c0 encLAct dLAct 2 xs bt r, Ed2706 x_2 c (vP ba_3) (vP rb_4) ka_5 ps_7.length kc_6 ma2_34 ((p.W.begin c (bAnd .i64 q2_ 3) 1).many.length) mc2_35 ((p.W.begin c (bAnd .i64 q2_ 3) 1).now), .sl ka_5 kc_6 encP 0 1 ps_7 68, Ee1326 ma2_34 mc2_35 ((p.W.begin c (bAnd .i64 q2_ 3) 1).many), E99bbc rb_4 p.B false 0, E35fb1 p.B, .res (KlR c (ps_7.getD ((bAnd .i64 q2_ 3).toNat) 0) K), .res (KsX ps_7 ((p.W.begin c (bAnd .i64 q2_ 3) 1).ks) ((bAnd .i64 q2_ 3).toNat) c)]) (by rw [hK]) ?_
  refine oG (I := fun _ : KlH => True) (LL := klL c (ps_7.getD ((bAnd .i64 q2_ 3).toNat) 0) K) 10 ?_
  rintro ⟨pv41, sv41, rv41, ra41, rc41, y41⟩ -
  obtain ⟨d41, ret41, id41⟩ := K
  cases d41 with
  | idle =>
   refine go_weak (tm' := [(7, .bool true), (8, vP x_2), (11, vI (bAnd .i64 q2_ 3)), (12, vP (ps_7.getD ((bAnd .i64 q2_ 3).toNat) 0)), (13, vI 0)]) (L' := [.raw 0 o_, .pts b_1 [vI q0, vI q1, vI q2] 22, E3504b ba_3 p.W.A, E35fb1 p.W.A, .rd a c0 encLAct dLAct 2 xs bt r, Ed2706 x_2 c (vP ba_3) (vP rb_4) ka_5 ps_7.length kc_6 ma2_34 ((p.W.begin c (bAnd .i64 q2_ 3) 1).many.length) mc2_35 ((p.W.begin c (bAnd .i64 q2_ 3) 1).now), .sl ka_5 kc_6 encP 0 1 ps_7 68, Ee1326 ma2_34 mc2_35 ((p.W.begin c (bAnd .i64 q2_ 3) 1).many), E99bbc rb_4 p.B false 0, E35fb1 p.B, .res (KsX ps_7 ((p.W.begin c (bAnd .i64 q2_ 3) 1).ks) ((bAnd .i64 q2_ 3).toNat) c), E4463d (ps_7.getD ((bAnd .i64 q2_ 3).toNat) 0) pv41 sv41 rv41 ra41 ret41.length rc41 id41, Ee1326 ra41 rc41 ret41]) [7, 8, 11, 12, 13] [0, 1, 2, 3, 4, 5, 6, 7, 8, 9, 10, 11, 12] kR ?_
   have hKk : (p.W.begin c (bAnd .i64 q2_ 3) 1).k (bAnd .i64 q2_ 3) = ⟨.idle, ret41, id41⟩ := hK
   rw [hKk] at hst
   have hgd : ret41.length ≤ 24 := by have h9 := (o.good hc hat).2; rw [hKk] at h9; exact h9
   rw [hKk] at hbz
   exact hbz.elim
  | pub ep41 ws41 S41 =>
   refine go_weak (tm' := [(7, .bool true), (8, vP x_2), (11, vI (bAnd .i64 q2_ 3)), (12, vP (ps_7.getD ((bAnd .i64 q2_ 3).toNat) 0)), (13, vI 0)]) (L' := [.raw 0 o_, .pts b_1 [vI q0, vI q1, vI q2] 22, E3504b ba_3 p.W.A, E35fb1 p.W.A, .rd a c0 encLAct dLAct 2 xs bt r, Ed2706 x_2 c (vP ba_3) (vP rb_4) ka_5 ps_7.length kc_6 ma2_34 ((p.W.begin c (bAnd .i64 q2_ 3) 1).many.length) mc2_35 ((p.W.begin c (bAnd .i64 q2_ 3) 1).now), .sl ka_5 kc_6 encP 0 1 ps_7 68, Ee1326 ma2_34 mc2_35 ((p.W.begin c (bAnd .i64 q2_ 3) 1).many), E99bbc rb_4 p.B false 0, E35fb1 p.B, .res (KsX ps_7 ((p.W.begin c (bAnd .i64 q2_ 3) 1).ks) ((bAnd .i64 q2_ 3).toNat) c), Eff665 (ps_7.getD ((bAnd .i64 q2_ 3).toNat) 0) (vP y41) pv41 sv41 rv41 ra41 ret41.length rc41 id41, Ee1326 ra41 rc41 ret41, .res (PbR y41 c (ctlAt c 0) ep41 ws41 S41)]) [7, 8, 11, 12, 13] [0, 1, 2, 3, 4, 5, 6, 7, 8, 9, 10, 11, 12, 13] kR ?_
   have hKk : (p.W.begin c (bAnd .i64 q2_ 3) 1).k (bAnd .i64 q2_ 3) = ⟨.pub ep41 ws41 S41, ret41, id41⟩ := hK
   rw [hKk] at hst
   have hgd : ret41.length ≤ 24 := by have h9 := (o.good hc hat).2; rw [hKk] at h9; exact h9
   have hmo := most_pub hc hC.s0 hC.s1 hst
   refine gX [.e 11, .e 5, .n, .n, .e 11, .e 11, .z q92_13 0 [7, 8, 11, 13]] (gQ (ps_7.getD ((bAnd .i64 q2_ 3).toNat) 0) (gQ x_2 (gO (InK .i64 (2 * c.retry)) (by simp only [InK]; omega) (gO (InK .i64 (22 + (2 * c.retry))) (by simp only [InK]; omega) (gQ (ps_7.getD ((bAnd .i64 q2_ 3).toNat) 0) (gQ (ps_7.getD ((bAnd .i64 q2_ 3).toNat) 0) (gS [.o q92_13 0, .c q92_14, .c q92_15] ?_)))))))
   refine go_view (vK (fun _ : KlH => True) (klL c (ps_7.getD ((bAnd .i64 q2_ 3).toNat) 0) ⟨.pub ep41 ws41 S41, ret41, id41⟩) ⟨pv41, sv41, rv41, ra41, rc41, y41⟩ [11, 12, 13] trivial) ?_
   refine go_view (ks_back (ps := ps_7) (ks := (p.W.begin c (bAnd .i64 q2_ 3) 1).ks) (c := c) 11 10 ((bAnd .i64 q2_ 3).toNat) ⟨.pub ep41 ws41 S41, ret41, id41⟩ hK (by omega) (by omega)) ?_
   exact go_weak [7, 8, 11, 13] [0, 1, 5, 6, 7, 2, 3, 8, 9, 10, 4] kR (hj_36 (22 + (2 * c.retry)) (la_first o (by omega) hbz hKk (by omega) (by omega)))
  | scan S41 =>
   refine go_weak (tm' := [(7, .bool true), (8, vP x_2), (11, vI (bAnd .i64 q2_ 3)), (12, vP (ps_7.getD ((bAnd .i64 q2_ 3).toNat) 0)), (13, vI 0)]) (L' := [.raw 0 o_, .pts b_1 [vI q0, vI q1, vI q2] 22, E3504b ba_3 p.W.A, E35fb1 p.W.A, .rd a c0 encLAct dLAct 2 xs bt r, Ed2706 x_2 c (vP ba_3) (vP rb_4) ka_5 ps_7.length kc_6 ma2_34 ((p.W.begin c (bAnd .i64 q2_ 3) 1).many.length) mc2_35 ((p.W.begin c (bAnd .i64 q2_ 3) 1).now), .sl ka_5 kc_6 encP 0 1 ps_7 68, Ee1326 ma2_34 mc2_35 ((p.W.begin c (bAnd .i64 q2_ 3) 1).many), E99bbc rb_4 p.B false 0, E35fb1 p.B, .res (KsX ps_7 ((p.W.begin c (bAnd .i64 q2_ 3) 1).ks) ((bAnd .i64 q2_ 3).toNat) c), Eb05f6 (ps_7.getD ((bAnd .i64 q2_ 3).toNat) 0) (vP y41) pv41 sv41 rv41 ra41 ret41.length rc41 id41, Ee1326 ra41 rc41 ret41, .res (ScanR y41 c S41)]) [7, 8, 11, 12, 13] [0, 1, 2, 3, 4, 5, 6, 7, 8, 9, 10, 11, 12, 13] kR ?_
   have hKk : (p.W.begin c (bAnd .i64 q2_ 3) 1).k (bAnd .i64 q2_ 3) = ⟨.scan S41, ret41, id41⟩ := hK
   rw [hKk] at hst
   have hgd : ret41.length ≤ 24 := by have h9 := (o.good hc hat).2; rw [hKk] at h9; exact h9
   have hmo := most_scan hst
   refine gX [.e 11, .e 11, .e 11, .z q92_20 0 [7, 8, 11, 12]] (gQ (ps_7.getD ((bAnd .i64 q2_ 3).toNat) 0) (gQ (ps_7.getD ((bAnd .i64 q2_ 3).toNat) 0) (gQ (ps_7.getD ((bAnd .i64 q2_ 3).toNat) 0) (gS [.c q92_20, .c q92_21] ?_))))
   refine qG (kV 0 [.ww, .ww, .ww, .e 5, .ww, .ww, .ww, .e 11, .ww, .h (.n), .q (vI (c.slots + 3 * (((ret41.length : Nat) : Int) + 1) + 3)), .ww]) [7, 8, 11, 13] (.e x_2 (.e (ps_7.getD ((bAnd .i64 q2_ 3).toNat) 0) (.p (InK .i64 (((ret41.length : Nat) : Int) + 1)) (by simp only [InK]; omega) .n))) (.c Tryz.call31 (qR [] (ref15_Bound c (((ret41.length : Nat) : Int) + 1) hc (by omega))) .n) ?_
   refine gX [.z q92_13 0 [7, 8, 11, 13]] (gS [.o q92_13 0, .c q92_14, .c q92_15] ?_)
   refine go_view (vK (fun _ : KlH => True) (klL c (ps_7.getD ((bAnd .i64 q2_ 3).toNat) 0) ⟨.scan S41, ret41, id41⟩) ⟨pv41, sv41, rv41, ra41, rc41, y41⟩ [11, 12, 13] trivial) ?_
   refine go_view (ks_back (ps := ps_7) (ks := (p.W.begin c (bAnd .i64 q2_ 3) 1).ks) (c := c) 11 10 ((bAnd .i64 q2_ 3).toNat) ⟨.scan S41, ret41, id41⟩ hK (by omega) (by omega)) ?_
   exact go_weak [7, 8, 11, 13] [0, 1, 5, 6, 7, 2, 3, 8, 9, 10, 4] kR (hj_36 (c.slots + 3 * (((ret41.length : Nat) : Int) + 1) + 3) (la_first o (by omega) hbz hKk (by omega) (by omega)))
  | read cl41 ep41 S41 =>
   refine go_weak (tm' := [(7, .bool true), (8, vP x_2), (11, vI (bAnd .i64 q2_ 3)), (12, vP (ps_7.getD ((bAnd .i64 q2_ 3).toNat) 0)), (13, vI 0)]) (L' := [.raw 0 o_, .pts b_1 [vI q0, vI q1, vI q2] 22, E3504b ba_3 p.W.A, E35fb1 p.W.A, .rd a c0 encLAct dLAct 2 xs bt r, Ed2706 x_2 c (vP ba_3) (vP rb_4) ka_5 ps_7.length kc_6 ma2_34 ((p.W.begin c (bAnd .i64 q2_ 3) 1).many.length) mc2_35 ((p.W.begin c (bAnd .i64 q2_ 3) 1).now), .sl ka_5 kc_6 encP 0 1 ps_7 68, Ee1326 ma2_34 mc2_35 ((p.W.begin c (bAnd .i64 q2_ 3) 1).many), E99bbc rb_4 p.B false 0, E35fb1 p.B, .res (KsX ps_7 ((p.W.begin c (bAnd .i64 q2_ 3) 1).ks) ((bAnd .i64 q2_ 3).toNat) c), E70a74 (ps_7.getD ((bAnd .i64 q2_ 3).toNat) 0) (vP y41) pv41 sv41 rv41 ra41 ret41.length rc41 id41, Ee1326 ra41 rc41 ret41, .res (RdR y41 c cl41 0 ep41 S41)]) [7, 8, 11, 12, 13] [0, 1, 2, 3, 4, 5, 6, 7, 8, 9, 10, 11, 12, 13] kR ?_
   have hKk : (p.W.begin c (bAnd .i64 q2_ 3) 1).k (bAnd .i64 q2_ 3) = ⟨.read cl41 ep41 S41, ret41, id41⟩ := hK
   rw [hKk] at hst
   have hgd : ret41.length ≤ 24 := by have h9 := (o.good hc hat).2; rw [hKk] at h9; exact h9
   have hmo := most_read hc hst
   refine gX [.e 11, .e 11, .e 5, .n, .n, .e 11, .z q92_13 0 [7, 8, 11, 13]] (gQ (ps_7.getD ((bAnd .i64 q2_ 3).toNat) 0) (gQ (ps_7.getD ((bAnd .i64 q2_ 3).toNat) 0) (gQ x_2 (gO (InK .i64 (c.slots + 6)) (by simp only [InK]; omega) (gO (InK .i64 ((c.slots + 6) + 6)) (by simp only [InK]; omega) (gQ (ps_7.getD ((bAnd .i64 q2_ 3).toNat) 0) (gS [.o q92_13 0, .c q92_14, .c q92_15] ?_)))))))
   refine go_view (vK (fun _ : KlH => True) (klL c (ps_7.getD ((bAnd .i64 q2_ 3).toNat) 0) ⟨.read cl41 ep41 S41, ret41, id41⟩) ⟨pv41, sv41, rv41, ra41, rc41, y41⟩ [11, 12, 13] trivial) ?_
   refine go_view (ks_back (ps := ps_7) (ks := (p.W.begin c (bAnd .i64 q2_ 3) 1).ks) (c := c) 11 10 ((bAnd .i64 q2_ 3).toNat) ⟨.read cl41 ep41 S41, ret41, id41⟩ hK (by omega) (by omega)) ?_
   exact go_weak [7, 8, 11, 13] [0, 1, 5, 6, 7, 2, 3, 8, 9, 10, 4] kR (hj_36 ((c.slots + 6) + 6) (la_first o (by omega) hbz hKk (by omega) (by omega)))
end Go.Proofs.YtpcaijopodhdgaaGreatDoor

/- Walks: what functions of the program and of the document compute, part 2 of those on which LargeNil rests. -/
import Derived.Test.YtgajfjeffamnkaaGreatDoorRtA

set_option linter.unusedVariables false
set_option linter.unusedSimpArgs false

namespace Go.Proofs.YtgajfjeffamnkaaGreatDoor
open Go.Sx
abbrev E30dd4 (x0 : Nat) (x1 : Value) (x2 : Value) (x3 : Int) (x4 : Bool) (c5 : Cfg) (x6 : Int) (x7 : Int) (x8 : Value) (x9 : Int) (x10 : Int) (x11 : Int) (x12 : Int) (x13 : Int) : Ent := .pts x0 [x1, x2, .int .i64 x3, .bool x4, .int .i64 c5.topics, .int .i64 c5.small, .int .i64 c5.slots, .int .i64 c5.clients, .int .i64 c5.s0, .int .i64 c5.n0, .int .i64 c5.s1, .int .i64 c5.n1, .int .i64 c5.retry, .int .i64 x6, .int .i64 x7, x8, .int .i64 x9, .int .i64 x10, .int .u64 x11, .int .i64 x12, .int .i64 x13] 109
abbrev Ef60d6 (x0 : Nat) (x1 : Value) (x2 : Value) (x3 : Int) (x4 : Bool) (c5 : Cfg) (x6 : Int) (x7 : Int) (x8 : Option Addr) (x9 : Nat) (x10 : Nat) (x11 : Int) (x12 : Int) (x13 : Int) (x14 : Int) (x15 : Int) : Ent := .pts x0 [x1, x2, .int .i64 x3, .bool x4, .int .i64 c5.topics, .int .i64 c5.small, .int .i64 c5.slots, .int .i64 c5.clients, .int .i64 c5.s0, .int .i64 c5.n0, .int .i64 c5.s1, .int .i64 c5.n1, .int .i64 c5.retry, .int .i64 x6, .int .i64 x7, .slice x8 x9 x10, .int .i64 x11, .int .i64 x12, .int .u64 x13, .int .i64 x14, .int .i64 x15] 109
abbrev Eb76a9 (x0 : Nat) (x1 : Value) (x2 : Int) (x3 : Bool) (c4 : Cfg) (x5 : Int) (x6 : Int) (x7 : Option Addr) (x8 : Nat) (x9 : Nat) (x10 : Int) (x11 : Int) (x12 : Int) (x13 : Int) (x14 : Int) : Ent := .pts x0 [.nilIface, x1, .int .i64 x2, .bool x3, .int .i64 c4.topics, .int .i64 c4.small, .int .i64 c4.slots, .int .i64 c4.clients, .int .i64 c4.s0, .int .i64 c4.n0, .int .i64 c4.s1, .int .i64 c4.n1, .int .i64 c4.retry, .int .i64 x5, .int .i64 x6, .slice x7 x8 x9, .int .i64 x10, .int .i64 x11, .int .u64 x12, .int .i64 x13, .int .i64 x14] 109
noncomputable def B50 : Code := (Tryz.f50.body).getD .skip

theorem pub_follow (c : Cfg) (p : Nat) (wd ep bk od sn fl tm cd : Int) (ov : Bool) (wsl : Value) (r_ th_ : Value) (T_ : TypeId) (x_ : Nat) (f_ : Fn) (a_ c_ : Array Value)  :
    Ctr Tryz.prog 50 #[vP p, .iface T_ (vP x_), .func f_ a_ c_] [E30dd4 p r_ th_ cd ov c wd ep wsl bk od sn fl tm] (Ret (undef) [E30dd4 p (.iface T_ (vP x_)) (.func f_ a_ c_) cd ov c wd ep wsl bk od sn fl tm]) := by
  refine ctr_of (args := [vP p, .iface T_ (vP x_), .func f_ a_ c_]) (fn := Tryz.f50) (body := B50) (nt := 12) Tryz.func50 (by kernel_rfl) (by kernel_rfl) ?_
  intro F
  refine go_exec (rs := []) (by kernel_rfl) 4000 [.e 0] (o := .obl (p = p) (.ret (undef) [E30dd4 p (.iface T_ (vP x_)) (.func f_ a_ c_) cd ov c wd ep wsl bk od sn fl tm])) (by kernel_rfl) ?_
  refine ok_obl rfl ?_
  exact ret_ok (post := [E30dd4 p (.iface T_ (vP x_)) (.func f_ a_ c_) cd ov c wd ep wsl bk od sn fl tm]) [0] (by kernel_rfl) ⟨rfl, (by kernel_rfl)⟩

noncomputable def B57 : Code := (Tryz.f57.body).getD .skip

theorem pub_end (c : Cfg) (p : Nat) (wd ep bk od sn fl tm cd : Int) (ov : Bool) (wsl : Value) (r_ th_ : Value) (k_ : Int)  :
    Ctr Tryz.prog 57 #[vP p, vI k_] [E30dd4 p r_ th_ cd ov c wd ep wsl bk od sn fl tm] (Ret (undef) [E30dd4 p r_ th_ k_ true c wd ep wsl bk od sn fl tm]) := by
  refine ctr_of (args := [vP p, vI k_]) (fn := Tryz.f57) (body := B57) (nt := 11) Tryz.func57 (by kernel_rfl) (by kernel_rfl) ?_
  intro F
  refine go_exec (rs := []) (by kernel_rfl) 4000 [.e 0, .e 0] (o := .obl (p = p) (.obl (p = p) (.ret (undef) [E30dd4 p r_ th_ k_ true c wd ep wsl bk od sn fl tm]))) (by kernel_rfl) ?_
  refine ok_obl rfl ?_
  refine ok_obl rfl ?_
  exact ret_ok (post := [E30dd4 p r_ th_ k_ true c wd ep wsl bk od sn fl tm]) [0] (by kernel_rfl) ⟨rfl, (by kernel_rfl)⟩

noncomputable def B52 : Code := (Tryz.f52.body).getD .skip

theorem pub_taken0 (c : Cfg) (p : Nat) (wd ep bk od sn fl tm cd : Int) (ov : Bool) (wsl : Value) (r_ th_ : Value) (b_ : Int) (h0 : b_ = 0) :
    Ctr Tryz.prog 52 #[vP p, vI b_] [E30dd4 p r_ th_ cd ov c wd ep wsl bk od sn fl tm] (Ret (undef) [E30dd4 p r_ th_ 18 true c wd ep wsl bk od sn fl tm]) := by
  refine ctr_of (args := [vP p, vI b_]) (fn := Tryz.f52) (body := B52) (nt := 37) Tryz.func52 (by kernel_rfl) (by kernel_rfl) ?_
  intro F
  refine go_exec (rs := []) (by kernel_rfl) 4000 [.sp [6] [.e 1, .z [0, 0, 1, 0, 1] 3 [9]] [.dead]] (o := .new fun b_1 => .br (b_ == 0) (.obl (b_1 = b_1) (.stop [.o [0, 0, 1, 0, 1] 3, .c [1, 0, 1, 0, 1], .c [1, 1]] [(9, vP p)] [E30dd4 p r_ th_ cd ov c wd ep wsl bk od sn fl tm, .pts b_1 [vP p] 23])) (.bad)) (by kernel_rfl) ?_
  refine ok_new fun b_1 => ?_
  refine ok_br (fun _ => ?_) (fun h => absurd (show (b_ == 0) = true from (by simp [h0])) (by rw [h]; simp))
  refine ok_obl rfl ?_
  refine ok_stop ?_
  refine go_call (some 10) [0] Tryz.call57 (pub_end c p wd ep bk od sn fl tm cd ov wsl r_ th_ 18) (by kernel_rfl) ?_
  rintro v post ⟨rfl, rfl⟩
  refine go_exec (rs := []) (by kernel_rfl) 4000 [] (o := .ret (undef) [.pts b_1 [vP p] 23, E30dd4 p r_ th_ 18 true c wd ep wsl bk od sn fl tm]) (by kernel_rfl) ?_
  exact ret_ok (post := [E30dd4 p r_ th_ 18 true c wd ep wsl bk od sn fl tm]) [1] (by kernel_rfl) ⟨rfl, (by kernel_rfl)⟩


noncomputable def B51 : Code := (Tryz.f51.body).getD .skip

theorem pub_then1_0 (c : Cfg) (p bp bt k : Nat) (wd ep bk od sn fl tm cd : Int) (wa : Option Addr) (wn wc : Nat) (r_ th_ : Value) (T : Tk) (hd : T.ph = 0) (h0 : T.block = 0) :
    Ctr Tryz.prog 51 #[vP bp, vP bt] [.pts bp [vP p] 23, .pts bt [vP k] 114, E65ea3 k c T k, Ef60d6 p r_ th_ cd false c wd ep wa wn wc bk od sn fl tm] (Ret (undef) [.pts bp [vP p] 23, .pts bt [vP k] 114, E65ea3 k c T k, Ef60d6 p r_ th_ 18 true c wd ep wa wn wc bk od sn fl tm]) := by
  refine ctr_of (args := [vP bp, vP bt]) (fn := Tryz.f51) (body := B51) (nt := 6) Tryz.func51 (by kernel_rfl) (by kernel_rfl) ?_
  intro F
  refine go_tail_call (dst := (some 5)) (ps := [bp = bp, bt = bt]) (cs := [(53, #[vP k], vI T.block)]) [(0, .h (.e 0)), (1, .h (.e 1)), (2, .q (vI T.block))] 3 [] [3] [] (by kernel_rfl) Tryz.call52 (pub_taken0 c p wd ep bk od sn fl tm cd false (.slice wa wn wc) r_ th_ T.block (by first | assumption | omega | (simp only [InK] at *; omega))) (by kernel_rfl) ⟨rfl, rfl, trivial⟩ ⟨⟨Tryz.call53, quiet_of [2] (take_Block c k T hd) (by kernel_rfl) (by rintro v post ⟨rfl, rfl⟩; exact ⟨rfl, rfl⟩)⟩, trivial⟩ ?_
  rintro v post ⟨rfl, rfl⟩
  refine tail_next (tm' := []) (ps2 := []) (by kernel_rfl) trivial ?_
  refine go_exec (rs := []) (by kernel_rfl) 4000 [] (o := .ret (undef) [.pts bp [vP p] 23, .pts bt [vP k] 114, E65ea3 k c T k, Ef60d6 p r_ th_ 18 true c wd ep wa wn wc bk od sn fl tm]) (by kernel_rfl) ?_
  exact ret_ok (post := [.pts bp [vP p] 23, .pts bt [vP k] 114, E65ea3 k c T k, Ef60d6 p r_ th_ 18 true c wd ep wa wn wc bk od sn fl tm]) [0, 1, 2, 3] (by kernel_rfl) ⟨rfl, (by kernel_rfl)⟩


noncomputable def B61 : Code := (Tryz.f61.body).getD .skip

theorem pstep1N (c : Cfg) (p ba k bp bt : Nat) (wd ep bk od sn fl tm cd : Int) (wa : Option Addr) (wn wc : Nat) (T : Tk) (A : Ar) (hn : A.ws.length = A.n) (hs : 0 ≤ A.steps ∧ A.steps ≤ 1000000000) (hc : c.Ok) (hz : (A.n : Int) = sizeOfC c) (hR : RngW A.ws) (hT : T.Ok c) (hd : (T.step c A).1.ph = 0) (h0 : (T.step c A).1.block = 0) :
    Ctr Tryz.prog 61 #[vP p, vP ba] [Ef60d6 p (.iface 114 (vP k)) (.func (.func 51) #[] #[vP bp, vP bt]) cd false c wd ep wa wn wc bk od sn fl tm, .pts bp [vP p] 23, .pts bt [vP k] 114, E65ea3 k c T k, E3504b ba A, E35fb1 A] (Ret (.bool true) [Ef60d6 p (.iface 114 (vP k)) (.func (.func 51) #[] #[vP bp, vP bt]) 18 true c wd ep wa wn wc bk od sn fl tm, .pts bp [vP p] 23, .pts bt [vP k] 114, Ef47d3 k c ((T.step c A).1) k (((T.step c A).1).ph), E3504b ba ((T.step c A).2), E35fb1 ((T.step c A).2)]) := by
  refine ctr_of (args := [vP p, vP ba]) (fn := Tryz.f61) (body := B61) (nt := 29) Tryz.func61 (by kernel_rfl) (by kernel_rfl) ?_
  intro F
  refine go_exec (rs := [.tmp 4]) (by kernel_rfl) 4000 [.e 0, .e 0, .z [0, 0, 1] 12 [0, 10, 15, 16]] (o := .obl (p = p) (.obl (p = p) (.stop [.o [0, 0, 1] 12, .c [1, 0, 1], .c [1, 1]] [(0, vP p), (10, .bool true), (15, .iface 114 (vP k)), (16, vP ba)] [Ef60d6 p (.iface 114 (vP k)) (.func (.func 51) #[] #[vP bp, vP bt]) cd false c wd ep wa wn wc bk od sn fl tm, .pts bp [vP p] 23, .pts bt [vP k] 114, E65ea3 k c T k, E3504b ba A, E35fb1 A]))) (by kernel_rfl) ?_
  refine ok_obl rfl ?_
  refine ok_obl rfl ?_
  refine ok_stop ?_
  refine go_invoke (some 17) [3, 4, 5] (T := 114) (rv := vP k) (name := "Step") (fun w => by kernel_rfl) Tryz.call228 (take_Step c k ba T A (by first | assumption | omega | (simp only [InK] at *; omega)) (by first | assumption | omega | (simp only [InK] at *; omega)) (by first | assumption | omega | (simp only [InK] at *; omega)) hz hR hT) (by kernel_rfl) ?_
  rintro v post ⟨rfl, rfl⟩
  refine go_exec (rs := [.tmp 4]) (by kernel_rfl) 4000 [.sp [18, 17] [.e 0, .z [0, 1, 0, 1] 5 [0, 23]] [.dead]] (o := .obl (((T.step c A).1.ph == 0) = ((T.step c A).1.ph == 0)) (.br ((T.step c A).1.ph == 0) (.obl (p = p) (.stop [.o [0, 1, 0, 1] 5, .c [1, 1]] [(0, vP p), (23, .func (.func 51) #[] #[vP bp, vP bt])] [Ef60d6 p (.iface 114 (vP k)) (.func (.func 51) #[] #[vP bp, vP bt]) cd false c wd ep wa wn wc bk od sn fl tm, .pts bp [vP p] 23, .pts bt [vP k] 114, Ef47d3 k c ((T.step c A).1) k (((T.step c A).1).ph), E3504b ba ((T.step c A).2), E35fb1 ((T.step c A).2)])) (.bad))) (by kernel_rfl) ?_
  refine ok_obl rfl ?_
  refine ok_br (fun _ => ?_) (fun h => absurd (show ((T.step c A).1.ph == 0) = true from (beq_iff_eq.2 hd)) (by rw [h]; simp))
  refine ok_obl rfl ?_
  refine ok_stop ?_
  refine go_call (some 24) [1, 2, 3, 0] Tryz.call51 (pub_then1_0 c p bp bt k wd ep bk od sn fl tm cd wa wn wc (.iface 114 (vP k)) (.func (.func 51) #[] #[vP bp, vP bt]) ((T.step c A).1) hd h0) (by kernel_rfl) ?_
  rintro v post ⟨rfl, rfl⟩
  refine go_exec (rs := [.tmp 4]) (by kernel_rfl) 4000 [.e 5] (o := .obl (p = p) (.ret (.bool true) [E3504b ba ((T.step c A).2), E35fb1 ((T.step c A).2), .pts bp [vP p] 23, .pts bt [vP k] 114, Ef47d3 k c ((T.step c A).1) k (((T.step c A).1).ph), Ef60d6 p (.iface 114 (vP k)) (.func (.func 51) #[] #[vP bp, vP bt]) 18 true c wd ep wa wn wc bk od sn fl tm])) (by kernel_rfl) ?_
  refine ok_obl rfl ?_
  exact ret_ok (post := [Ef60d6 p (.iface 114 (vP k)) (.func (.func 51) #[] #[vP bp, vP bt]) 18 true c wd ep wa wn wc bk od sn fl tm, .pts bp [vP p] 23, .pts bt [vP k] 114, Ef47d3 k c ((T.step c A).1) k (((T.step c A).1).ph), E3504b ba ((T.step c A).2), E35fb1 ((T.step c A).2)]) [5, 2, 3, 4, 0, 1] (by kernel_rfl) ⟨rfl, (by kernel_rfl)⟩


noncomputable def B15 : Code := (Tryz.f15.body).getD .skip

theorem pub_Step1N (c : Cfg) (p ba k bp bt : Nat) (wd ep bk od sn fl tm cd : Int) (wa : Option Addr) (wn wc : Nat) (T : Tk) (A : Ar) (hn : A.ws.length = A.n) (hs : 0 ≤ A.steps ∧ A.steps ≤ 1000000000) (hc : c.Ok) (hz : (A.n : Int) = sizeOfC c) (hR : RngW A.ws) (hT : T.Ok c) (hd : (T.step c A).1.ph = 0) (h0 : (T.step c A).1.block = 0) :
    Ctr Tryz.prog 15 #[vP p, vP ba] [Ef60d6 p (.iface 114 (vP k)) (.func (.func 51) #[] #[vP bp, vP bt]) cd false c wd ep wa wn wc bk od sn fl tm, .pts bp [vP p] 23, .pts bt [vP k] 114, E65ea3 k c T k, E3504b ba A, E35fb1 A] (Ret (.bool true) [Ef60d6 p (.iface 114 (vP k)) (.func (.func 51) #[] #[vP bp, vP bt]) 18 true c wd ep wa wn wc bk od sn fl tm, .pts bp [vP p] 23, .pts bt [vP k] 114, Ef47d3 k c ((T.step c A).1) k (((T.step c A).1).ph), E3504b ba ((T.step c A).2), E35fb1 ((T.step c A).2)]) := by
  refine ctr_of (args := [vP p, vP ba]) (fn := Tryz.f15) (body := B15) (nt := 14) Tryz.func15 (by kernel_rfl) (by kernel_rfl) ?_
  intro F
  refine go_exec (rs := [.tmp 4]) (by kernel_rfl) 4000 [.z [0, 1] 7 [7, 10, 11]] (o := .stop [.o [0, 1] 7, .c [1, 1]] [(7, .bool false), (10, vP p), (11, vP ba)] [Ef60d6 p (.iface 114 (vP k)) (.func (.func 51) #[] #[vP bp, vP bt]) cd false c wd ep wa wn wc bk od sn fl tm, .pts bp [vP p] 23, .pts bt [vP k] 114, E65ea3 k c T k, E3504b ba A, E35fb1 A]) (by kernel_rfl) ?_
  refine ok_stop ?_
  refine go_call (some 12) [0, 1, 2, 3, 4, 5] Tryz.call61 (pstep1N c p ba k bp bt wd ep bk od sn fl tm cd wa wn wc T A (by first | assumption | omega | (simp only [InK] at *; omega)) (by first | assumption | omega | (simp only [InK] at *; omega)) (by first | assumption | omega | (simp only [InK] at *; omega)) (by first | assumption | omega | (simp only [InK] at *; omega)) (by first | assumption | omega | (simp only [InK] at *; omega)) hT hd h0) (by kernel_rfl) ?_
  rintro v post ⟨rfl, rfl⟩
  refine go_exec (rs := [.tmp 4]) (by kernel_rfl) 4000 [] (o := .ret (.bool true) [Ef60d6 p (.iface 114 (vP k)) (.func (.func 51) #[] #[vP bp, vP bt]) 18 true c wd ep wa wn wc bk od sn fl tm, .pts bp [vP p] 23, .pts bt [vP k] 114, Ef47d3 k c ((T.step c A).1) k (((T.step c A).1).ph), E3504b ba ((T.step c A).2), E35fb1 ((T.step c A).2)]) (by kernel_rfl) ?_
  exact ret_ok (post := [Ef60d6 p (.iface 114 (vP k)) (.func (.func 51) #[] #[vP bp, vP bt]) 18 true c wd ep wa wn wc bk od sn fl tm, .pts bp [vP p] 23, .pts bt [vP k] 114, Ef47d3 k c ((T.step c A).1) k (((T.step c A).1).ph), E3504b ba ((T.step c A).2), E35fb1 ((T.step c A).2)]) [0, 1, 2, 3, 4, 5] (by kernel_rfl) ⟨rfl, (by kernel_rfl)⟩


noncomputable def B12 : Code := (Tryz.f12.body).getD .skip

theorem new_PubF (c : Cfg) (tp ep : Int) (a : Option Addr) (cw : Nat) (ws : List Int) (hc : c.Ok) (hl : ws.length ≤ 1000000) (hf : (fitK c ((ws.length : Nat) : Int)) = -1) :
    Ctr Tryz.prog 12 #[cfgV c, vI tp, vI ep, .slice a ws.length cw] [E54ea0 a cw ws] (Ret (.pointer none) [E54ea0 a cw ws]) := by
  refine ctr_of (args := [cfgV c, vI tp, vI ep, .slice a ws.length cw]) (fn := Tryz.f12) (body := B12) (nt := 45) Tryz.func12 (by kernel_rfl) (by kernel_rfl) ?_
  intro F
  refine go_exec (rs := [.tmp 8]) (by kernel_rfl) 4000 [.e 1, .z [0, 1] 3 [1, 2, 3, 4, 12, 14]] (o := .new fun b_1 => .obl (b_1 = b_1) (.stop [.o [0, 1] 3, .c [1, 1]] [(1, vI tp), (2, vI ep), (3, .slice a ws.length cw), (4, vP b_1), (12, cfgV c), (14, vI ((ws.length : Nat) : Int))] [E54ea0 a cw ws, Efdc04 b_1 c])) (by kernel_rfl) ?_
  refine ok_new fun b_1 => ?_
  refine ok_obl rfl ?_
  refine ok_stop ?_
  refine go_call (some 15) [] Tryz.call24 (large_Fits c ((ws.length : Nat) : Int) (by first | assumption | omega | (simp only [InK] at *; omega))) (by kernel_rfl) ?_
  rintro v post ⟨rfl, rfl⟩
  refine go_exec (rs := [.tmp 8]) (by kernel_rfl) 4000 [.z [0, 1, 1] 0 [1, 2, 3, 4, 9]] (o := .stop [.c [0, 1, 1], .c [1, 1, 1]] [(1, vI tp), (2, vI ep), (3, .slice a ws.length cw), (4, vP b_1), (9, vI (fitK c ((ws.length : Nat) : Int)))] [E54ea0 a cw ws, Efdc04 b_1 c]) (by kernel_rfl) ?_
  refine ok_stop ?_
  have aS7_1 : ∀ (a2_6_1 : Option Addr) (c2_6_1 : Nat) (b_8_1 : Nat) (b_9_1 : Nat), Any Tryz.prog Tryz.f12 B12 45 F (RetR F (Ret (.pointer none) [E54ea0 a cw ws])) (regOps B12 [0, 1, 1]) [.c [1, 1, 1]] #[true, true, true, true, true, true, true, true, true, true, true] [(4, vP b_1), (9, vI (fitK c ((ws.length : Nat) : Int))), (10, vP b_9_1)] [Efdc04 b_1 c, E54ea0 a cw ws, E54ea0 a2_6_1 c2_6_1 ws, Eb76a9 b_8_1 (.nilFunc) 0 false c (ctlAt c tp) ep a2_6_1 ws.length c2_6_1 0 0 0 0 0, .pts b_9_1 [vP b_8_1] 23] := by
    intro a2_6_1 c2_6_1 b_8_1 b_9_1
    refine any_done (by kernel_rfl) ?_
    refine go_exec (rs := [.tmp 8]) (by kernel_rfl) 4000 [.sp [27, 26] [] [.dead]] (o := .obl (((fitK c ((ws.length : Nat) : Int)) == (-1)) = ((fitK c ((ws.length : Nat) : Int)) == (-1))) (.br ((fitK c ((ws.length : Nat) : Int)) == (-1)) (.ret (.pointer none) [Efdc04 b_1 c, E54ea0 a cw ws, E54ea0 a2_6_1 c2_6_1 ws, Eb76a9 b_8_1 (.nilFunc) 0 false c (ctlAt c tp) ep a2_6_1 ws.length c2_6_1 0 0 0 0 0, .pts b_9_1 [vP b_8_1] 23]) (.bad))) (by kernel_rfl) ?_
    refine ok_obl rfl ?_
    refine ok_br (fun _ => ?_) (fun h => absurd (show ((fitK c ((ws.length : Nat) : Int)) == (-1)) = true from (beq_iff_eq.2 hf)) (by rw [h]; simp))
    exact ret_ok (post := [E54ea0 a cw ws]) [1] (by kernel_rfl) ⟨rfl, (by kernel_rfl)⟩
  have aS6_1 : ∀ (a2_6_1 : Option Addr) (c2_6_1 : Nat) (b_8_1 : Nat) (b_9_1 : Nat), Any Tryz.prog Tryz.f12 B12 45 F (RetR F (Ret (.pointer none) [E54ea0 a cw ws])) (regOps B12 [0, 1, 1]) [.c [1, 1, 1]] #[true, true, true, true, true, true, true, true, true, true, false] [(4, vP b_1), (9, vI (fitK c ((ws.length : Nat) : Int))), (24, vP b_8_1), (10, vP b_9_1)] [Efdc04 b_1 c, E54ea0 a cw ws, E54ea0 a2_6_1 c2_6_1 ws, Eb76a9 b_8_1 (.nilFunc) 0 false c (ctlAt c tp) ep a2_6_1 ws.length c2_6_1 0 0 0 0 0, .pts b_9_1 [.pointer none] 23] := by
    intro a2_6_1 c2_6_1 b_8_1 b_9_1
    refine any_step [10] (by kernel_rfl) rfl ⟨?_, trivial⟩
    · refine any_op (so := .obl (b_9_1 = b_9_1) (.ok .skip [Efdc04 b_1 c, E54ea0 a cw ws, E54ea0 a2_6_1 c2_6_1 ws, Eb76a9 b_8_1 (.nilFunc) 0 false c (ctlAt c tp) ep a2_6_1 ws.length c2_6_1 0 0 0 0 0, .pts b_9_1 [vP b_8_1] 23])) (dst := none) (.e 4) (by kernel_rfl) ?_
      refine sat_obl rfl ?_
      refine sat_skip ?_
      refine any_pure (l' := #[true, true, true, true, true, true, true, true, true, true, true]) (tm' := [(4, vP b_1), (9, vI (fitK c ((ws.length : Nat) : Int))), (10, vP b_9_1)]) (ps := []) [] [4, 9, 10] (by kernel_rfl) trivial ?_
      exact aS7_1 a2_6_1 c2_6_1 b_8_1 b_9_1
  have aS5_1 : ∀ (a2_6_1 : Option Addr) (c2_6_1 : Nat) (b_8_1 : Nat), Any Tryz.prog Tryz.f12 B12 45 F (RetR F (Ret (.pointer none) [E54ea0 a cw ws])) (regOps B12 [0, 1, 1]) [.c [1, 1, 1]] #[true, true, true, true, true, true, true, true, true, false, false] [(4, vP b_1), (9, vI (fitK c ((ws.length : Nat) : Int))), (24, vP b_8_1)] [Efdc04 b_1 c, E54ea0 a cw ws, E54ea0 a2_6_1 c2_6_1 ws, Eb76a9 b_8_1 (.nilFunc) 0 false c (ctlAt c tp) ep a2_6_1 ws.length c2_6_1 0 0 0 0 0] := by
    intro a2_6_1 c2_6_1 b_8_1
    refine any_step [9] (by kernel_rfl) rfl ⟨?_, trivial⟩
    · refine any_op (so := .new fun b_9_1 => .ok (.value (vP b_9_1)) [Efdc04 b_1 c, E54ea0 a cw ws, E54ea0 a2_6_1 c2_6_1 ws, Eb76a9 b_8_1 (.nilFunc) 0 false c (ctlAt c tp) ep a2_6_1 ws.length c2_6_1 0 0 0 0 0, .pts b_9_1 [.pointer none] 23]) (dst := (some 10)) .w (by kernel_rfl) ?_
      refine sat_new fun b_9_1 => ?_
      refine sat_value ?_
      refine any_pure (l' := #[true, true, true, true, true, true, true, true, true, true, false]) (tm' := [(4, vP b_1), (9, vI (fitK c ((ws.length : Nat) : Int))), (24, vP b_8_1), (10, vP b_9_1)]) (ps := []) [] [4, 9, 24, 10] (by kernel_rfl) trivial ?_
      exact aS6_1 a2_6_1 c2_6_1 b_8_1 b_9_1
  have aS8_1 : ∀ (a2_6_1 : Option Addr) (c2_6_1 : Nat) (b_9_1 : Nat), Any Tryz.prog Tryz.f12 B12 45 F (RetR F (Ret (.pointer none) [E54ea0 a cw ws])) (regOps B12 [0, 1, 1]) [.c [1, 1, 1]] #[true, true, true, true, true, true, true, true, false, true, false] [(4, vP b_1), (9, vI (fitK c ((ws.length : Nat) : Int))), (23, .agg #[.nilIface, .nilFunc, vI 0, .bool false, vI c.topics, vI c.small, vI c.slots, vI c.clients, vI c.s0, vI c.n0, vI c.s1, vI c.n1, vI c.retry, vI (ctlAt c tp), vI ep, .slice a2_6_1 ws.length c2_6_1, vI 0, vI 0, vU 0, vI 0, vI 0]), (10, vP b_9_1)] [Efdc04 b_1 c, E54ea0 a cw ws, E54ea0 a2_6_1 c2_6_1 ws, .pts b_9_1 [.pointer none] 23] := by
    intro a2_6_1 c2_6_1 b_9_1
    refine any_step [8] (by kernel_rfl) rfl ⟨?_, trivial⟩
    · refine any_op (so := .new fun b_8_1 => .ok (.value (vP b_8_1)) [Efdc04 b_1 c, E54ea0 a cw ws, E54ea0 a2_6_1 c2_6_1 ws, .pts b_9_1 [.pointer none] 23, Eb76a9 b_8_1 (.nilFunc) 0 false c (ctlAt c tp) ep a2_6_1 ws.length c2_6_1 0 0 0 0 0]) (dst := (some 24)) .w (by kernel_rfl) ?_
      refine sat_new fun b_8_1 => ?_
      refine sat_value ?_
      refine any_pure (l' := #[true, true, true, true, true, true, true, true, true, true, false]) (tm' := [(4, vP b_1), (9, vI (fitK c ((ws.length : Nat) : Int))), (24, vP b_8_1), (10, vP b_9_1)]) (ps := []) [] [4, 9, 24, 10] (by kernel_rfl) trivial ?_
      refine any_weak (tm' := [(4, vP b_1), (9, vI (fitK c ((ws.length : Nat) : Int))), (24, vP b_8_1), (10, vP b_9_1)]) (L' := [Efdc04 b_1 c, E54ea0 a cw ws, E54ea0 a2_6_1 c2_6_1 ws, Eb76a9 b_8_1 (.nilFunc) 0 false c (ctlAt c tp) ep a2_6_1 ws.length c2_6_1 0 0 0 0 0, .pts b_9_1 [.pointer none] 23]) [4, 9, 24, 10] [0, 1, 2, 4, 3] (by kernel_rfl) ?_
      exact aS6_1 a2_6_1 c2_6_1 b_8_1 b_9_1
  have aS4_1 : ∀ (a2_6_1 : Option Addr) (c2_6_1 : Nat), Any Tryz.prog Tryz.f12 B12 45 F (RetR F (Ret (.pointer none) [E54ea0 a cw ws])) (regOps B12 [0, 1, 1]) [.c [1, 1, 1]] #[true, true, true, true, true, true, true, true, false, false, false] [(4, vP b_1), (9, vI (fitK c ((ws.length : Nat) : Int))), (23, .agg #[.nilIface, .nilFunc, vI 0, .bool false, vI c.topics, vI c.small, vI c.slots, vI c.clients, vI c.s0, vI c.n0, vI c.s1, vI c.n1, vI c.retry, vI (ctlAt c tp), vI ep, .slice a2_6_1 ws.length c2_6_1, vI 0, vI 0, vU 0, vI 0, vI 0])] [Efdc04 b_1 c, E54ea0 a cw ws, E54ea0 a2_6_1 c2_6_1 ws] := by
    intro a2_6_1 c2_6_1
    refine any_step [8, 9] (by kernel_rfl) rfl ⟨?_, ?_, trivial⟩
    · refine any_op (so := .new fun b_8_1 => .ok (.value (vP b_8_1)) [Efdc04 b_1 c, E54ea0 a cw ws, E54ea0 a2_6_1 c2_6_1 ws, Eb76a9 b_8_1 (.nilFunc) 0 false c (ctlAt c tp) ep a2_6_1 ws.length c2_6_1 0 0 0 0 0]) (dst := (some 24)) .w (by kernel_rfl) ?_
      refine sat_new fun b_8_1 => ?_
      refine sat_value ?_
      refine any_pure (l' := #[true, true, true, true, true, true, true, true, true, false, false]) (tm' := [(4, vP b_1), (9, vI (fitK c ((ws.length : Nat) : Int))), (24, vP b_8_1)]) (ps := []) [] [4, 9, 24] (by kernel_rfl) trivial ?_
      exact aS5_1 a2_6_1 c2_6_1 b_8_1
    · refine any_op (so := .new fun b_9_1 => .ok (.value (vP b_9_1)) [Efdc04 b_1 c, E54ea0 a cw ws, E54ea0 a2_6_1 c2_6_1 ws, .pts b_9_1 [.pointer none] 23]) (dst := (some 10)) .w (by kernel_rfl) ?_
      refine sat_new fun b_9_1 => ?_
      refine sat_value ?_
      refine any_pure (l' := #[true, true, true, true, true, true, true, true, false, true, false]) (tm' := [(4, vP b_1), (9, vI (fitK c ((ws.length : Nat) : Int))), (23, .agg #[.nilIface, .nilFunc, vI 0, .bool false, vI c.topics, vI c.small, vI c.slots, vI c.clients, vI c.s0, vI c.n0, vI c.s1, vI c.n1, vI c.retry, vI (ctlAt c tp), vI ep, .slice a2_6_1 ws.length c2_6_1, vI 0, vI 0, vU 0, vI 0, vI 0]), (10, vP b_9_1)]) (ps := []) [] [4, 9, 23, 10] (by kernel_rfl) trivial ?_
      exact aS8_1 a2_6_1 c2_6_1 b_9_1
  have aS9_1 : ∀ (b_9_1 : Nat), Any Tryz.prog Tryz.f12 B12 45 F (RetR F (Ret (.pointer none) [E54ea0 a cw ws])) (regOps B12 [0, 1, 1]) [.c [1, 1, 1]] #[true, true, true, true, true, true, false, false, false, true, false] [(4, vP b_1), (9, vI (fitK c ((ws.length : Nat) : Int))), (20, vI ep), (21, .slice a ws.length cw), (16, cfgV c), (19, vI (ctlAt c tp)), (10, vP b_9_1)] [E54ea0 a cw ws, Efdc04 b_1 c, .pts b_9_1 [.pointer none] 23] := by
    intro b_9_1
    refine any_step [6] (by kernel_rfl) rfl ⟨?_, trivial⟩
    · refine any_call (some 22) [0] Tryz.call47 (clone_n a cw ws.length ws (by first | assumption | omega | (simp only [InK] at *; omega)) (by first | assumption | omega | (simp only [InK] at *; omega))) (by kernel_rfl) ?_
      rintro v post ⟨a2_6_1, c2_6_1, rfl, rfl⟩
      refine any_pure (l' := #[true, true, true, true, true, true, true, true, false, true, false]) (tm' := [(4, vP b_1), (9, vI (fitK c ((ws.length : Nat) : Int))), (23, .agg #[.nilIface, .nilFunc, vI 0, .bool false, vI c.topics, vI c.small, vI c.slots, vI c.clients, vI c.s0, vI c.n0, vI c.s1, vI c.n1, vI c.retry, vI (ctlAt c tp), vI ep, .slice a2_6_1 ws.length c2_6_1, vI 0, vI 0, vU 0, vI 0, vI 0]), (10, vP b_9_1)]) (ps := []) [] [4, 9, 23, 10] (by kernel_rfl) trivial ?_
      refine any_weak (tm' := [(4, vP b_1), (9, vI (fitK c ((ws.length : Nat) : Int))), (23, .agg #[.nilIface, .nilFunc, vI 0, .bool false, vI c.topics, vI c.small, vI c.slots, vI c.clients, vI c.s0, vI c.n0, vI c.s1, vI c.n1, vI c.retry, vI (ctlAt c tp), vI ep, .slice a2_6_1 ws.length c2_6_1, vI 0, vI 0, vU 0, vI 0, vI 0]), (10, vP b_9_1)]) (L' := [Efdc04 b_1 c, E54ea0 a cw ws, E54ea0 a2_6_1 c2_6_1 ws, .pts b_9_1 [.pointer none] 23]) [4, 9, 23, 10] [0, 2, 3, 1] (by kernel_rfl) ?_
      exact aS8_1 a2_6_1 c2_6_1 b_9_1
  have aS3_1 : Any Tryz.prog Tryz.f12 B12 45 F (RetR F (Ret (.pointer none) [E54ea0 a cw ws])) (regOps B12 [0, 1, 1]) [.c [1, 1, 1]] #[true, true, true, true, true, true, false, false, false, false, false] [(4, vP b_1), (9, vI (fitK c ((ws.length : Nat) : Int))), (20, vI ep), (21, .slice a ws.length cw), (16, cfgV c), (19, vI (ctlAt c tp))] [E54ea0 a cw ws, Efdc04 b_1 c] := by
    refine any_step [6, 9] (by kernel_rfl) rfl ⟨?_, ?_, trivial⟩
    · refine any_call (some 22) [0] Tryz.call47 (clone_n a cw ws.length ws (by first | assumption | omega | (simp only [InK] at *; omega)) (by first | assumption | omega | (simp only [InK] at *; omega))) (by kernel_rfl) ?_
      rintro v post ⟨a2_6_1, c2_6_1, rfl, rfl⟩
      refine any_pure (l' := #[true, true, true, true, true, true, true, true, false, false, false]) (tm' := [(4, vP b_1), (9, vI (fitK c ((ws.length : Nat) : Int))), (23, .agg #[.nilIface, .nilFunc, vI 0, .bool false, vI c.topics, vI c.small, vI c.slots, vI c.clients, vI c.s0, vI c.n0, vI c.s1, vI c.n1, vI c.retry, vI (ctlAt c tp), vI ep, .slice a2_6_1 ws.length c2_6_1, vI 0, vI 0, vU 0, vI 0, vI 0])]) (ps := []) [] [4, 9, 23] (by kernel_rfl) trivial ?_
      exact aS4_1 a2_6_1 c2_6_1
    · refine any_op (so := .new fun b_9_1 => .ok (.value (vP b_9_1)) [E54ea0 a cw ws, Efdc04 b_1 c, .pts b_9_1 [.pointer none] 23]) (dst := (some 10)) .w (by kernel_rfl) ?_
      refine sat_new fun b_9_1 => ?_
      refine sat_value ?_
      refine any_pure (l' := #[true, true, true, true, true, true, false, false, false, true, false]) (tm' := [(4, vP b_1), (9, vI (fitK c ((ws.length : Nat) : Int))), (20, vI ep), (21, .slice a ws.length cw), (16, cfgV c), (19, vI (ctlAt c tp)), (10, vP b_9_1)]) (ps := []) [] [4, 9, 20, 21, 16, 19, 10] (by kernel_rfl) trivial ?_
      exact aS9_1 b_9_1
  have aS10_1 : ∀ (b_9_1 : Nat), Any Tryz.prog Tryz.f12 B12 45 F (RetR F (Ret (.pointer none) [E54ea0 a cw ws])) (regOps B12 [0, 1, 1]) [.c [1, 1, 1]] #[true, true, true, false, true, true, false, false, false, true, false] [(4, vP b_1), (9, vI (fitK c ((ws.length : Nat) : Int))), (18, vI tp), (20, vI ep), (21, .slice a ws.length cw), (16, cfgV c), (17, cfgV c), (10, vP b_9_1)] [E54ea0 a cw ws, Efdc04 b_1 c, .pts b_9_1 [.pointer none] 23] := by
    intro b_9_1
    refine any_step [3] (by kernel_rfl) rfl ⟨?_, trivial⟩
    · refine any_call (some 19) [] Tryz.call48 (plan_Control c tp (by first | assumption | omega | (simp only [InK] at *; omega))) (by kernel_rfl) ?_
      rintro v post ⟨rfl, rfl⟩
      refine any_pure (l' := #[true, true, true, true, true, true, false, false, false, true, false]) (tm' := [(4, vP b_1), (9, vI (fitK c ((ws.length : Nat) : Int))), (20, vI ep), (21, .slice a ws.length cw), (16, cfgV c), (19, vI (ctlAt c tp)), (10, vP b_9_1)]) (ps := []) [] [4, 9, 20, 21, 16, 19, 10] (by kernel_rfl) trivial ?_
      exact aS9_1 b_9_1
  have aS2_1 : Any Tryz.prog Tryz.f12 B12 45 F (RetR F (Ret (.pointer none) [E54ea0 a cw ws])) (regOps B12 [0, 1, 1]) [.c [1, 1, 1]] #[true, true, true, false, true, true, false, false, false, false, false] [(4, vP b_1), (9, vI (fitK c ((ws.length : Nat) : Int))), (18, vI tp), (20, vI ep), (21, .slice a ws.length cw), (16, cfgV c), (17, cfgV c)] [E54ea0 a cw ws, Efdc04 b_1 c] := by
    refine any_step [3, 9] (by kernel_rfl) rfl ⟨?_, ?_, trivial⟩
    · refine any_call (some 19) [] Tryz.call48 (plan_Control c tp (by first | assumption | omega | (simp only [InK] at *; omega))) (by kernel_rfl) ?_
      rintro v post ⟨rfl, rfl⟩
      refine any_pure (l' := #[true, true, true, true, true, true, false, false, false, false, false]) (tm' := [(4, vP b_1), (9, vI (fitK c ((ws.length : Nat) : Int))), (20, vI ep), (21, .slice a ws.length cw), (16, cfgV c), (19, vI (ctlAt c tp))]) (ps := []) [] [4, 9, 20, 21, 16, 19] (by kernel_rfl) trivial ?_
      exact aS3_1
    · refine any_op (so := .new fun b_9_1 => .ok (.value (vP b_9_1)) [E54ea0 a cw ws, Efdc04 b_1 c, .pts b_9_1 [.pointer none] 23]) (dst := (some 10)) .w (by kernel_rfl) ?_
      refine sat_new fun b_9_1 => ?_
      refine sat_value ?_
      refine any_pure (l' := #[true, true, true, false, true, true, false, false, false, true, false]) (tm' := [(4, vP b_1), (9, vI (fitK c ((ws.length : Nat) : Int))), (18, vI tp), (20, vI ep), (21, .slice a ws.length cw), (16, cfgV c), (17, cfgV c), (10, vP b_9_1)]) (ps := []) [] [4, 9, 18, 20, 21, 16, 17, 10] (by kernel_rfl) trivial ?_
      exact aS10_1 b_9_1
  have aS11_1 : ∀ (b_9_1 : Nat), Any Tryz.prog Tryz.f12 B12 45 F (RetR F (Ret (.pointer none) [E54ea0 a cw ws])) (regOps B12 [0, 1, 1]) [.c [1, 1, 1]] #[true, false, true, false, true, true, false, false, false, true, false] [(4, vP b_1), (9, vI (fitK c ((ws.length : Nat) : Int))), (18, vI tp), (20, vI ep), (21, .slice a ws.length cw), (16, cfgV c), (10, vP b_9_1)] [E54ea0 a cw ws, Efdc04 b_1 c, .pts b_9_1 [.pointer none] 23] := by
    intro b_9_1
    refine any_step [1] (by kernel_rfl) rfl ⟨?_, trivial⟩
    · refine any_op (so := .obl (b_1 = b_1) (.ok (.value (cfgV c)) [E54ea0 a cw ws, Efdc04 b_1 c, .pts b_9_1 [.pointer none] 23])) (dst := (some 17)) (.e 1) (by kernel_rfl) ?_
      refine sat_obl rfl ?_
      refine sat_value ?_
      refine any_pure (l' := #[true, true, true, false, true, true, false, false, false, true, false]) (tm' := [(4, vP b_1), (9, vI (fitK c ((ws.length : Nat) : Int))), (18, vI tp), (20, vI ep), (21, .slice a ws.length cw), (16, cfgV c), (17, cfgV c), (10, vP b_9_1)]) (ps := []) [] [4, 9, 18, 20, 21, 16, 17, 10] (by kernel_rfl) trivial ?_
      exact aS10_1 b_9_1
  have aS1_1 : Any Tryz.prog Tryz.f12 B12 45 F (RetR F (Ret (.pointer none) [E54ea0 a cw ws])) (regOps B12 [0, 1, 1]) [.c [1, 1, 1]] #[true, false, true, false, true, true, false, false, false, false, false] [(4, vP b_1), (9, vI (fitK c ((ws.length : Nat) : Int))), (18, vI tp), (20, vI ep), (21, .slice a ws.length cw), (16, cfgV c)] [E54ea0 a cw ws, Efdc04 b_1 c] := by
    refine any_step [1, 9] (by kernel_rfl) rfl ⟨?_, ?_, trivial⟩
    · refine any_op (so := .obl (b_1 = b_1) (.ok (.value (cfgV c)) [E54ea0 a cw ws, Efdc04 b_1 c])) (dst := (some 17)) (.e 1) (by kernel_rfl) ?_
      refine sat_obl rfl ?_
      refine sat_value ?_
      refine any_pure (l' := #[true, true, true, false, true, true, false, false, false, false, false]) (tm' := [(4, vP b_1), (9, vI (fitK c ((ws.length : Nat) : Int))), (18, vI tp), (20, vI ep), (21, .slice a ws.length cw), (16, cfgV c), (17, cfgV c)]) (ps := []) [] [4, 9, 18, 20, 21, 16, 17] (by kernel_rfl) trivial ?_
      exact aS2_1
    · refine any_op (so := .new fun b_9_1 => .ok (.value (vP b_9_1)) [E54ea0 a cw ws, Efdc04 b_1 c, .pts b_9_1 [.pointer none] 23]) (dst := (some 10)) .w (by kernel_rfl) ?_
      refine sat_new fun b_9_1 => ?_
      refine sat_value ?_
      refine any_pure (l' := #[true, false, true, false, true, true, false, false, false, true, false]) (tm' := [(4, vP b_1), (9, vI (fitK c ((ws.length : Nat) : Int))), (18, vI tp), (20, vI ep), (21, .slice a ws.length cw), (16, cfgV c), (10, vP b_9_1)]) (ps := []) [] [4, 9, 18, 20, 21, 16, 10] (by kernel_rfl) trivial ?_
      exact aS11_1 b_9_1
  have aS15_1 : ∀ (a2_6_1 : Option Addr) (c2_6_1 : Nat) (b_9_1 : Nat), Any Tryz.prog Tryz.f12 B12 45 F (RetR F (Ret (.pointer none) [E54ea0 a cw ws])) (regOps B12 [0, 1, 1]) [.c [1, 1, 1]] #[false, true, true, true, true, true, true, false, false, true, false] [(4, vP b_1), (9, vI (fitK c ((ws.length : Nat) : Int))), (20, vI ep), (19, vI (ctlAt c tp)), (22, .slice a2_6_1 ws.length c2_6_1), (10, vP b_9_1)] [Efdc04 b_1 c, E54ea0 a cw ws, E54ea0 a2_6_1 c2_6_1 ws, .pts b_9_1 [.pointer none] 23] := by
    intro a2_6_1 c2_6_1 b_9_1
    refine any_step [0] (by kernel_rfl) rfl ⟨?_, trivial⟩
    · refine any_op (so := .obl (b_1 = b_1) (.ok (.value (cfgV c)) [Efdc04 b_1 c, E54ea0 a cw ws, E54ea0 a2_6_1 c2_6_1 ws, .pts b_9_1 [.pointer none] 23])) (dst := (some 16)) (.e 0) (by kernel_rfl) ?_
      refine sat_obl rfl ?_
      refine sat_value ?_
      refine any_pure (l' := #[true, true, true, true, true, true, true, true, false, true, false]) (tm' := [(4, vP b_1), (9, vI (fitK c ((ws.length : Nat) : Int))), (23, .agg #[.nilIface, .nilFunc, vI 0, .bool false, vI c.topics, vI c.small, vI c.slots, vI c.clients, vI c.s0, vI c.n0, vI c.s1, vI c.n1, vI c.retry, vI (ctlAt c tp), vI ep, .slice a2_6_1 ws.length c2_6_1, vI 0, vI 0, vU 0, vI 0, vI 0]), (10, vP b_9_1)]) (ps := []) [] [4, 9, 23, 10] (by kernel_rfl) trivial ?_
      exact aS8_1 a2_6_1 c2_6_1 b_9_1
  have aS14_1 : ∀ (a2_6_1 : Option Addr) (c2_6_1 : Nat), Any Tryz.prog Tryz.f12 B12 45 F (RetR F (Ret (.pointer none) [E54ea0 a cw ws])) (regOps B12 [0, 1, 1]) [.c [1, 1, 1]] #[false, true, true, true, true, true, true, false, false, false, false] [(4, vP b_1), (9, vI (fitK c ((ws.length : Nat) : Int))), (20, vI ep), (19, vI (ctlAt c tp)), (22, .slice a2_6_1 ws.length c2_6_1)] [Efdc04 b_1 c, E54ea0 a cw ws, E54ea0 a2_6_1 c2_6_1 ws] := by
    intro a2_6_1 c2_6_1
    refine any_step [0, 9] (by kernel_rfl) rfl ⟨?_, ?_, trivial⟩
    · refine any_op (so := .obl (b_1 = b_1) (.ok (.value (cfgV c)) [Efdc04 b_1 c, E54ea0 a cw ws, E54ea0 a2_6_1 c2_6_1 ws])) (dst := (some 16)) (.e 0) (by kernel_rfl) ?_
      refine sat_obl rfl ?_
      refine sat_value ?_
      refine any_pure (l' := #[true, true, true, true, true, true, true, true, false, false, false]) (tm' := [(4, vP b_1), (9, vI (fitK c ((ws.length : Nat) : Int))), (23, .agg #[.nilIface, .nilFunc, vI 0, .bool false, vI c.topics, vI c.small, vI c.slots, vI c.clients, vI c.s0, vI c.n0, vI c.s1, vI c.n1, vI c.retry, vI (ctlAt c tp), vI ep, .slice a2_6_1 ws.length c2_6_1, vI 0, vI 0, vU 0, vI 0, vI 0])]) (ps := []) [] [4, 9, 23] (by kernel_rfl) trivial ?_
      exact aS4_1 a2_6_1 c2_6_1
    · refine any_op (so := .new fun b_9_1 => .ok (.value (vP b_9_1)) [Efdc04 b_1 c, E54ea0 a cw ws, E54ea0 a2_6_1 c2_6_1 ws, .pts b_9_1 [.pointer none] 23]) (dst := (some 10)) .w (by kernel_rfl) ?_
      refine sat_new fun b_9_1 => ?_
      refine sat_value ?_
      refine any_pure (l' := #[false, true, true, true, true, true, true, false, false, true, false]) (tm' := [(4, vP b_1), (9, vI (fitK c ((ws.length : Nat) : Int))), (20, vI ep), (19, vI (ctlAt c tp)), (22, .slice a2_6_1 ws.length c2_6_1), (10, vP b_9_1)]) (ps := []) [] [4, 9, 20, 19, 22, 10] (by kernel_rfl) trivial ?_
      exact aS15_1 a2_6_1 c2_6_1 b_9_1
  have aS16_1 : ∀ (b_9_1 : Nat), Any Tryz.prog Tryz.f12 B12 45 F (RetR F (Ret (.pointer none) [E54ea0 a cw ws])) (regOps B12 [0, 1, 1]) [.c [1, 1, 1]] #[false, true, true, true, true, true, false, false, false, true, false] [(4, vP b_1), (9, vI (fitK c ((ws.length : Nat) : Int))), (20, vI ep), (21, .slice a ws.length cw), (19, vI (ctlAt c tp)), (10, vP b_9_1)] [E54ea0 a cw ws, Efdc04 b_1 c, .pts b_9_1 [.pointer none] 23] := by
    intro b_9_1
    refine any_step [0, 6] (by kernel_rfl) rfl ⟨?_, ?_, trivial⟩
    · refine any_op (so := .obl (b_1 = b_1) (.ok (.value (cfgV c)) [E54ea0 a cw ws, Efdc04 b_1 c, .pts b_9_1 [.pointer none] 23])) (dst := (some 16)) (.e 1) (by kernel_rfl) ?_
      refine sat_obl rfl ?_
      refine sat_value ?_
      refine any_pure (l' := #[true, true, true, true, true, true, false, false, false, true, false]) (tm' := [(4, vP b_1), (9, vI (fitK c ((ws.length : Nat) : Int))), (20, vI ep), (21, .slice a ws.length cw), (16, cfgV c), (19, vI (ctlAt c tp)), (10, vP b_9_1)]) (ps := []) [] [4, 9, 20, 21, 16, 19, 10] (by kernel_rfl) trivial ?_
      exact aS9_1 b_9_1
    · refine any_call (some 22) [0] Tryz.call47 (clone_n a cw ws.length ws (by first | assumption | omega | (simp only [InK] at *; omega)) (by first | assumption | omega | (simp only [InK] at *; omega))) (by kernel_rfl) ?_
      rintro v post ⟨a2_6_1, c2_6_1, rfl, rfl⟩
      refine any_pure (l' := #[false, true, true, true, true, true, true, false, false, true, false]) (tm' := [(4, vP b_1), (9, vI (fitK c ((ws.length : Nat) : Int))), (20, vI ep), (19, vI (ctlAt c tp)), (22, .slice a2_6_1 ws.length c2_6_1), (10, vP b_9_1)]) (ps := []) [] [4, 9, 20, 19, 22, 10] (by kernel_rfl) trivial ?_
      refine any_weak (tm' := [(4, vP b_1), (9, vI (fitK c ((ws.length : Nat) : Int))), (20, vI ep), (19, vI (ctlAt c tp)), (22, .slice a2_6_1 ws.length c2_6_1), (10, vP b_9_1)]) (L' := [Efdc04 b_1 c, E54ea0 a cw ws, E54ea0 a2_6_1 c2_6_1 ws, .pts b_9_1 [.pointer none] 23]) [4, 9, 20, 19, 22, 10] [0, 2, 3, 1] (by kernel_rfl) ?_
      exact aS15_1 a2_6_1 c2_6_1 b_9_1
  have aS13_1 : Any Tryz.prog Tryz.f12 B12 45 F (RetR F (Ret (.pointer none) [E54ea0 a cw ws])) (regOps B12 [0, 1, 1]) [.c [1, 1, 1]] #[false, true, true, true, true, true, false, false, false, false, false] [(4, vP b_1), (9, vI (fitK c ((ws.length : Nat) : Int))), (20, vI ep), (21, .slice a ws.length cw), (19, vI (ctlAt c tp))] [E54ea0 a cw ws, Efdc04 b_1 c] := by
    refine any_step [0, 6, 9] (by kernel_rfl) rfl ⟨?_, ?_, ?_, trivial⟩
    · refine any_op (so := .obl (b_1 = b_1) (.ok (.value (cfgV c)) [E54ea0 a cw ws, Efdc04 b_1 c])) (dst := (some 16)) (.e 1) (by kernel_rfl) ?_
      refine sat_obl rfl ?_
      refine sat_value ?_
      refine any_pure (l' := #[true, true, true, true, true, true, false, false, false, false, false]) (tm' := [(4, vP b_1), (9, vI (fitK c ((ws.length : Nat) : Int))), (20, vI ep), (21, .slice a ws.length cw), (16, cfgV c), (19, vI (ctlAt c tp))]) (ps := []) [] [4, 9, 20, 21, 16, 19] (by kernel_rfl) trivial ?_
      exact aS3_1
    · refine any_call (some 22) [0] Tryz.call47 (clone_n a cw ws.length ws (by first | assumption | omega | (simp only [InK] at *; omega)) (by first | assumption | omega | (simp only [InK] at *; omega))) (by kernel_rfl) ?_
      rintro v post ⟨a2_6_1, c2_6_1, rfl, rfl⟩
      refine any_pure (l' := #[false, true, true, true, true, true, true, false, false, false, false]) (tm' := [(4, vP b_1), (9, vI (fitK c ((ws.length : Nat) : Int))), (20, vI ep), (19, vI (ctlAt c tp)), (22, .slice a2_6_1 ws.length c2_6_1)]) (ps := []) [] [4, 9, 20, 19, 22] (by kernel_rfl) trivial ?_
      exact aS14_1 a2_6_1 c2_6_1
    · refine any_op (so := .new fun b_9_1 => .ok (.value (vP b_9_1)) [E54ea0 a cw ws, Efdc04 b_1 c, .pts b_9_1 [.pointer none] 23]) (dst := (some 10)) .w (by kernel_rfl) ?_
      refine sat_new fun b_9_1 => ?_
      refine sat_value ?_
      refine any_pure (l' := #[false, true, true, true, true, true, false, false, false, true, false]) (tm' := [(4, vP b_1), (9, vI (fitK c ((ws.length : Nat) : Int))), (20, vI ep), (21, .slice a ws.length cw), (19, vI (ctlAt c tp)), (10, vP b_9_1)]) (ps := []) [] [4, 9, 20, 21, 19, 10] (by kernel_rfl) trivial ?_
      exact aS16_1 b_9_1
  have aS17_1 : ∀ (b_9_1 : Nat), Any Tryz.prog Tryz.f12 B12 45 F (RetR F (Ret (.pointer none) [E54ea0 a cw ws])) (regOps B12 [0, 1, 1]) [.c [1, 1, 1]] #[false, true, true, false, true, true, false, false, false, true, false] [(4, vP b_1), (9, vI (fitK c ((ws.length : Nat) : Int))), (18, vI tp), (20, vI ep), (21, .slice a ws.length cw), (17, cfgV c), (10, vP b_9_1)] [E54ea0 a cw ws, Efdc04 b_1 c, .pts b_9_1 [.pointer none] 23] := by
    intro b_9_1
    refine any_step [0, 3] (by kernel_rfl) rfl ⟨?_, ?_, trivial⟩
    · refine any_op (so := .obl (b_1 = b_1) (.ok (.value (cfgV c)) [E54ea0 a cw ws, Efdc04 b_1 c, .pts b_9_1 [.pointer none] 23])) (dst := (some 16)) (.e 1) (by kernel_rfl) ?_
      refine sat_obl rfl ?_
      refine sat_value ?_
      refine any_pure (l' := #[true, true, true, false, true, true, false, false, false, true, false]) (tm' := [(4, vP b_1), (9, vI (fitK c ((ws.length : Nat) : Int))), (18, vI tp), (20, vI ep), (21, .slice a ws.length cw), (16, cfgV c), (17, cfgV c), (10, vP b_9_1)]) (ps := []) [] [4, 9, 18, 20, 21, 16, 17, 10] (by kernel_rfl) trivial ?_
      exact aS10_1 b_9_1
    · refine any_call (some 19) [] Tryz.call48 (plan_Control c tp (by first | assumption | omega | (simp only [InK] at *; omega))) (by kernel_rfl) ?_
      rintro v post ⟨rfl, rfl⟩
      refine any_pure (l' := #[false, true, true, true, true, true, false, false, false, true, false]) (tm' := [(4, vP b_1), (9, vI (fitK c ((ws.length : Nat) : Int))), (20, vI ep), (21, .slice a ws.length cw), (19, vI (ctlAt c tp)), (10, vP b_9_1)]) (ps := []) [] [4, 9, 20, 21, 19, 10] (by kernel_rfl) trivial ?_
      exact aS16_1 b_9_1
  have aS12_1 : Any Tryz.prog Tryz.f12 B12 45 F (RetR F (Ret (.pointer none) [E54ea0 a cw ws])) (regOps B12 [0, 1, 1]) [.c [1, 1, 1]] #[false, true, true, false, true, true, false, false, false, false, false] [(4, vP b_1), (9, vI (fitK c ((ws.length : Nat) : Int))), (18, vI tp), (20, vI ep), (21, .slice a ws.length cw), (17, cfgV c)] [E54ea0 a cw ws, Efdc04 b_1 c] := by
    refine any_step [0, 3, 9] (by kernel_rfl) rfl ⟨?_, ?_, ?_, trivial⟩
    · refine any_op (so := .obl (b_1 = b_1) (.ok (.value (cfgV c)) [E54ea0 a cw ws, Efdc04 b_1 c])) (dst := (some 16)) (.e 1) (by kernel_rfl) ?_
      refine sat_obl rfl ?_
      refine sat_value ?_
      refine any_pure (l' := #[true, true, true, false, true, true, false, false, false, false, false]) (tm' := [(4, vP b_1), (9, vI (fitK c ((ws.length : Nat) : Int))), (18, vI tp), (20, vI ep), (21, .slice a ws.length cw), (16, cfgV c), (17, cfgV c)]) (ps := []) [] [4, 9, 18, 20, 21, 16, 17] (by kernel_rfl) trivial ?_
      exact aS2_1
    · refine any_call (some 19) [] Tryz.call48 (plan_Control c tp (by first | assumption | omega | (simp only [InK] at *; omega))) (by kernel_rfl) ?_
      rintro v post ⟨rfl, rfl⟩
      refine any_pure (l' := #[false, true, true, true, true, true, false, false, false, false, false]) (tm' := [(4, vP b_1), (9, vI (fitK c ((ws.length : Nat) : Int))), (20, vI ep), (21, .slice a ws.length cw), (19, vI (ctlAt c tp))]) (ps := []) [] [4, 9, 20, 21, 19] (by kernel_rfl) trivial ?_
      exact aS13_1
    · refine any_op (so := .new fun b_9_1 => .ok (.value (vP b_9_1)) [E54ea0 a cw ws, Efdc04 b_1 c, .pts b_9_1 [.pointer none] 23]) (dst := (some 10)) .w (by kernel_rfl) ?_
      refine sat_new fun b_9_1 => ?_
      refine sat_value ?_
      refine any_pure (l' := #[false, true, true, false, true, true, false, false, false, true, false]) (tm' := [(4, vP b_1), (9, vI (fitK c ((ws.length : Nat) : Int))), (18, vI tp), (20, vI ep), (21, .slice a ws.length cw), (17, cfgV c), (10, vP b_9_1)]) (ps := []) [] [4, 9, 18, 20, 21, 17, 10] (by kernel_rfl) trivial ?_
      exact aS17_1 b_9_1
  have aS18_1 : ∀ (b_9_1 : Nat), Any Tryz.prog Tryz.f12 B12 45 F (RetR F (Ret (.pointer none) [E54ea0 a cw ws])) (regOps B12 [0, 1, 1]) [.c [1, 1, 1]] #[false, false, true, false, true, true, false, false, false, true, false] [(4, vP b_1), (9, vI (fitK c ((ws.length : Nat) : Int))), (18, vI tp), (20, vI ep), (21, .slice a ws.length cw), (10, vP b_9_1)] [E54ea0 a cw ws, Efdc04 b_1 c, .pts b_9_1 [.pointer none] 23] := by
    intro b_9_1
    refine any_step [0, 1] (by kernel_rfl) rfl ⟨?_, ?_, trivial⟩
    · refine any_op (so := .obl (b_1 = b_1) (.ok (.value (cfgV c)) [E54ea0 a cw ws, Efdc04 b_1 c, .pts b_9_1 [.pointer none] 23])) (dst := (some 16)) (.e 1) (by kernel_rfl) ?_
      refine sat_obl rfl ?_
      refine sat_value ?_
      refine any_pure (l' := #[true, false, true, false, true, true, false, false, false, true, false]) (tm' := [(4, vP b_1), (9, vI (fitK c ((ws.length : Nat) : Int))), (18, vI tp), (20, vI ep), (21, .slice a ws.length cw), (16, cfgV c), (10, vP b_9_1)]) (ps := []) [] [4, 9, 18, 20, 21, 16, 10] (by kernel_rfl) trivial ?_
      exact aS11_1 b_9_1
    · refine any_op (so := .obl (b_1 = b_1) (.ok (.value (cfgV c)) [E54ea0 a cw ws, Efdc04 b_1 c, .pts b_9_1 [.pointer none] 23])) (dst := (some 17)) (.e 1) (by kernel_rfl) ?_
      refine sat_obl rfl ?_
      refine sat_value ?_
      refine any_pure (l' := #[false, true, true, false, true, true, false, false, false, true, false]) (tm' := [(4, vP b_1), (9, vI (fitK c ((ws.length : Nat) : Int))), (18, vI tp), (20, vI ep), (21, .slice a ws.length cw), (17, cfgV c), (10, vP b_9_1)]) (ps := []) [] [4, 9, 18, 20, 21, 17, 10] (by kernel_rfl) trivial ?_
      exact aS17_1 b_9_1
  have aS0_1 : Any Tryz.prog Tryz.f12 B12 45 F (RetR F (Ret (.pointer none) [E54ea0 a cw ws])) (regOps B12 [0, 1, 1]) [.c [1, 1, 1]] #[false, false, true, false, true, true, false, false, false, false, false] [(4, vP b_1), (9, vI (fitK c ((ws.length : Nat) : Int))), (18, vI tp), (20, vI ep), (21, .slice a ws.length cw)] [E54ea0 a cw ws, Efdc04 b_1 c] := by
    refine any_step [0, 1, 9] (by kernel_rfl) rfl ⟨?_, ?_, ?_, trivial⟩
    · refine any_op (so := .obl (b_1 = b_1) (.ok (.value (cfgV c)) [E54ea0 a cw ws, Efdc04 b_1 c])) (dst := (some 16)) (.e 1) (by kernel_rfl) ?_
      refine sat_obl rfl ?_
      refine sat_value ?_
      refine any_pure (l' := #[true, false, true, false, true, true, false, false, false, false, false]) (tm' := [(4, vP b_1), (9, vI (fitK c ((ws.length : Nat) : Int))), (18, vI tp), (20, vI ep), (21, .slice a ws.length cw), (16, cfgV c)]) (ps := []) [] [4, 9, 18, 20, 21, 16] (by kernel_rfl) trivial ?_
      exact aS1_1
    · refine any_op (so := .obl (b_1 = b_1) (.ok (.value (cfgV c)) [E54ea0 a cw ws, Efdc04 b_1 c])) (dst := (some 17)) (.e 1) (by kernel_rfl) ?_
      refine sat_obl rfl ?_
      refine sat_value ?_
      refine any_pure (l' := #[false, true, true, false, true, true, false, false, false, false, false]) (tm' := [(4, vP b_1), (9, vI (fitK c ((ws.length : Nat) : Int))), (18, vI tp), (20, vI ep), (21, .slice a ws.length cw), (17, cfgV c)]) (ps := []) [] [4, 9, 18, 20, 21, 17] (by kernel_rfl) trivial ?_
      exact aS12_1
    · refine any_op (so := .new fun b_9_1 => .ok (.value (vP b_9_1)) [E54ea0 a cw ws, Efdc04 b_1 c, .pts b_9_1 [.pointer none] 23]) (dst := (some 10)) .w (by kernel_rfl) ?_
      refine sat_new fun b_9_1 => ?_
      refine sat_value ?_
      refine any_pure (l' := #[false, false, true, false, true, true, false, false, false, true, false]) (tm' := [(4, vP b_1), (9, vI (fitK c ((ws.length : Nat) : Int))), (18, vI tp), (20, vI ep), (21, .slice a ws.length cw), (10, vP b_9_1)]) (ps := []) [] [4, 9, 18, 20, 21, 10] (by kernel_rfl) trivial ?_
      exact aS18_1 b_9_1
  refine go_any (by kernel_rfl) (by kernel_rfl) ?_
  refine any_pure (l' := #[false, false, true, false, true, true, false, false, false, false, false]) (tm' := [(4, vP b_1), (9, vI (fitK c ((ws.length : Nat) : Int))), (18, vI tp), (20, vI ep), (21, .slice a ws.length cw)]) (ps := []) [] [4, 9, 18, 20, 21] (by kernel_rfl) trivial ?_
  exact aS0_1


theorem new_PubT (c : Cfg) (tp ep : Int) (a : Option Addr) (cw : Nat) (ws : List Int) (hc : c.Ok) (hl : ws.length ≤ 1000000) (hf : (fitK c ((ws.length : Nat) : Int)) ≠ -1) (ht : ctlAt c tp = -1) :
    Ctr Tryz.prog 12 #[cfgV c, vI tp, vI ep, .slice a ws.length cw] [E54ea0 a cw ws] (Ret (.pointer none) [E54ea0 a cw ws]) := by
  refine ctr_of (args := [cfgV c, vI tp, vI ep, .slice a ws.length cw]) (fn := Tryz.f12) (body := B12) (nt := 45) Tryz.func12 (by kernel_rfl) (by kernel_rfl) ?_
  intro F
  refine go_exec (rs := [.tmp 8]) (by kernel_rfl) 4000 [.e 1, .z [0, 1] 3 [1, 2, 3, 4, 12, 14]] (o := .new fun b_1 => .obl (b_1 = b_1) (.stop [.o [0, 1] 3, .c [1, 1]] [(1, vI tp), (2, vI ep), (3, .slice a ws.length cw), (4, vP b_1), (12, cfgV c), (14, vI ((ws.length : Nat) : Int))] [E54ea0 a cw ws, Efdc04 b_1 c])) (by kernel_rfl) ?_
  refine ok_new fun b_1 => ?_
  refine ok_obl rfl ?_
  refine ok_stop ?_
  refine go_call (some 15) [] Tryz.call24 (large_Fits c ((ws.length : Nat) : Int) (by first | assumption | omega | (simp only [InK] at *; omega))) (by kernel_rfl) ?_
  rintro v post ⟨rfl, rfl⟩
  refine go_exec (rs := [.tmp 8]) (by kernel_rfl) 4000 [.z [0, 1, 1] 0 [1, 2, 3, 4, 9]] (o := .stop [.c [0, 1, 1], .c [1, 1, 1]] [(1, vI tp), (2, vI ep), (3, .slice a ws.length cw), (4, vP b_1), (9, vI (fitK c ((ws.length : Nat) : Int)))] [E54ea0 a cw ws, Efdc04 b_1 c]) (by kernel_rfl) ?_
  refine ok_stop ?_
  have aS7_1 : ∀ (a2_6_1 : Option Addr) (c2_6_1 : Nat) (b_8_1 : Nat) (b_9_1 : Nat), Any Tryz.prog Tryz.f12 B12 45 F (RetR F (Ret (.pointer none) [E54ea0 a cw ws])) (regOps B12 [0, 1, 1]) [.c [1, 1, 1]] #[true, true, true, true, true, true, true, true, true, true, true] [(4, vP b_1), (9, vI (fitK c ((ws.length : Nat) : Int))), (10, vP b_9_1)] [Efdc04 b_1 c, E54ea0 a cw ws, E54ea0 a2_6_1 c2_6_1 ws, Eb76a9 b_8_1 (.nilFunc) 0 false c (ctlAt c tp) ep a2_6_1 ws.length c2_6_1 0 0 0 0 0, .pts b_9_1 [vP b_8_1] 23] := by
    intro a2_6_1 c2_6_1 b_8_1 b_9_1
    refine any_done (by kernel_rfl) ?_
    refine go_exec (rs := [.tmp 8]) (by kernel_rfl) 4000 [.sp [27, 26] [.dead] [.e 4, .e 3, .sp [33, 32] [] [.dead]]] (o := .obl (((fitK c ((ws.length : Nat) : Int)) == (-1)) = ((fitK c ((ws.length : Nat) : Int)) == (-1))) (.br ((fitK c ((ws.length : Nat) : Int)) == (-1)) (.bad) (.obl (b_9_1 = b_9_1) (.obl (b_8_1 = b_8_1) (.obl (((ctlAt c tp) == (-1)) = ((ctlAt c tp) == (-1))) (.br ((ctlAt c tp) == (-1)) (.ret (.pointer none) [Efdc04 b_1 c, E54ea0 a cw ws, E54ea0 a2_6_1 c2_6_1 ws, Eb76a9 b_8_1 (.nilFunc) 0 false c (ctlAt c tp) ep a2_6_1 ws.length c2_6_1 0 0 0 0 0, .pts b_9_1 [vP b_8_1] 23]) (.bad))))))) (by kernel_rfl) ?_
    refine ok_obl rfl ?_
    refine ok_br (fun h => absurd (show ((fitK c ((ws.length : Nat) : Int)) == (-1)) = false from (beq_eq_false_iff_ne.2 hf)) (by rw [h]; simp)) (fun _ => ?_)
    refine ok_obl rfl ?_
    refine ok_obl rfl ?_
    refine ok_obl rfl ?_
    refine ok_br (fun _ => ?_) (fun h => absurd (show ((ctlAt c tp) == (-1)) = true from (beq_iff_eq.2 ht)) (by rw [h]; simp))
    exact ret_ok (post := [E54ea0 a cw ws]) [1] (by kernel_rfl) ⟨rfl, (by kernel_rfl)⟩
  have aS6_1 : ∀ (a2_6_1 : Option Addr) (c2_6_1 : Nat) (b_8_1 : Nat) (b_9_1 : Nat), Any Tryz.prog Tryz.f12 B12 45 F (RetR F (Ret (.pointer none) [E54ea0 a cw ws])) (regOps B12 [0, 1, 1]) [.c [1, 1, 1]] #[true, true, true, true, true, true, true, true, true, true, false] [(4, vP b_1), (9, vI (fitK c ((ws.length : Nat) : Int))), (24, vP b_8_1), (10, vP b_9_1)] [Efdc04 b_1 c, E54ea0 a cw ws, E54ea0 a2_6_1 c2_6_1 ws, Eb76a9 b_8_1 (.nilFunc) 0 false c (ctlAt c tp) ep a2_6_1 ws.length c2_6_1 0 0 0 0 0, .pts b_9_1 [.pointer none] 23] := by
    intro a2_6_1 c2_6_1 b_8_1 b_9_1
    refine any_step [10] (by kernel_rfl) rfl ⟨?_, trivial⟩
    · refine any_op (so := .obl (b_9_1 = b_9_1) (.ok .skip [Efdc04 b_1 c, E54ea0 a cw ws, E54ea0 a2_6_1 c2_6_1 ws, Eb76a9 b_8_1 (.nilFunc) 0 false c (ctlAt c tp) ep a2_6_1 ws.length c2_6_1 0 0 0 0 0, .pts b_9_1 [vP b_8_1] 23])) (dst := none) (.e 4) (by kernel_rfl) ?_
      refine sat_obl rfl ?_
      refine sat_skip ?_
      refine any_pure (l' := #[true, true, true, true, true, true, true, true, true, true, true]) (tm' := [(4, vP b_1), (9, vI (fitK c ((ws.length : Nat) : Int))), (10, vP b_9_1)]) (ps := []) [] [4, 9, 10] (by kernel_rfl) trivial ?_
      exact aS7_1 a2_6_1 c2_6_1 b_8_1 b_9_1
  have aS5_1 : ∀ (a2_6_1 : Option Addr) (c2_6_1 : Nat) (b_8_1 : Nat), Any Tryz.prog Tryz.f12 B12 45 F (RetR F (Ret (.pointer none) [E54ea0 a cw ws])) (regOps B12 [0, 1, 1]) [.c [1, 1, 1]] #[true, true, true, true, true, true, true, true, true, false, false] [(4, vP b_1), (9, vI (fitK c ((ws.length : Nat) : Int))), (24, vP b_8_1)] [Efdc04 b_1 c, E54ea0 a cw ws, E54ea0 a2_6_1 c2_6_1 ws, Eb76a9 b_8_1 (.nilFunc) 0 false c (ctlAt c tp) ep a2_6_1 ws.length c2_6_1 0 0 0 0 0] := by
    intro a2_6_1 c2_6_1 b_8_1
    refine any_step [9] (by kernel_rfl) rfl ⟨?_, trivial⟩
    · refine any_op (so := .new fun b_9_1 => .ok (.value (vP b_9_1)) [Efdc04 b_1 c, E54ea0 a cw ws, E54ea0 a2_6_1 c2_6_1 ws, Eb76a9 b_8_1 (.nilFunc) 0 false c (ctlAt c tp) ep a2_6_1 ws.length c2_6_1 0 0 0 0 0, .pts b_9_1 [.pointer none] 23]) (dst := (some 10)) .w (by kernel_rfl) ?_
      refine sat_new fun b_9_1 => ?_
      refine sat_value ?_
      refine any_pure (l' := #[true, true, true, true, true, true, true, true, true, true, false]) (tm' := [(4, vP b_1), (9, vI (fitK c ((ws.length : Nat) : Int))), (24, vP b_8_1), (10, vP b_9_1)]) (ps := []) [] [4, 9, 24, 10] (by kernel_rfl) trivial ?_
      exact aS6_1 a2_6_1 c2_6_1 b_8_1 b_9_1
  have aS8_1 : ∀ (a2_6_1 : Option Addr) (c2_6_1 : Nat) (b_9_1 : Nat), Any Tryz.prog Tryz.f12 B12 45 F (RetR F (Ret (.pointer none) [E54ea0 a cw ws])) (regOps B12 [0, 1, 1]) [.c [1, 1, 1]] #[true, true, true, true, true, true, true, true, false, true, false] [(4, vP b_1), (9, vI (fitK c ((ws.length : Nat) : Int))), (23, .agg #[.nilIface, .nilFunc, vI 0, .bool false, vI c.topics, vI c.small, vI c.slots, vI c.clients, vI c.s0, vI c.n0, vI c.s1, vI c.n1, vI c.retry, vI (ctlAt c tp), vI ep, .slice a2_6_1 ws.length c2_6_1, vI 0, vI 0, vU 0, vI 0, vI 0]), (10, vP b_9_1)] [Efdc04 b_1 c, E54ea0 a cw ws, E54ea0 a2_6_1 c2_6_1 ws, .pts b_9_1 [.pointer none] 23] := by
    intro a2_6_1 c2_6_1 b_9_1
    refine any_step [8] (by kernel_rfl) rfl ⟨?_, trivial⟩
    · refine any_op (so := .new fun b_8_1 => .ok (.value (vP b_8_1)) [Efdc04 b_1 c, E54ea0 a cw ws, E54ea0 a2_6_1 c2_6_1 ws, .pts b_9_1 [.pointer none] 23, Eb76a9 b_8_1 (.nilFunc) 0 false c (ctlAt c tp) ep a2_6_1 ws.length c2_6_1 0 0 0 0 0]) (dst := (some 24)) .w (by kernel_rfl) ?_
      refine sat_new fun b_8_1 => ?_
      refine sat_value ?_
      refine any_pure (l' := #[true, true, true, true, true, true, true, true, true, true, false]) (tm' := [(4, vP b_1), (9, vI (fitK c ((ws.length : Nat) : Int))), (24, vP b_8_1), (10, vP b_9_1)]) (ps := []) [] [4, 9, 24, 10] (by kernel_rfl) trivial ?_
      refine any_weak (tm' := [(4, vP b_1), (9, vI (fitK c ((ws.length : Nat) : Int))), (24, vP b_8_1), (10, vP b_9_1)]) (L' := [Efdc04 b_1 c, E54ea0 a cw ws, E54ea0 a2_6_1 c2_6_1 ws, Eb76a9 b_8_1 (.nilFunc) 0 false c (ctlAt c tp) ep a2_6_1 ws.length c2_6_1 0 0 0 0 0, .pts b_9_1 [.pointer none] 23]) [4, 9, 24, 10] [0, 1, 2, 4, 3] (by kernel_rfl) ?_
      exact aS6_1 a2_6_1 c2_6_1 b_8_1 b_9_1
  have aS4_1 : ∀ (a2_6_1 : Option Addr) (c2_6_1 : Nat), Any Tryz.prog Tryz.f12 B12 45 F (RetR F (Ret (.pointer none) [E54ea0 a cw ws])) (regOps B12 [0, 1, 1]) [.c [1, 1, 1]] #[true, true, true, true, true, true, true, true, false, false, false] [(4, vP b_1), (9, vI (fitK c ((ws.length : Nat) : Int))), (23, .agg #[.nilIface, .nilFunc, vI 0, .bool false, vI c.topics, vI c.small, vI c.slots, vI c.clients, vI c.s0, vI c.n0, vI c.s1, vI c.n1, vI c.retry, vI (ctlAt c tp), vI ep, .slice a2_6_1 ws.length c2_6_1, vI 0, vI 0, vU 0, vI 0, vI 0])] [Efdc04 b_1 c, E54ea0 a cw ws, E54ea0 a2_6_1 c2_6_1 ws] := by
    intro a2_6_1 c2_6_1
    refine any_step [8, 9] (by kernel_rfl) rfl ⟨?_, ?_, trivial⟩
    · refine any_op (so := .new fun b_8_1 => .ok (.value (vP b_8_1)) [Efdc04 b_1 c, E54ea0 a cw ws, E54ea0 a2_6_1 c2_6_1 ws, Eb76a9 b_8_1 (.nilFunc) 0 false c (ctlAt c tp) ep a2_6_1 ws.length c2_6_1 0 0 0 0 0]) (dst := (some 24)) .w (by kernel_rfl) ?_
      refine sat_new fun b_8_1 => ?_
      refine sat_value ?_
      refine any_pure (l' := #[true, true, true, true, true, true, true, true, true, false, false]) (tm' := [(4, vP b_1), (9, vI (fitK c ((ws.length : Nat) : Int))), (24, vP b_8_1)]) (ps := []) [] [4, 9, 24] (by kernel_rfl) trivial ?_
      exact aS5_1 a2_6_1 c2_6_1 b_8_1
    · refine any_op (so := .new fun b_9_1 => .ok (.value (vP b_9_1)) [Efdc04 b_1 c, E54ea0 a cw ws, E54ea0 a2_6_1 c2_6_1 ws, .pts b_9_1 [.pointer none] 23]) (dst := (some 10)) .w (by kernel_rfl) ?_
      refine sat_new fun b_9_1 => ?_
      refine sat_value ?_
      refine any_pure (l' := #[true, true, true, true, true, true, true, true, false, true, false]) (tm' := [(4, vP b_1), (9, vI (fitK c ((ws.length : Nat) : Int))), (23, .agg #[.nilIface, .nilFunc, vI 0, .bool false, vI c.topics, vI c.small, vI c.slots, vI c.clients, vI c.s0, vI c.n0, vI c.s1, vI c.n1, vI c.retry, vI (ctlAt c tp), vI ep, .slice a2_6_1 ws.length c2_6_1, vI 0, vI 0, vU 0, vI 0, vI 0]), (10, vP b_9_1)]) (ps := []) [] [4, 9, 23, 10] (by kernel_rfl) trivial ?_
      exact aS8_1 a2_6_1 c2_6_1 b_9_1
  have aS9_1 : ∀ (b_9_1 : Nat), Any Tryz.prog Tryz.f12 B12 45 F (RetR F (Ret (.pointer none) [E54ea0 a cw ws])) (regOps B12 [0, 1, 1]) [.c [1, 1, 1]] #[true, true, true, true, true, true, false, false, false, true, false] [(4, vP b_1), (9, vI (fitK c ((ws.length : Nat) : Int))), (20, vI ep), (21, .slice a ws.length cw), (16, cfgV c), (19, vI (ctlAt c tp)), (10, vP b_9_1)] [E54ea0 a cw ws, Efdc04 b_1 c, .pts b_9_1 [.pointer none] 23] := by
    intro b_9_1
    refine any_step [6] (by kernel_rfl) rfl ⟨?_, trivial⟩
    · refine any_call (some 22) [0] Tryz.call47 (clone_n a cw ws.length ws (by first | assumption | omega | (simp only [InK] at *; omega)) (by first | assumption | omega | (simp only [InK] at *; omega))) (by kernel_rfl) ?_
      rintro v post ⟨a2_6_1, c2_6_1, rfl, rfl⟩
      refine any_pure (l' := #[true, true, true, true, true, true, true, true, false, true, false]) (tm' := [(4, vP b_1), (9, vI (fitK c ((ws.length : Nat) : Int))), (23, .agg #[.nilIface, .nilFunc, vI 0, .bool false, vI c.topics, vI c.small, vI c.slots, vI c.clients, vI c.s0, vI c.n0, vI c.s1, vI c.n1, vI c.retry, vI (ctlAt c tp), vI ep, .slice a2_6_1 ws.length c2_6_1, vI 0, vI 0, vU 0, vI 0, vI 0]), (10, vP b_9_1)]) (ps := []) [] [4, 9, 23, 10] (by kernel_rfl) trivial ?_
      refine any_weak (tm' := [(4, vP b_1), (9, vI (fitK c ((ws.length : Nat) : Int))), (23, .agg #[.nilIface, .nilFunc, vI 0, .bool false, vI c.topics, vI c.small, vI c.slots, vI c.clients, vI c.s0, vI c.n0, vI c.s1, vI c.n1, vI c.retry, vI (ctlAt c tp), vI ep, .slice a2_6_1 ws.length c2_6_1, vI 0, vI 0, vU 0, vI 0, vI 0]), (10, vP b_9_1)]) (L' := [Efdc04 b_1 c, E54ea0 a cw ws, E54ea0 a2_6_1 c2_6_1 ws, .pts b_9_1 [.pointer none] 23]) [4, 9, 23, 10] [0, 2, 3, 1] (by kernel_rfl) ?_
      exact aS8_1 a2_6_1 c2_6_1 b_9_1
  have aS3_1 : Any Tryz.prog Tryz.f12 B12 45 F (RetR F (Ret (.pointer none) [E54ea0 a cw ws])) (regOps B12 [0, 1, 1]) [.c [1, 1, 1]] #[true, true, true, true, true, true, false, false, false, false, false] [(4, vP b_1), (9, vI (fitK c ((ws.length : Nat) : Int))), (20, vI ep), (21, .slice a ws.length cw), (16, cfgV c), (19, vI (ctlAt c tp))] [E54ea0 a cw ws, Efdc04 b_1 c] := by
    refine any_step [6, 9] (by kernel_rfl) rfl ⟨?_, ?_, trivial⟩
    · refine any_call (some 22) [0] Tryz.call47 (clone_n a cw ws.length ws (by first | assumption | omega | (simp only [InK] at *; omega)) (by first | assumption | omega | (simp only [InK] at *; omega))) (by kernel_rfl) ?_
      rintro v post ⟨a2_6_1, c2_6_1, rfl, rfl⟩
      refine any_pure (l' := #[true, true, true, true, true, true, true, true, false, false, false]) (tm' := [(4, vP b_1), (9, vI (fitK c ((ws.length : Nat) : Int))), (23, .agg #[.nilIface, .nilFunc, vI 0, .bool false, vI c.topics, vI c.small, vI c.slots, vI c.clients, vI c.s0, vI c.n0, vI c.s1, vI c.n1, vI c.retry, vI (ctlAt c tp), vI ep, .slice a2_6_1 ws.length c2_6_1, vI 0, vI 0, vU 0, vI 0, vI 0])]) (ps := []) [] [4, 9, 23] (by kernel_rfl) trivial ?_
      exact aS4_1 a2_6_1 c2_6_1
    · refine any_op (so := .new fun b_9_1 => .ok (.value (vP b_9_1)) [E54ea0 a cw ws, Efdc04 b_1 c, .pts b_9_1 [.pointer none] 23]) (dst := (some 10)) .w (by kernel_rfl) ?_
      refine sat_new fun b_9_1 => ?_
      refine sat_value ?_
      refine any_pure (l' := #[true, true, true, true, true, true, false, false, false, true, false]) (tm' := [(4, vP b_1), (9, vI (fitK c ((ws.length : Nat) : Int))), (20, vI ep), (21, .slice a ws.length cw), (16, cfgV c), (19, vI (ctlAt c tp)), (10, vP b_9_1)]) (ps := []) [] [4, 9, 20, 21, 16, 19, 10] (by kernel_rfl) trivial ?_
      exact aS9_1 b_9_1
  have aS10_1 : ∀ (b_9_1 : Nat), Any Tryz.prog Tryz.f12 B12 45 F (RetR F (Ret (.pointer none) [E54ea0 a cw ws])) (regOps B12 [0, 1, 1]) [.c [1, 1, 1]] #[true, true, true, false, true, true, false, false, false, true, false] [(4, vP b_1), (9, vI (fitK c ((ws.length : Nat) : Int))), (18, vI tp), (20, vI ep), (21, .slice a ws.length cw), (16, cfgV c), (17, cfgV c), (10, vP b_9_1)] [E54ea0 a cw ws, Efdc04 b_1 c, .pts b_9_1 [.pointer none] 23] := by
    intro b_9_1
    refine any_step [3] (by kernel_rfl) rfl ⟨?_, trivial⟩
    · refine any_call (some 19) [] Tryz.call48 (plan_Control c tp (by first | assumption | omega | (simp only [InK] at *; omega))) (by kernel_rfl) ?_
      rintro v post ⟨rfl, rfl⟩
      refine any_pure (l' := #[true, true, true, true, true, true, false, false, false, true, false]) (tm' := [(4, vP b_1), (9, vI (fitK c ((ws.length : Nat) : Int))), (20, vI ep), (21, .slice a ws.length cw), (16, cfgV c), (19, vI (ctlAt c tp)), (10, vP b_9_1)]) (ps := []) [] [4, 9, 20, 21, 16, 19, 10] (by kernel_rfl) trivial ?_
      exact aS9_1 b_9_1
  have aS2_1 : Any Tryz.prog Tryz.f12 B12 45 F (RetR F (Ret (.pointer none) [E54ea0 a cw ws])) (regOps B12 [0, 1, 1]) [.c [1, 1, 1]] #[true, true, true, false, true, true, false, false, false, false, false] [(4, vP b_1), (9, vI (fitK c ((ws.length : Nat) : Int))), (18, vI tp), (20, vI ep), (21, .slice a ws.length cw), (16, cfgV c), (17, cfgV c)] [E54ea0 a cw ws, Efdc04 b_1 c] := by
    refine any_step [3, 9] (by kernel_rfl) rfl ⟨?_, ?_, trivial⟩
    · refine any_call (some 19) [] Tryz.call48 (plan_Control c tp (by first | assumption | omega | (simp only [InK] at *; omega))) (by kernel_rfl) ?_
      rintro v post ⟨rfl, rfl⟩
      refine any_pure (l' := #[true, true, true, true, true, true, false, false, false, false, false]) (tm' := [(4, vP b_1), (9, vI (fitK c ((ws.length : Nat) : Int))), (20, vI ep), (21, .slice a ws.length cw), (16, cfgV c), (19, vI (ctlAt c tp))]) (ps := []) [] [4, 9, 20, 21, 16, 19] (by kernel_rfl) trivial ?_
      exact aS3_1
    · refine any_op (so := .new fun b_9_1 => .ok (.value (vP b_9_1)) [E54ea0 a cw ws, Efdc04 b_1 c, .pts b_9_1 [.pointer none] 23]) (dst := (some 10)) .w (by kernel_rfl) ?_
      refine sat_new fun b_9_1 => ?_
      refine sat_value ?_
      refine any_pure (l' := #[true, true, true, false, true, true, false, false, false, true, false]) (tm' := [(4, vP b_1), (9, vI (fitK c ((ws.length : Nat) : Int))), (18, vI tp), (20, vI ep), (21, .slice a ws.length cw), (16, cfgV c), (17, cfgV c), (10, vP b_9_1)]) (ps := []) [] [4, 9, 18, 20, 21, 16, 17, 10] (by kernel_rfl) trivial ?_
      exact aS10_1 b_9_1
  have aS11_1 : ∀ (b_9_1 : Nat), Any Tryz.prog Tryz.f12 B12 45 F (RetR F (Ret (.pointer none) [E54ea0 a cw ws])) (regOps B12 [0, 1, 1]) [.c [1, 1, 1]] #[true, false, true, false, true, true, false, false, false, true, false] [(4, vP b_1), (9, vI (fitK c ((ws.length : Nat) : Int))), (18, vI tp), (20, vI ep), (21, .slice a ws.length cw), (16, cfgV c), (10, vP b_9_1)] [E54ea0 a cw ws, Efdc04 b_1 c, .pts b_9_1 [.pointer none] 23] := by
    intro b_9_1
    refine any_step [1] (by kernel_rfl) rfl ⟨?_, trivial⟩
    · refine any_op (so := .obl (b_1 = b_1) (.ok (.value (cfgV c)) [E54ea0 a cw ws, Efdc04 b_1 c, .pts b_9_1 [.pointer none] 23])) (dst := (some 17)) (.e 1) (by kernel_rfl) ?_
      refine sat_obl rfl ?_
      refine sat_value ?_
      refine any_pure (l' := #[true, true, true, false, true, true, false, false, false, true, false]) (tm' := [(4, vP b_1), (9, vI (fitK c ((ws.length : Nat) : Int))), (18, vI tp), (20, vI ep), (21, .slice a ws.length cw), (16, cfgV c), (17, cfgV c), (10, vP b_9_1)]) (ps := []) [] [4, 9, 18, 20, 21, 16, 17, 10] (by kernel_rfl) trivial ?_
      exact aS10_1 b_9_1
  have aS1_1 : Any Tryz.prog Tryz.f12 B12 45 F (RetR F (Ret (.pointer none) [E54ea0 a cw ws])) (regOps B12 [0, 1, 1]) [.c [1, 1, 1]] #[true, false, true, false, true, true, false, false, false, false, false] [(4, vP b_1), (9, vI (fitK c ((ws.length : Nat) : Int))), (18, vI tp), (20, vI ep), (21, .slice a ws.length cw), (16, cfgV c)] [E54ea0 a cw ws, Efdc04 b_1 c] := by
    refine any_step [1, 9] (by kernel_rfl) rfl ⟨?_, ?_, trivial⟩
    · refine any_op (so := .obl (b_1 = b_1) (.ok (.value (cfgV c)) [E54ea0 a cw ws, Efdc04 b_1 c])) (dst := (some 17)) (.e 1) (by kernel_rfl) ?_
      refine sat_obl rfl ?_
      refine sat_value ?_
      refine any_pure (l' := #[true, true, true, false, true, true, false, false, false, false, false]) (tm' := [(4, vP b_1), (9, vI (fitK c ((ws.length : Nat) : Int))), (18, vI tp), (20, vI ep), (21, .slice a ws.length cw), (16, cfgV c), (17, cfgV c)]) (ps := []) [] [4, 9, 18, 20, 21, 16, 17] (by kernel_rfl) trivial ?_
      exact aS2_1
    · refine any_op (so := .new fun b_9_1 => .ok (.value (vP b_9_1)) [E54ea0 a cw ws, Efdc04 b_1 c, .pts b_9_1 [.pointer none] 23]) (dst := (some 10)) .w (by kernel_rfl) ?_
      refine sat_new fun b_9_1 => ?_
      refine sat_value ?_
      refine any_pure (l' := #[true, false, true, false, true, true, false, false, false, true, false]) (tm' := [(4, vP b_1), (9, vI (fitK c ((ws.length : Nat) : Int))), (18, vI tp), (20, vI ep), (21, .slice a ws.length cw), (16, cfgV c), (10, vP b_9_1)]) (ps := []) [] [4, 9, 18, 20, 21, 16, 10] (by kernel_rfl) trivial ?_
      exact aS11_1 b_9_1
  have aS15_1 : ∀ (a2_6_1 : Option Addr) (c2_6_1 : Nat) (b_9_1 : Nat), Any Tryz.prog Tryz.f12 B12 45 F (RetR F (Ret (.pointer none) [E54ea0 a cw ws])) (regOps B12 [0, 1, 1]) [.c [1, 1, 1]] #[false, true, true, true, true, true, true, false, false, true, false] [(4, vP b_1), (9, vI (fitK c ((ws.length : Nat) : Int))), (20, vI ep), (19, vI (ctlAt c tp)), (22, .slice a2_6_1 ws.length c2_6_1), (10, vP b_9_1)] [Efdc04 b_1 c, E54ea0 a cw ws, E54ea0 a2_6_1 c2_6_1 ws, .pts b_9_1 [.pointer none] 23] := by
    intro a2_6_1 c2_6_1 b_9_1
    refine any_step [0] (by kernel_rfl) rfl ⟨?_, trivial⟩
    · refine any_op (so := .obl (b_1 = b_1) (.ok (.value (cfgV c)) [Efdc04 b_1 c, E54ea0 a cw ws, E54ea0 a2_6_1 c2_6_1 ws, .pts b_9_1 [.pointer none] 23])) (dst := (some 16)) (.e 0) (by kernel_rfl) ?_
      refine sat_obl rfl ?_
      refine sat_value ?_
      refine any_pure (l' := #[true, true, true, true, true, true, true, true, false, true, false]) (tm' := [(4, vP b_1), (9, vI (fitK c ((ws.length : Nat) : Int))), (23, .agg #[.nilIface, .nilFunc, vI 0, .bool false, vI c.topics, vI c.small, vI c.slots, vI c.clients, vI c.s0, vI c.n0, vI c.s1, vI c.n1, vI c.retry, vI (ctlAt c tp), vI ep, .slice a2_6_1 ws.length c2_6_1, vI 0, vI 0, vU 0, vI 0, vI 0]), (10, vP b_9_1)]) (ps := []) [] [4, 9, 23, 10] (by kernel_rfl) trivial ?_
      exact aS8_1 a2_6_1 c2_6_1 b_9_1
  have aS14_1 : ∀ (a2_6_1 : Option Addr) (c2_6_1 : Nat), Any Tryz.prog Tryz.f12 B12 45 F (RetR F (Ret (.pointer none) [E54ea0 a cw ws])) (regOps B12 [0, 1, 1]) [.c [1, 1, 1]] #[false, true, true, true, true, true, true, false, false, false, false] [(4, vP b_1), (9, vI (fitK c ((ws.length : Nat) : Int))), (20, vI ep), (19, vI (ctlAt c tp)), (22, .slice a2_6_1 ws.length c2_6_1)] [Efdc04 b_1 c, E54ea0 a cw ws, E54ea0 a2_6_1 c2_6_1 ws] := by
    intro a2_6_1 c2_6_1
    refine any_step [0, 9] (by kernel_rfl) rfl ⟨?_, ?_, trivial⟩
    · refine any_op (so := .obl (b_1 = b_1) (.ok (.value (cfgV c)) [Efdc04 b_1 c, E54ea0 a cw ws, E54ea0 a2_6_1 c2_6_1 ws])) (dst := (some 16)) (.e 0) (by kernel_rfl) ?_
      refine sat_obl rfl ?_
      refine sat_value ?_
      refine any_pure (l' := #[true, true, true, true, true, true, true, true, false, false, false]) (tm' := [(4, vP b_1), (9, vI (fitK c ((ws.length : Nat) : Int))), (23, .agg #[.nilIface, .nilFunc, vI 0, .bool false, vI c.topics, vI c.small, vI c.slots, vI c.clients, vI c.s0, vI c.n0, vI c.s1, vI c.n1, vI c.retry, vI (ctlAt c tp), vI ep, .slice a2_6_1 ws.length c2_6_1, vI 0, vI 0, vU 0, vI 0, vI 0])]) (ps := []) [] [4, 9, 23] (by kernel_rfl) trivial ?_
      exact aS4_1 a2_6_1 c2_6_1
    · refine any_op (so := .new fun b_9_1 => .ok (.value (vP b_9_1)) [Efdc04 b_1 c, E54ea0 a cw ws, E54ea0 a2_6_1 c2_6_1 ws, .pts b_9_1 [.pointer none] 23]) (dst := (some 10)) .w (by kernel_rfl) ?_
      refine sat_new fun b_9_1 => ?_
      refine sat_value ?_
      refine any_pure (l' := #[false, true, true, true, true, true, true, false, false, true, false]) (tm' := [(4, vP b_1), (9, vI (fitK c ((ws.length : Nat) : Int))), (20, vI ep), (19, vI (ctlAt c tp)), (22, .slice a2_6_1 ws.length c2_6_1), (10, vP b_9_1)]) (ps := []) [] [4, 9, 20, 19, 22, 10] (by kernel_rfl) trivial ?_
      exact aS15_1 a2_6_1 c2_6_1 b_9_1
  have aS16_1 : ∀ (b_9_1 : Nat), Any Tryz.prog Tryz.f12 B12 45 F (RetR F (Ret (.pointer none) [E54ea0 a cw ws])) (regOps B12 [0, 1, 1]) [.c [1, 1, 1]] #[false, true, true, true, true, true, false, false, false, true, false] [(4, vP b_1), (9, vI (fitK c ((ws.length : Nat) : Int))), (20, vI ep), (21, .slice a ws.length cw), (19, vI (ctlAt c tp)), (10, vP b_9_1)] [E54ea0 a cw ws, Efdc04 b_1 c, .pts b_9_1 [.pointer none] 23] := by
    intro b_9_1
    refine any_step [0, 6] (by kernel_rfl) rfl ⟨?_, ?_, trivial⟩
    · refine any_op (so := .obl (b_1 = b_1) (.ok (.value (cfgV c)) [E54ea0 a cw ws, Efdc04 b_1 c, .pts b_9_1 [.pointer none] 23])) (dst := (some 16)) (.e 1) (by kernel_rfl) ?_
      refine sat_obl rfl ?_
      refine sat_value ?_
      refine any_pure (l' := #[true, true, true, true, true, true, false, false, false, true, false]) (tm' := [(4, vP b_1), (9, vI (fitK c ((ws.length : Nat) : Int))), (20, vI ep), (21, .slice a ws.length cw), (16, cfgV c), (19, vI (ctlAt c tp)), (10, vP b_9_1)]) (ps := []) [] [4, 9, 20, 21, 16, 19, 10] (by kernel_rfl) trivial ?_
      exact aS9_1 b_9_1
    · refine any_call (some 22) [0] Tryz.call47 (clone_n a cw ws.length ws (by first | assumption | omega | (simp only [InK] at *; omega)) (by first | assumption | omega | (simp only [InK] at *; omega))) (by kernel_rfl) ?_
      rintro v post ⟨a2_6_1, c2_6_1, rfl, rfl⟩
      refine any_pure (l' := #[false, true, true, true, true, true, true, false, false, true, false]) (tm' := [(4, vP b_1), (9, vI (fitK c ((ws.length : Nat) : Int))), (20, vI ep), (19, vI (ctlAt c tp)), (22, .slice a2_6_1 ws.length c2_6_1), (10, vP b_9_1)]) (ps := []) [] [4, 9, 20, 19, 22, 10] (by kernel_rfl) trivial ?_
      refine any_weak (tm' := [(4, vP b_1), (9, vI (fitK c ((ws.length : Nat) : Int))), (20, vI ep), (19, vI (ctlAt c tp)), (22, .slice a2_6_1 ws.length c2_6_1), (10, vP b_9_1)]) (L' := [Efdc04 b_1 c, E54ea0 a cw ws, E54ea0 a2_6_1 c2_6_1 ws, .pts b_9_1 [.pointer none] 23]) [4, 9, 20, 19, 22, 10] [0, 2, 3, 1] (by kernel_rfl) ?_
      exact aS15_1 a2_6_1 c2_6_1 b_9_1
  have aS13_1 : Any Tryz.prog Tryz.f12 B12 45 F (RetR F (Ret (.pointer none) [E54ea0 a cw ws])) (regOps B12 [0, 1, 1]) [.c [1, 1, 1]] #[false, true, true, true, true, true, false, false, false, false, false] [(4, vP b_1), (9, vI (fitK c ((ws.length : Nat) : Int))), (20, vI ep), (21, .slice a ws.length cw), (19, vI (ctlAt c tp))] [E54ea0 a cw ws, Efdc04 b_1 c] := by
    refine any_step [0, 6, 9] (by kernel_rfl) rfl ⟨?_, ?_, ?_, trivial⟩
    · refine any_op (so := .obl (b_1 = b_1) (.ok (.value (cfgV c)) [E54ea0 a cw ws, Efdc04 b_1 c])) (dst := (some 16)) (.e 1) (by kernel_rfl) ?_
      refine sat_obl rfl ?_
      refine sat_value ?_
      refine any_pure (l' := #[true, true, true, true, true, true, false, false, false, false, false]) (tm' := [(4, vP b_1), (9, vI (fitK c ((ws.length : Nat) : Int))), (20, vI ep), (21, .slice a ws.length cw), (16, cfgV c), (19, vI (ctlAt c tp))]) (ps := []) [] [4, 9, 20, 21, 16, 19] (by kernel_rfl) trivial ?_
      exact aS3_1
    · refine any_call (some 22) [0] Tryz.call47 (clone_n a cw ws.length ws (by first | assumption | omega | (simp only [InK] at *; omega)) (by first | assumption | omega | (simp only [InK] at *; omega))) (by kernel_rfl) ?_
      rintro v post ⟨a2_6_1, c2_6_1, rfl, rfl⟩
      refine any_pure (l' := #[false, true, true, true, true, true, true, false, false, false, false]) (tm' := [(4, vP b_1), (9, vI (fitK c ((ws.length : Nat) : Int))), (20, vI ep), (19, vI (ctlAt c tp)), (22, .slice a2_6_1 ws.length c2_6_1)]) (ps := []) [] [4, 9, 20, 19, 22] (by kernel_rfl) trivial ?_
      exact aS14_1 a2_6_1 c2_6_1
    · refine any_op (so := .new fun b_9_1 => .ok (.value (vP b_9_1)) [E54ea0 a cw ws, Efdc04 b_1 c, .pts b_9_1 [.pointer none] 23]) (dst := (some 10)) .w (by kernel_rfl) ?_
      refine sat_new fun b_9_1 => ?_
      refine sat_value ?_
      refine any_pure (l' := #[false, true, true, true, true, true, false, false, false, true, false]) (tm' := [(4, vP b_1), (9, vI (fitK c ((ws.length : Nat) : Int))), (20, vI ep), (21, .slice a ws.length cw), (19, vI (ctlAt c tp)), (10, vP b_9_1)]) (ps := []) [] [4, 9, 20, 21, 19, 10] (by kernel_rfl) trivial ?_
      exact aS16_1 b_9_1
  have aS17_1 : ∀ (b_9_1 : Nat), Any Tryz.prog Tryz.f12 B12 45 F (RetR F (Ret (.pointer none) [E54ea0 a cw ws])) (regOps B12 [0, 1, 1]) [.c [1, 1, 1]] #[false, true, true, false, true, true, false, false, false, true, false] [(4, vP b_1), (9, vI (fitK c ((ws.length : Nat) : Int))), (18, vI tp), (20, vI ep), (21, .slice a ws.length cw), (17, cfgV c), (10, vP b_9_1)] [E54ea0 a cw ws, Efdc04 b_1 c, .pts b_9_1 [.pointer none] 23] := by
    intro b_9_1
    refine any_step [0, 3] (by kernel_rfl) rfl ⟨?_, ?_, trivial⟩
    · refine any_op (so := .obl (b_1 = b_1) (.ok (.value (cfgV c)) [E54ea0 a cw ws, Efdc04 b_1 c, .pts b_9_1 [.pointer none] 23])) (dst := (some 16)) (.e 1) (by kernel_rfl) ?_
      refine sat_obl rfl ?_
      refine sat_value ?_
      refine any_pure (l' := #[true, true, true, false, true, true, false, false, false, true, false]) (tm' := [(4, vP b_1), (9, vI (fitK c ((ws.length : Nat) : Int))), (18, vI tp), (20, vI ep), (21, .slice a ws.length cw), (16, cfgV c), (17, cfgV c), (10, vP b_9_1)]) (ps := []) [] [4, 9, 18, 20, 21, 16, 17, 10] (by kernel_rfl) trivial ?_
      exact aS10_1 b_9_1
    · refine any_call (some 19) [] Tryz.call48 (plan_Control c tp (by first | assumption | omega | (simp only [InK] at *; omega))) (by kernel_rfl) ?_
      rintro v post ⟨rfl, rfl⟩
      refine any_pure (l' := #[false, true, true, true, true, true, false, false, false, true, false]) (tm' := [(4, vP b_1), (9, vI (fitK c ((ws.length : Nat) : Int))), (20, vI ep), (21, .slice a ws.length cw), (19, vI (ctlAt c tp)), (10, vP b_9_1)]) (ps := []) [] [4, 9, 20, 21, 19, 10] (by kernel_rfl) trivial ?_
      exact aS16_1 b_9_1
  have aS12_1 : Any Tryz.prog Tryz.f12 B12 45 F (RetR F (Ret (.pointer none) [E54ea0 a cw ws])) (regOps B12 [0, 1, 1]) [.c [1, 1, 1]] #[false, true, true, false, true, true, false, false, false, false, false] [(4, vP b_1), (9, vI (fitK c ((ws.length : Nat) : Int))), (18, vI tp), (20, vI ep), (21, .slice a ws.length cw), (17, cfgV c)] [E54ea0 a cw ws, Efdc04 b_1 c] := by
    refine any_step [0, 3, 9] (by kernel_rfl) rfl ⟨?_, ?_, ?_, trivial⟩
    · refine any_op (so := .obl (b_1 = b_1) (.ok (.value (cfgV c)) [E54ea0 a cw ws, Efdc04 b_1 c])) (dst := (some 16)) (.e 1) (by kernel_rfl) ?_
      refine sat_obl rfl ?_
      refine sat_value ?_
      refine any_pure (l' := #[true, true, true, false, true, true, false, false, false, false, false]) (tm' := [(4, vP b_1), (9, vI (fitK c ((ws.length : Nat) : Int))), (18, vI tp), (20, vI ep), (21, .slice a ws.length cw), (16, cfgV c), (17, cfgV c)]) (ps := []) [] [4, 9, 18, 20, 21, 16, 17] (by kernel_rfl) trivial ?_
      exact aS2_1
    · refine any_call (some 19) [] Tryz.call48 (plan_Control c tp (by first | assumption | omega | (simp only [InK] at *; omega))) (by kernel_rfl) ?_
      rintro v post ⟨rfl, rfl⟩
      refine any_pure (l' := #[false, true, true, true, true, true, false, false, false, false, false]) (tm' := [(4, vP b_1), (9, vI (fitK c ((ws.length : Nat) : Int))), (20, vI ep), (21, .slice a ws.length cw), (19, vI (ctlAt c tp))]) (ps := []) [] [4, 9, 20, 21, 19] (by kernel_rfl) trivial ?_
      exact aS13_1
    · refine any_op (so := .new fun b_9_1 => .ok (.value (vP b_9_1)) [E54ea0 a cw ws, Efdc04 b_1 c, .pts b_9_1 [.pointer none] 23]) (dst := (some 10)) .w (by kernel_rfl) ?_
      refine sat_new fun b_9_1 => ?_
      refine sat_value ?_
      refine any_pure (l' := #[false, true, true, false, true, true, false, false, false, true, false]) (tm' := [(4, vP b_1), (9, vI (fitK c ((ws.length : Nat) : Int))), (18, vI tp), (20, vI ep), (21, .slice a ws.length cw), (17, cfgV c), (10, vP b_9_1)]) (ps := []) [] [4, 9, 18, 20, 21, 17, 10] (by kernel_rfl) trivial ?_
      exact aS17_1 b_9_1
  have aS18_1 : ∀ (b_9_1 : Nat), Any Tryz.prog Tryz.f12 B12 45 F (RetR F (Ret (.pointer none) [E54ea0 a cw ws])) (regOps B12 [0, 1, 1]) [.c [1, 1, 1]] #[false, false, true, false, true, true, false, false, false, true, false] [(4, vP b_1), (9, vI (fitK c ((ws.length : Nat) : Int))), (18, vI tp), (20, vI ep), (21, .slice a ws.length cw), (10, vP b_9_1)] [E54ea0 a cw ws, Efdc04 b_1 c, .pts b_9_1 [.pointer none] 23] := by
    intro b_9_1
    refine any_step [0, 1] (by kernel_rfl) rfl ⟨?_, ?_, trivial⟩
    · refine any_op (so := .obl (b_1 = b_1) (.ok (.value (cfgV c)) [E54ea0 a cw ws, Efdc04 b_1 c, .pts b_9_1 [.pointer none] 23])) (dst := (some 16)) (.e 1) (by kernel_rfl) ?_
      refine sat_obl rfl ?_
      refine sat_value ?_
      refine any_pure (l' := #[true, false, true, false, true, true, false, false, false, true, false]) (tm' := [(4, vP b_1), (9, vI (fitK c ((ws.length : Nat) : Int))), (18, vI tp), (20, vI ep), (21, .slice a ws.length cw), (16, cfgV c), (10, vP b_9_1)]) (ps := []) [] [4, 9, 18, 20, 21, 16, 10] (by kernel_rfl) trivial ?_
      exact aS11_1 b_9_1
    · refine any_op (so := .obl (b_1 = b_1) (.ok (.value (cfgV c)) [E54ea0 a cw ws, Efdc04 b_1 c, .pts b_9_1 [.pointer none] 23])) (dst := (some 17)) (.e 1) (by kernel_rfl) ?_
      refine sat_obl rfl ?_
      refine sat_value ?_
      refine any_pure (l' := #[false, true, true, false, true, true, false, false, false, true, false]) (tm' := [(4, vP b_1), (9, vI (fitK c ((ws.length : Nat) : Int))), (18, vI tp), (20, vI ep), (21, .slice a ws.length cw), (17, cfgV c), (10, vP b_9_1)]) (ps := []) [] [4, 9, 18, 20, 21, 17, 10] (by kernel_rfl) trivial ?_
      exact aS17_1 b_9_1
  have aS0_1 : Any Tryz.prog Tryz.f12 B12 45 F (RetR F (Ret (.pointer none) [E54ea0 a cw ws])) (regOps B12 [0, 1, 1]) [.c [1, 1, 1]] #[false, false, true, false, true, true, false, false, false, false, false] [(4, vP b_1), (9, vI (fitK c ((ws.length : Nat) : Int))), (18, vI tp), (20, vI ep), (21, .slice a ws.length cw)] [E54ea0 a cw ws, Efdc04 b_1 c] := by
    refine any_step [0, 1, 9] (by kernel_rfl) rfl ⟨?_, ?_, ?_, trivial⟩
    · refine any_op (so := .obl (b_1 = b_1) (.ok (.value (cfgV c)) [E54ea0 a cw ws, Efdc04 b_1 c])) (dst := (some 16)) (.e 1) (by kernel_rfl) ?_
      refine sat_obl rfl ?_
      refine sat_value ?_
      refine any_pure (l' := #[true, false, true, false, true, true, false, false, false, false, false]) (tm' := [(4, vP b_1), (9, vI (fitK c ((ws.length : Nat) : Int))), (18, vI tp), (20, vI ep), (21, .slice a ws.length cw), (16, cfgV c)]) (ps := []) [] [4, 9, 18, 20, 21, 16] (by kernel_rfl) trivial ?_
      exact aS1_1
    · refine any_op (so := .obl (b_1 = b_1) (.ok (.value (cfgV c)) [E54ea0 a cw ws, Efdc04 b_1 c])) (dst := (some 17)) (.e 1) (by kernel_rfl) ?_
      refine sat_obl rfl ?_
      refine sat_value ?_
      refine any_pure (l' := #[false, true, true, false, true, true, false, false, false, false, false]) (tm' := [(4, vP b_1), (9, vI (fitK c ((ws.length : Nat) : Int))), (18, vI tp), (20, vI ep), (21, .slice a ws.length cw), (17, cfgV c)]) (ps := []) [] [4, 9, 18, 20, 21, 17] (by kernel_rfl) trivial ?_
      exact aS12_1
    · refine any_op (so := .new fun b_9_1 => .ok (.value (vP b_9_1)) [E54ea0 a cw ws, Efdc04 b_1 c, .pts b_9_1 [.pointer none] 23]) (dst := (some 10)) .w (by kernel_rfl) ?_
      refine sat_new fun b_9_1 => ?_
      refine sat_value ?_
      refine any_pure (l' := #[false, false, true, false, true, true, false, false, false, true, false]) (tm' := [(4, vP b_1), (9, vI (fitK c ((ws.length : Nat) : Int))), (18, vI tp), (20, vI ep), (21, .slice a ws.length cw), (10, vP b_9_1)]) (ps := []) [] [4, 9, 18, 20, 21, 10] (by kernel_rfl) trivial ?_
      exact aS18_1 b_9_1
  refine go_any (by kernel_rfl) (by kernel_rfl) ?_
  refine any_pure (l' := #[false, false, true, false, true, true, false, false, false, false, false]) (tm' := [(4, vP b_1), (9, vI (fitK c ((ws.length : Nat) : Int))), (18, vI tp), (20, vI ep), (21, .slice a ws.length cw)]) (ps := []) [] [4, 9, 18, 20, 21] (by kernel_rfl) trivial ?_
  exact aS0_1


theorem new_Pub (c : Cfg) (tp ep : Int) (a : Option Addr) (cw : Nat) (ws : List Int) (hc : c.Ok) (hl : ws.length ≤ 1000000) (hf : (fitK c ((ws.length : Nat) : Int)) ≠ -1) (ht : ctlAt c tp ≠ -1) :
    Ctr Tryz.prog 12 #[cfgV c, vI tp, vI ep, .slice a ws.length cw] [E54ea0 a cw ws] (fun v L => ∃ (p : Nat) (k : Nat) (bp : Nat) (bt : Nat) (wa : Option Addr) (wc : Nat), v = vP p ∧ L = [E54ea0 a cw ws, Ef60d6 p (.iface 114 (vP k)) (.func (.func 51) #[] #[vP bp, vP bt]) 0 false c (ctlAt c tp) ep wa ws.length wc 0 0 0 0 0, .pts bp [vP p] 23, .pts bt [vP k] 114, E65ea3 k c (newTk (fitK c ((ws.length : Nat) : Int))) k, E54ea0 wa wc ws]) := by
  refine ctr_of (args := [cfgV c, vI tp, vI ep, .slice a ws.length cw]) (fn := Tryz.f12) (body := B12) (nt := 45) Tryz.func12 (by kernel_rfl) (by kernel_rfl) ?_
  intro F
  refine go_exec (rs := [.tmp 8]) (by kernel_rfl) 4000 [.e 1, .z [0, 1] 3 [1, 2, 3, 4, 12, 14]] (o := .new fun b_1 => .obl (b_1 = b_1) (.stop [.o [0, 1] 3, .c [1, 1]] [(1, vI tp), (2, vI ep), (3, .slice a ws.length cw), (4, vP b_1), (12, cfgV c), (14, vI ((ws.length : Nat) : Int))] [E54ea0 a cw ws, Efdc04 b_1 c])) (by kernel_rfl) ?_
  refine ok_new fun b_1 => ?_
  refine ok_obl rfl ?_
  refine ok_stop ?_
  refine go_call (some 15) [] Tryz.call24 (large_Fits c ((ws.length : Nat) : Int) (by first | assumption | omega | (simp only [InK] at *; omega))) (by kernel_rfl) ?_
  rintro v post ⟨rfl, rfl⟩
  refine go_exec (rs := [.tmp 8]) (by kernel_rfl) 4000 [.z [0, 1, 1] 0 [1, 2, 3, 4, 9]] (o := .stop [.c [0, 1, 1], .c [1, 1, 1]] [(1, vI tp), (2, vI ep), (3, .slice a ws.length cw), (4, vP b_1), (9, vI (fitK c ((ws.length : Nat) : Int)))] [E54ea0 a cw ws, Efdc04 b_1 c]) (by kernel_rfl) ?_
  refine ok_stop ?_
  have aS7_1 : ∀ (a2_6_1 : Option Addr) (c2_6_1 : Nat) (b_8_1 : Nat) (b_9_1 : Nat), Any Tryz.prog Tryz.f12 B12 45 F (RetR F (fun v L => ∃ (p : Nat) (k : Nat) (bp : Nat) (bt : Nat) (wa : Option Addr) (wc : Nat), v = vP p ∧ L = [E54ea0 a cw ws, Ef60d6 p (.iface 114 (vP k)) (.func (.func 51) #[] #[vP bp, vP bt]) 0 false c (ctlAt c tp) ep wa ws.length wc 0 0 0 0 0, .pts bp [vP p] 23, .pts bt [vP k] 114, E65ea3 k c (newTk (fitK c ((ws.length : Nat) : Int))) k, E54ea0 wa wc ws])) (regOps B12 [0, 1, 1]) [.c [1, 1, 1]] #[true, true, true, true, true, true, true, true, true, true, true] [(4, vP b_1), (9, vI (fitK c ((ws.length : Nat) : Int))), (10, vP b_9_1)] [Efdc04 b_1 c, E54ea0 a cw ws, E54ea0 a2_6_1 c2_6_1 ws, Eb76a9 b_8_1 (.nilFunc) 0 false c (ctlAt c tp) ep a2_6_1 ws.length c2_6_1 0 0 0 0 0, .pts b_9_1 [vP b_8_1] 23] := by
    intro a2_6_1 c2_6_1 b_8_1 b_9_1
    refine any_done (by kernel_rfl) ?_
    refine go_exec (rs := [.tmp 8]) (by kernel_rfl) 4000 [.sp [27, 26] [.dead] [.e 4, .e 3, .sp [33, 32] [.dead] [.e 0, .z [0, 1, 1, 1, 1] 2 [10, 34, 35]]]] (o := .obl (((fitK c ((ws.length : Nat) : Int)) == (-1)) = ((fitK c ((ws.length : Nat) : Int)) == (-1))) (.br ((fitK c ((ws.length : Nat) : Int)) == (-1)) (.bad) (.obl (b_9_1 = b_9_1) (.obl (b_8_1 = b_8_1) (.obl (((ctlAt c tp) == (-1)) = ((ctlAt c tp) == (-1))) (.br ((ctlAt c tp) == (-1)) (.bad) (.obl (b_1 = b_1) (.stop [.o [0, 1, 1, 1, 1] 2, .c [1, 1, 1, 1, 1]] [(10, vP b_9_1), (34, cfgV c), (35, vI (fitK c ((ws.length : Nat) : Int)))] [Efdc04 b_1 c, E54ea0 a cw ws, E54ea0 a2_6_1 c2_6_1 ws, Eb76a9 b_8_1 (.nilFunc) 0 false c (ctlAt c tp) ep a2_6_1 ws.length c2_6_1 0 0 0 0 0, .pts b_9_1 [vP b_8_1] 23])))))))) (by kernel_rfl) ?_
    refine ok_obl rfl ?_
    refine ok_br (fun h => absurd (show ((fitK c ((ws.length : Nat) : Int)) == (-1)) = false from (beq_eq_false_iff_ne.2 hf)) (by rw [h]; simp)) (fun _ => ?_)
    refine ok_obl rfl ?_
    refine ok_obl rfl ?_
    refine ok_obl rfl ?_
    refine ok_br (fun h => absurd (show ((ctlAt c tp) == (-1)) = false from (beq_eq_false_iff_ne.2 ht)) (by rw [h]; simp)) (fun _ => ?_)
    refine ok_obl rfl ?_
    refine ok_stop ?_
    refine go_call (some 36) [] Tryz.call49 (new_TakeC c (fitK c ((ws.length : Nat) : Int)) (by first | assumption | omega | (simp only [InK] at *; omega)) (by have := fitK_rng c ((ws.length : Nat) : Int); omega)) (by kernel_rfl) ?_
    rintro v post ⟨k_2, rfl, rfl⟩
    refine go_exec (rs := [.tmp 8]) (by kernel_rfl) 4000 [.e 6, .z [0, 1, 1, 1, 1, 1] 0 [10, 11]] (o := .new fun b_4 => .obl (b_4 = b_4) (.stop [.c [0, 1, 1, 1, 1, 1], .c [1, 1, 1, 1, 1, 1]] [(10, vP b_9_1), (11, vP b_4)] [Efdc04 b_1 c, E54ea0 a cw ws, E54ea0 a2_6_1 c2_6_1 ws, Eb76a9 b_8_1 (.nilFunc) 0 false c (ctlAt c tp) ep a2_6_1 ws.length c2_6_1 0 0 0 0 0, .pts b_9_1 [vP b_8_1] 23, E65ea3 k_2 c (newTk (fitK c ((ws.length : Nat) : Int))) k_2, .pts b_4 [vP k_2] 114])) (by kernel_rfl) ?_
    refine ok_new fun b_4 => ?_
    refine ok_obl rfl ?_
    refine ok_stop ?_
    refine go_tail_call (dst := (some 43)) (ps := [b_9_1 = b_9_1, b_4 = b_4]) (cs := []) [(0, .h (.e 4)), (1, .h .w), (2, .h .w), (3, .h (.e 6)), (4, .h .w), (5, .h .w)] 6 [] [3] [10] (by kernel_rfl) Tryz.call50 (pub_follow c b_8_1 (ctlAt c tp) ep 0 0 0 0 0 0 false (.slice a2_6_1 ws.length c2_6_1) (.nilIface) (.nilFunc) 114 k_2 (.func 51) (#[]) (#[vP b_9_1, vP b_4])) (by kernel_rfl) ⟨rfl, rfl, trivial⟩ trivial ?_
    rintro v post ⟨rfl, rfl⟩
    refine tail_next (tm' := [(10, vP b_9_1)]) (ps2 := []) (by kernel_rfl) trivial ?_
    refine go_exec (rs := [.tmp 8]) (by kernel_rfl) 4000 [.e 3] (o := .obl (b_9_1 = b_9_1) (.ret (vP b_8_1) [Efdc04 b_1 c, E54ea0 a cw ws, E54ea0 a2_6_1 c2_6_1 ws, .pts b_9_1 [vP b_8_1] 23, E65ea3 k_2 c (newTk (fitK c ((ws.length : Nat) : Int))) k_2, .pts b_4 [vP k_2] 114, Ef60d6 b_8_1 (.iface 114 (vP k_2)) (.func (.func 51) #[] #[vP b_9_1, vP b_4]) 0 false c (ctlAt c tp) ep a2_6_1 ws.length c2_6_1 0 0 0 0 0])) (by kernel_rfl) ?_
    refine ok_obl rfl ?_
    exact ret_ok (post := [E54ea0 a cw ws, Ef60d6 b_8_1 (.iface 114 (vP k_2)) (.func (.func 51) #[] #[vP b_9_1, vP b_4]) 0 false c (ctlAt c tp) ep a2_6_1 ws.length c2_6_1 0 0 0 0 0, .pts b_9_1 [vP b_8_1] 23, .pts b_4 [vP k_2] 114, E65ea3 k_2 c (newTk (fitK c ((ws.length : Nat) : Int))) k_2, E54ea0 a2_6_1 c2_6_1 ws]) [1, 6, 3, 5, 4, 2] (by kernel_rfl) ⟨b_8_1, k_2, b_9_1, b_4, a2_6_1, c2_6_1, rfl, (by kernel_rfl)⟩
  have aS6_1 : ∀ (a2_6_1 : Option Addr) (c2_6_1 : Nat) (b_8_1 : Nat) (b_9_1 : Nat), Any Tryz.prog Tryz.f12 B12 45 F (RetR F (fun v L => ∃ (p : Nat) (k : Nat) (bp : Nat) (bt : Nat) (wa : Option Addr) (wc : Nat), v = vP p ∧ L = [E54ea0 a cw ws, Ef60d6 p (.iface 114 (vP k)) (.func (.func 51) #[] #[vP bp, vP bt]) 0 false c (ctlAt c tp) ep wa ws.length wc 0 0 0 0 0, .pts bp [vP p] 23, .pts bt [vP k] 114, E65ea3 k c (newTk (fitK c ((ws.length : Nat) : Int))) k, E54ea0 wa wc ws])) (regOps B12 [0, 1, 1]) [.c [1, 1, 1]] #[true, true, true, true, true, true, true, true, true, true, false] [(4, vP b_1), (9, vI (fitK c ((ws.length : Nat) : Int))), (24, vP b_8_1), (10, vP b_9_1)] [Efdc04 b_1 c, E54ea0 a cw ws, E54ea0 a2_6_1 c2_6_1 ws, Eb76a9 b_8_1 (.nilFunc) 0 false c (ctlAt c tp) ep a2_6_1 ws.length c2_6_1 0 0 0 0 0, .pts b_9_1 [.pointer none] 23] := by
    intro a2_6_1 c2_6_1 b_8_1 b_9_1
    refine any_step [10] (by kernel_rfl) rfl ⟨?_, trivial⟩
    · refine any_op (so := .obl (b_9_1 = b_9_1) (.ok .skip [Efdc04 b_1 c, E54ea0 a cw ws, E54ea0 a2_6_1 c2_6_1 ws, Eb76a9 b_8_1 (.nilFunc) 0 false c (ctlAt c tp) ep a2_6_1 ws.length c2_6_1 0 0 0 0 0, .pts b_9_1 [vP b_8_1] 23])) (dst := none) (.e 4) (by kernel_rfl) ?_
      refine sat_obl rfl ?_
      refine sat_skip ?_
      refine any_pure (l' := #[true, true, true, true, true, true, true, true, true, true, true]) (tm' := [(4, vP b_1), (9, vI (fitK c ((ws.length : Nat) : Int))), (10, vP b_9_1)]) (ps := []) [] [4, 9, 10] (by kernel_rfl) trivial ?_
      exact aS7_1 a2_6_1 c2_6_1 b_8_1 b_9_1
  have aS5_1 : ∀ (a2_6_1 : Option Addr) (c2_6_1 : Nat) (b_8_1 : Nat), Any Tryz.prog Tryz.f12 B12 45 F (RetR F (fun v L => ∃ (p : Nat) (k : Nat) (bp : Nat) (bt : Nat) (wa : Option Addr) (wc : Nat), v = vP p ∧ L = [E54ea0 a cw ws, Ef60d6 p (.iface 114 (vP k)) (.func (.func 51) #[] #[vP bp, vP bt]) 0 false c (ctlAt c tp) ep wa ws.length wc 0 0 0 0 0, .pts bp [vP p] 23, .pts bt [vP k] 114, E65ea3 k c (newTk (fitK c ((ws.length : Nat) : Int))) k, E54ea0 wa wc ws])) (regOps B12 [0, 1, 1]) [.c [1, 1, 1]] #[true, true, true, true, true, true, true, true, true, false, false] [(4, vP b_1), (9, vI (fitK c ((ws.length : Nat) : Int))), (24, vP b_8_1)] [Efdc04 b_1 c, E54ea0 a cw ws, E54ea0 a2_6_1 c2_6_1 ws, Eb76a9 b_8_1 (.nilFunc) 0 false c (ctlAt c tp) ep a2_6_1 ws.length c2_6_1 0 0 0 0 0] := by
    intro a2_6_1 c2_6_1 b_8_1
    refine any_step [9] (by kernel_rfl) rfl ⟨?_, trivial⟩
    · refine any_op (so := .new fun b_9_1 => .ok (.value (vP b_9_1)) [Efdc04 b_1 c, E54ea0 a cw ws, E54ea0 a2_6_1 c2_6_1 ws, Eb76a9 b_8_1 (.nilFunc) 0 false c (ctlAt c tp) ep a2_6_1 ws.length c2_6_1 0 0 0 0 0, .pts b_9_1 [.pointer none] 23]) (dst := (some 10)) .w (by kernel_rfl) ?_
      refine sat_new fun b_9_1 => ?_
      refine sat_value ?_
      refine any_pure (l' := #[true, true, true, true, true, true, true, true, true, true, false]) (tm' := [(4, vP b_1), (9, vI (fitK c ((ws.length : Nat) : Int))), (24, vP b_8_1), (10, vP b_9_1)]) (ps := []) [] [4, 9, 24, 10] (by kernel_rfl) trivial ?_
      exact aS6_1 a2_6_1 c2_6_1 b_8_1 b_9_1
  have aS8_4 : ∀ (a2_6_1 : Option Addr) (c2_6_1 : Nat) (b_9_1 : Nat), Any Tryz.prog Tryz.f12 B12 45 F (RetR F (fun v L => ∃ (p : Nat) (k : Nat) (bp : Nat) (bt : Nat) (wa : Option Addr) (wc : Nat), v = vP p ∧ L = [E54ea0 a cw ws, Ef60d6 p (.iface 114 (vP k)) (.func (.func 51) #[] #[vP bp, vP bt]) 0 false c (ctlAt c tp) ep wa ws.length wc 0 0 0 0 0, .pts bp [vP p] 23, .pts bt [vP k] 114, E65ea3 k c (newTk (fitK c ((ws.length : Nat) : Int))) k, E54ea0 wa wc ws])) (regOps B12 [0, 1, 1]) [.c [1, 1, 1]] #[true, true, true, true, true, true, true, true, false, true, false] [(4, vP b_1), (9, vI (fitK c ((ws.length : Nat) : Int))), (23, .agg #[.nilIface, .nilFunc, vI 0, .bool false, vI c.topics, vI c.small, vI c.slots, vI c.clients, vI c.s0, vI c.n0, vI c.s1, vI c.n1, vI c.retry, vI (ctlAt c tp), vI ep, .slice a2_6_1 ws.length c2_6_1, vI 0, vI 0, vU 0, vI 0, vI 0]), (10, vP b_9_1)] [Efdc04 b_1 c, E54ea0 a cw ws, E54ea0 a2_6_1 c2_6_1 ws, .pts b_9_1 [.pointer none] 23] := by
    intro a2_6_1 c2_6_1 b_9_1
    refine any_step [8] (by kernel_rfl) rfl ⟨?_, trivial⟩
    · refine any_op (so := .new fun b_8_1 => .ok (.value (vP b_8_1)) [Efdc04 b_1 c, E54ea0 a cw ws, E54ea0 a2_6_1 c2_6_1 ws, .pts b_9_1 [.pointer none] 23, Eb76a9 b_8_1 (.nilFunc) 0 false c (ctlAt c tp) ep a2_6_1 ws.length c2_6_1 0 0 0 0 0]) (dst := (some 24)) .w (by kernel_rfl) ?_
      refine sat_new fun b_8_1 => ?_
      refine sat_value ?_
      refine any_pure (l' := #[true, true, true, true, true, true, true, true, true, true, false]) (tm' := [(4, vP b_1), (9, vI (fitK c ((ws.length : Nat) : Int))), (24, vP b_8_1), (10, vP b_9_1)]) (ps := []) [] [4, 9, 24, 10] (by kernel_rfl) trivial ?_
      refine any_weak (tm' := [(4, vP b_1), (9, vI (fitK c ((ws.length : Nat) : Int))), (24, vP b_8_1), (10, vP b_9_1)]) (L' := [Efdc04 b_1 c, E54ea0 a cw ws, E54ea0 a2_6_1 c2_6_1 ws, Eb76a9 b_8_1 (.nilFunc) 0 false c (ctlAt c tp) ep a2_6_1 ws.length c2_6_1 0 0 0 0 0, .pts b_9_1 [.pointer none] 23]) [4, 9, 24, 10] [0, 1, 2, 4, 3] (by kernel_rfl) ?_
      exact aS6_1 a2_6_1 c2_6_1 b_8_1 b_9_1
  have aS4_1 : ∀ (a2_6_1 : Option Addr) (c2_6_1 : Nat), Any Tryz.prog Tryz.f12 B12 45 F (RetR F (fun v L => ∃ (p : Nat) (k : Nat) (bp : Nat) (bt : Nat) (wa : Option Addr) (wc : Nat), v = vP p ∧ L = [E54ea0 a cw ws, Ef60d6 p (.iface 114 (vP k)) (.func (.func 51) #[] #[vP bp, vP bt]) 0 false c (ctlAt c tp) ep wa ws.length wc 0 0 0 0 0, .pts bp [vP p] 23, .pts bt [vP k] 114, E65ea3 k c (newTk (fitK c ((ws.length : Nat) : Int))) k, E54ea0 wa wc ws])) (regOps B12 [0, 1, 1]) [.c [1, 1, 1]] #[true, true, true, true, true, true, true, true, false, false, false] [(4, vP b_1), (9, vI (fitK c ((ws.length : Nat) : Int))), (23, .agg #[.nilIface, .nilFunc, vI 0, .bool false, vI c.topics, vI c.small, vI c.slots, vI c.clients, vI c.s0, vI c.n0, vI c.s1, vI c.n1, vI c.retry, vI (ctlAt c tp), vI ep, .slice a2_6_1 ws.length c2_6_1, vI 0, vI 0, vU 0, vI 0, vI 0])] [Efdc04 b_1 c, E54ea0 a cw ws, E54ea0 a2_6_1 c2_6_1 ws] := by
    intro a2_6_1 c2_6_1
    refine any_step [8, 9] (by kernel_rfl) rfl ⟨?_, ?_, trivial⟩
    · refine any_op (so := .new fun b_8_1 => .ok (.value (vP b_8_1)) [Efdc04 b_1 c, E54ea0 a cw ws, E54ea0 a2_6_1 c2_6_1 ws, Eb76a9 b_8_1 (.nilFunc) 0 false c (ctlAt c tp) ep a2_6_1 ws.length c2_6_1 0 0 0 0 0]) (dst := (some 24)) .w (by kernel_rfl) ?_
      refine sat_new fun b_8_1 => ?_
      refine sat_value ?_
      refine any_pure (l' := #[true, true, true, true, true, true, true, true, true, false, false]) (tm' := [(4, vP b_1), (9, vI (fitK c ((ws.length : Nat) : Int))), (24, vP b_8_1)]) (ps := []) [] [4, 9, 24] (by kernel_rfl) trivial ?_
      exact aS5_1 a2_6_1 c2_6_1 b_8_1
    · refine any_op (so := .new fun b_9_1 => .ok (.value (vP b_9_1)) [Efdc04 b_1 c, E54ea0 a cw ws, E54ea0 a2_6_1 c2_6_1 ws, .pts b_9_1 [.pointer none] 23]) (dst := (some 10)) .w (by kernel_rfl) ?_
      refine sat_new fun b_9_1 => ?_
      refine sat_value ?_
      refine any_pure (l' := #[true, true, true, true, true, true, true, true, false, true, false]) (tm' := [(4, vP b_1), (9, vI (fitK c ((ws.length : Nat) : Int))), (23, .agg #[.nilIface, .nilFunc, vI 0, .bool false, vI c.topics, vI c.small, vI c.slots, vI c.clients, vI c.s0, vI c.n0, vI c.s1, vI c.n1, vI c.retry, vI (ctlAt c tp), vI ep, .slice a2_6_1 ws.length c2_6_1, vI 0, vI 0, vU 0, vI 0, vI 0]), (10, vP b_9_1)]) (ps := []) [] [4, 9, 23, 10] (by kernel_rfl) trivial ?_
      exact aS8_4 a2_6_1 c2_6_1 b_9_1
  have aS9_4 : ∀ (b_9_1 : Nat), Any Tryz.prog Tryz.f12 B12 45 F (RetR F (fun v L => ∃ (p : Nat) (k : Nat) (bp : Nat) (bt : Nat) (wa : Option Addr) (wc : Nat), v = vP p ∧ L = [E54ea0 a cw ws, Ef60d6 p (.iface 114 (vP k)) (.func (.func 51) #[] #[vP bp, vP bt]) 0 false c (ctlAt c tp) ep wa ws.length wc 0 0 0 0 0, .pts bp [vP p] 23, .pts bt [vP k] 114, E65ea3 k c (newTk (fitK c ((ws.length : Nat) : Int))) k, E54ea0 wa wc ws])) (regOps B12 [0, 1, 1]) [.c [1, 1, 1]] #[true, true, true, true, true, true, false, false, false, true, false] [(4, vP b_1), (9, vI (fitK c ((ws.length : Nat) : Int))), (20, vI ep), (21, .slice a ws.length cw), (16, cfgV c), (19, vI (ctlAt c tp)), (10, vP b_9_1)] [E54ea0 a cw ws, Efdc04 b_1 c, .pts b_9_1 [.pointer none] 23] := by
    intro b_9_1
    refine any_step [6] (by kernel_rfl) rfl ⟨?_, trivial⟩
    · refine any_call (some 22) [0] Tryz.call47 (clone_n a cw ws.length ws (by first | assumption | omega | (simp only [InK] at *; omega)) (by first | assumption | omega | (simp only [InK] at *; omega))) (by kernel_rfl) ?_
      rintro v post ⟨a2_6_1, c2_6_1, rfl, rfl⟩
      refine any_pure (l' := #[true, true, true, true, true, true, true, true, false, true, false]) (tm' := [(4, vP b_1), (9, vI (fitK c ((ws.length : Nat) : Int))), (23, .agg #[.nilIface, .nilFunc, vI 0, .bool false, vI c.topics, vI c.small, vI c.slots, vI c.clients, vI c.s0, vI c.n0, vI c.s1, vI c.n1, vI c.retry, vI (ctlAt c tp), vI ep, .slice a2_6_1 ws.length c2_6_1, vI 0, vI 0, vU 0, vI 0, vI 0]), (10, vP b_9_1)]) (ps := []) [] [4, 9, 23, 10] (by kernel_rfl) trivial ?_
      refine any_weak (tm' := [(4, vP b_1), (9, vI (fitK c ((ws.length : Nat) : Int))), (23, .agg #[.nilIface, .nilFunc, vI 0, .bool false, vI c.topics, vI c.small, vI c.slots, vI c.clients, vI c.s0, vI c.n0, vI c.s1, vI c.n1, vI c.retry, vI (ctlAt c tp), vI ep, .slice a2_6_1 ws.length c2_6_1, vI 0, vI 0, vU 0, vI 0, vI 0]), (10, vP b_9_1)]) (L' := [Efdc04 b_1 c, E54ea0 a cw ws, E54ea0 a2_6_1 c2_6_1 ws, .pts b_9_1 [.pointer none] 23]) [4, 9, 23, 10] [0, 2, 3, 1] (by kernel_rfl) ?_
      exact aS8_4 a2_6_1 c2_6_1 b_9_1
  have aS3_1 : Any Tryz.prog Tryz.f12 B12 45 F (RetR F (fun v L => ∃ (p : Nat) (k : Nat) (bp : Nat) (bt : Nat) (wa : Option Addr) (wc : Nat), v = vP p ∧ L = [E54ea0 a cw ws, Ef60d6 p (.iface 114 (vP k)) (.func (.func 51) #[] #[vP bp, vP bt]) 0 false c (ctlAt c tp) ep wa ws.length wc 0 0 0 0 0, .pts bp [vP p] 23, .pts bt [vP k] 114, E65ea3 k c (newTk (fitK c ((ws.length : Nat) : Int))) k, E54ea0 wa wc ws])) (regOps B12 [0, 1, 1]) [.c [1, 1, 1]] #[true, true, true, true, true, true, false, false, false, false, false] [(4, vP b_1), (9, vI (fitK c ((ws.length : Nat) : Int))), (20, vI ep), (21, .slice a ws.length cw), (16, cfgV c), (19, vI (ctlAt c tp))] [E54ea0 a cw ws, Efdc04 b_1 c] := by
    refine any_step [6, 9] (by kernel_rfl) rfl ⟨?_, ?_, trivial⟩
    · refine any_call (some 22) [0] Tryz.call47 (clone_n a cw ws.length ws (by first | assumption | omega | (simp only [InK] at *; omega)) (by first | assumption | omega | (simp only [InK] at *; omega))) (by kernel_rfl) ?_
      rintro v post ⟨a2_6_1, c2_6_1, rfl, rfl⟩
      refine any_pure (l' := #[true, true, true, true, true, true, true, true, false, false, false]) (tm' := [(4, vP b_1), (9, vI (fitK c ((ws.length : Nat) : Int))), (23, .agg #[.nilIface, .nilFunc, vI 0, .bool false, vI c.topics, vI c.small, vI c.slots, vI c.clients, vI c.s0, vI c.n0, vI c.s1, vI c.n1, vI c.retry, vI (ctlAt c tp), vI ep, .slice a2_6_1 ws.length c2_6_1, vI 0, vI 0, vU 0, vI 0, vI 0])]) (ps := []) [] [4, 9, 23] (by kernel_rfl) trivial ?_
      exact aS4_1 a2_6_1 c2_6_1
    · refine any_op (so := .new fun b_9_1 => .ok (.value (vP b_9_1)) [E54ea0 a cw ws, Efdc04 b_1 c, .pts b_9_1 [.pointer none] 23]) (dst := (some 10)) .w (by kernel_rfl) ?_
      refine sat_new fun b_9_1 => ?_
      refine sat_value ?_
      refine any_pure (l' := #[true, true, true, true, true, true, false, false, false, true, false]) (tm' := [(4, vP b_1), (9, vI (fitK c ((ws.length : Nat) : Int))), (20, vI ep), (21, .slice a ws.length cw), (16, cfgV c), (19, vI (ctlAt c tp)), (10, vP b_9_1)]) (ps := []) [] [4, 9, 20, 21, 16, 19, 10] (by kernel_rfl) trivial ?_
      exact aS9_4 b_9_1
  have aS10_4 : ∀ (b_9_1 : Nat), Any Tryz.prog Tryz.f12 B12 45 F (RetR F (fun v L => ∃ (p : Nat) (k : Nat) (bp : Nat) (bt : Nat) (wa : Option Addr) (wc : Nat), v = vP p ∧ L = [E54ea0 a cw ws, Ef60d6 p (.iface 114 (vP k)) (.func (.func 51) #[] #[vP bp, vP bt]) 0 false c (ctlAt c tp) ep wa ws.length wc 0 0 0 0 0, .pts bp [vP p] 23, .pts bt [vP k] 114, E65ea3 k c (newTk (fitK c ((ws.length : Nat) : Int))) k, E54ea0 wa wc ws])) (regOps B12 [0, 1, 1]) [.c [1, 1, 1]] #[true, true, true, false, true, true, false, false, false, true, false] [(4, vP b_1), (9, vI (fitK c ((ws.length : Nat) : Int))), (18, vI tp), (20, vI ep), (21, .slice a ws.length cw), (16, cfgV c), (17, cfgV c), (10, vP b_9_1)] [E54ea0 a cw ws, Efdc04 b_1 c, .pts b_9_1 [.pointer none] 23] := by
    intro b_9_1
    refine any_step [3] (by kernel_rfl) rfl ⟨?_, trivial⟩
    · refine any_call (some 19) [] Tryz.call48 (plan_Control c tp (by first | assumption | omega | (simp only [InK] at *; omega))) (by kernel_rfl) ?_
      rintro v post ⟨rfl, rfl⟩
      refine any_pure (l' := #[true, true, true, true, true, true, false, false, false, true, false]) (tm' := [(4, vP b_1), (9, vI (fitK c ((ws.length : Nat) : Int))), (20, vI ep), (21, .slice a ws.length cw), (16, cfgV c), (19, vI (ctlAt c tp)), (10, vP b_9_1)]) (ps := []) [] [4, 9, 20, 21, 16, 19, 10] (by kernel_rfl) trivial ?_
      exact aS9_4 b_9_1
  have aS2_1 : Any Tryz.prog Tryz.f12 B12 45 F (RetR F (fun v L => ∃ (p : Nat) (k : Nat) (bp : Nat) (bt : Nat) (wa : Option Addr) (wc : Nat), v = vP p ∧ L = [E54ea0 a cw ws, Ef60d6 p (.iface 114 (vP k)) (.func (.func 51) #[] #[vP bp, vP bt]) 0 false c (ctlAt c tp) ep wa ws.length wc 0 0 0 0 0, .pts bp [vP p] 23, .pts bt [vP k] 114, E65ea3 k c (newTk (fitK c ((ws.length : Nat) : Int))) k, E54ea0 wa wc ws])) (regOps B12 [0, 1, 1]) [.c [1, 1, 1]] #[true, true, true, false, true, true, false, false, false, false, false] [(4, vP b_1), (9, vI (fitK c ((ws.length : Nat) : Int))), (18, vI tp), (20, vI ep), (21, .slice a ws.length cw), (16, cfgV c), (17, cfgV c)] [E54ea0 a cw ws, Efdc04 b_1 c] := by
    refine any_step [3, 9] (by kernel_rfl) rfl ⟨?_, ?_, trivial⟩
    · refine any_call (some 19) [] Tryz.call48 (plan_Control c tp (by first | assumption | omega | (simp only [InK] at *; omega))) (by kernel_rfl) ?_
      rintro v post ⟨rfl, rfl⟩
      refine any_pure (l' := #[true, true, true, true, true, true, false, false, false, false, false]) (tm' := [(4, vP b_1), (9, vI (fitK c ((ws.length : Nat) : Int))), (20, vI ep), (21, .slice a ws.length cw), (16, cfgV c), (19, vI (ctlAt c tp))]) (ps := []) [] [4, 9, 20, 21, 16, 19] (by kernel_rfl) trivial ?_
      exact aS3_1
    · refine any_op (so := .new fun b_9_1 => .ok (.value (vP b_9_1)) [E54ea0 a cw ws, Efdc04 b_1 c, .pts b_9_1 [.pointer none] 23]) (dst := (some 10)) .w (by kernel_rfl) ?_
      refine sat_new fun b_9_1 => ?_
      refine sat_value ?_
      refine any_pure (l' := #[true, true, true, false, true, true, false, false, false, true, false]) (tm' := [(4, vP b_1), (9, vI (fitK c ((ws.length : Nat) : Int))), (18, vI tp), (20, vI ep), (21, .slice a ws.length cw), (16, cfgV c), (17, cfgV c), (10, vP b_9_1)]) (ps := []) [] [4, 9, 18, 20, 21, 16, 17, 10] (by kernel_rfl) trivial ?_
      exact aS10_4 b_9_1
  have aS11_4 : ∀ (b_9_1 : Nat), Any Tryz.prog Tryz.f12 B12 45 F (RetR F (fun v L => ∃ (p : Nat) (k : Nat) (bp : Nat) (bt : Nat) (wa : Option Addr) (wc : Nat), v = vP p ∧ L = [E54ea0 a cw ws, Ef60d6 p (.iface 114 (vP k)) (.func (.func 51) #[] #[vP bp, vP bt]) 0 false c (ctlAt c tp) ep wa ws.length wc 0 0 0 0 0, .pts bp [vP p] 23, .pts bt [vP k] 114, E65ea3 k c (newTk (fitK c ((ws.length : Nat) : Int))) k, E54ea0 wa wc ws])) (regOps B12 [0, 1, 1]) [.c [1, 1, 1]] #[true, false, true, false, true, true, false, false, false, true, false] [(4, vP b_1), (9, vI (fitK c ((ws.length : Nat) : Int))), (18, vI tp), (20, vI ep), (21, .slice a ws.length cw), (16, cfgV c), (10, vP b_9_1)] [E54ea0 a cw ws, Efdc04 b_1 c, .pts b_9_1 [.pointer none] 23] := by
    intro b_9_1
    refine any_step [1] (by kernel_rfl) rfl ⟨?_, trivial⟩
    · refine any_op (so := .obl (b_1 = b_1) (.ok (.value (cfgV c)) [E54ea0 a cw ws, Efdc04 b_1 c, .pts b_9_1 [.pointer none] 23])) (dst := (some 17)) (.e 1) (by kernel_rfl) ?_
      refine sat_obl rfl ?_
      refine sat_value ?_
      refine any_pure (l' := #[true, true, true, false, true, true, false, false, false, true, false]) (tm' := [(4, vP b_1), (9, vI (fitK c ((ws.length : Nat) : Int))), (18, vI tp), (20, vI ep), (21, .slice a ws.length cw), (16, cfgV c), (17, cfgV c), (10, vP b_9_1)]) (ps := []) [] [4, 9, 18, 20, 21, 16, 17, 10] (by kernel_rfl) trivial ?_
      exact aS10_4 b_9_1
  have aS1_1 : Any Tryz.prog Tryz.f12 B12 45 F (RetR F (fun v L => ∃ (p : Nat) (k : Nat) (bp : Nat) (bt : Nat) (wa : Option Addr) (wc : Nat), v = vP p ∧ L = [E54ea0 a cw ws, Ef60d6 p (.iface 114 (vP k)) (.func (.func 51) #[] #[vP bp, vP bt]) 0 false c (ctlAt c tp) ep wa ws.length wc 0 0 0 0 0, .pts bp [vP p] 23, .pts bt [vP k] 114, E65ea3 k c (newTk (fitK c ((ws.length : Nat) : Int))) k, E54ea0 wa wc ws])) (regOps B12 [0, 1, 1]) [.c [1, 1, 1]] #[true, false, true, false, true, true, false, false, false, false, false] [(4, vP b_1), (9, vI (fitK c ((ws.length : Nat) : Int))), (18, vI tp), (20, vI ep), (21, .slice a ws.length cw), (16, cfgV c)] [E54ea0 a cw ws, Efdc04 b_1 c] := by
    refine any_step [1, 9] (by kernel_rfl) rfl ⟨?_, ?_, trivial⟩
    · refine any_op (so := .obl (b_1 = b_1) (.ok (.value (cfgV c)) [E54ea0 a cw ws, Efdc04 b_1 c])) (dst := (some 17)) (.e 1) (by kernel_rfl) ?_
      refine sat_obl rfl ?_
      refine sat_value ?_
      refine any_pure (l' := #[true, true, true, false, true, true, false, false, false, false, false]) (tm' := [(4, vP b_1), (9, vI (fitK c ((ws.length : Nat) : Int))), (18, vI tp), (20, vI ep), (21, .slice a ws.length cw), (16, cfgV c), (17, cfgV c)]) (ps := []) [] [4, 9, 18, 20, 21, 16, 17] (by kernel_rfl) trivial ?_
      exact aS2_1
    · refine any_op (so := .new fun b_9_1 => .ok (.value (vP b_9_1)) [E54ea0 a cw ws, Efdc04 b_1 c, .pts b_9_1 [.pointer none] 23]) (dst := (some 10)) .w (by kernel_rfl) ?_
      refine sat_new fun b_9_1 => ?_
      refine sat_value ?_
      refine any_pure (l' := #[true, false, true, false, true, true, false, false, false, true, false]) (tm' := [(4, vP b_1), (9, vI (fitK c ((ws.length : Nat) : Int))), (18, vI tp), (20, vI ep), (21, .slice a ws.length cw), (16, cfgV c), (10, vP b_9_1)]) (ps := []) [] [4, 9, 18, 20, 21, 16, 10] (by kernel_rfl) trivial ?_
      exact aS11_4 b_9_1
  have aS15_4 : ∀ (a2_6_1 : Option Addr) (c2_6_1 : Nat) (b_9_1 : Nat), Any Tryz.prog Tryz.f12 B12 45 F (RetR F (fun v L => ∃ (p : Nat) (k : Nat) (bp : Nat) (bt : Nat) (wa : Option Addr) (wc : Nat), v = vP p ∧ L = [E54ea0 a cw ws, Ef60d6 p (.iface 114 (vP k)) (.func (.func 51) #[] #[vP bp, vP bt]) 0 false c (ctlAt c tp) ep wa ws.length wc 0 0 0 0 0, .pts bp [vP p] 23, .pts bt [vP k] 114, E65ea3 k c (newTk (fitK c ((ws.length : Nat) : Int))) k, E54ea0 wa wc ws])) (regOps B12 [0, 1, 1]) [.c [1, 1, 1]] #[false, true, true, true, true, true, true, false, false, true, false] [(4, vP b_1), (9, vI (fitK c ((ws.length : Nat) : Int))), (20, vI ep), (19, vI (ctlAt c tp)), (22, .slice a2_6_1 ws.length c2_6_1), (10, vP b_9_1)] [Efdc04 b_1 c, E54ea0 a cw ws, E54ea0 a2_6_1 c2_6_1 ws, .pts b_9_1 [.pointer none] 23] := by
    intro a2_6_1 c2_6_1 b_9_1
    refine any_step [0] (by kernel_rfl) rfl ⟨?_, trivial⟩
    · refine any_op (so := .obl (b_1 = b_1) (.ok (.value (cfgV c)) [Efdc04 b_1 c, E54ea0 a cw ws, E54ea0 a2_6_1 c2_6_1 ws, .pts b_9_1 [.pointer none] 23])) (dst := (some 16)) (.e 0) (by kernel_rfl) ?_
      refine sat_obl rfl ?_
      refine sat_value ?_
      refine any_pure (l' := #[true, true, true, true, true, true, true, true, false, true, false]) (tm' := [(4, vP b_1), (9, vI (fitK c ((ws.length : Nat) : Int))), (23, .agg #[.nilIface, .nilFunc, vI 0, .bool false, vI c.topics, vI c.small, vI c.slots, vI c.clients, vI c.s0, vI c.n0, vI c.s1, vI c.n1, vI c.retry, vI (ctlAt c tp), vI ep, .slice a2_6_1 ws.length c2_6_1, vI 0, vI 0, vU 0, vI 0, vI 0]), (10, vP b_9_1)]) (ps := []) [] [4, 9, 23, 10] (by kernel_rfl) trivial ?_
      exact aS8_4 a2_6_1 c2_6_1 b_9_1
  have aS14_4 : ∀ (a2_6_1 : Option Addr) (c2_6_1 : Nat), Any Tryz.prog Tryz.f12 B12 45 F (RetR F (fun v L => ∃ (p : Nat) (k : Nat) (bp : Nat) (bt : Nat) (wa : Option Addr) (wc : Nat), v = vP p ∧ L = [E54ea0 a cw ws, Ef60d6 p (.iface 114 (vP k)) (.func (.func 51) #[] #[vP bp, vP bt]) 0 false c (ctlAt c tp) ep wa ws.length wc 0 0 0 0 0, .pts bp [vP p] 23, .pts bt [vP k] 114, E65ea3 k c (newTk (fitK c ((ws.length : Nat) : Int))) k, E54ea0 wa wc ws])) (regOps B12 [0, 1, 1]) [.c [1, 1, 1]] #[false, true, true, true, true, true, true, false, false, false, false] [(4, vP b_1), (9, vI (fitK c ((ws.length : Nat) : Int))), (20, vI ep), (19, vI (ctlAt c tp)), (22, .slice a2_6_1 ws.length c2_6_1)] [Efdc04 b_1 c, E54ea0 a cw ws, E54ea0 a2_6_1 c2_6_1 ws] := by
    intro a2_6_1 c2_6_1
    refine any_step [0, 9] (by kernel_rfl) rfl ⟨?_, ?_, trivial⟩
    · refine any_op (so := .obl (b_1 = b_1) (.ok (.value (cfgV c)) [Efdc04 b_1 c, E54ea0 a cw ws, E54ea0 a2_6_1 c2_6_1 ws])) (dst := (some 16)) (.e 0) (by kernel_rfl) ?_
      refine sat_obl rfl ?_
      refine sat_value ?_
      refine any_pure (l' := #[true, true, true, true, true, true, true, true, false, false, false]) (tm' := [(4, vP b_1), (9, vI (fitK c ((ws.length : Nat) : Int))), (23, .agg #[.nilIface, .nilFunc, vI 0, .bool false, vI c.topics, vI c.small, vI c.slots, vI c.clients, vI c.s0, vI c.n0, vI c.s1, vI c.n1, vI c.retry, vI (ctlAt c tp), vI ep, .slice a2_6_1 ws.length c2_6_1, vI 0, vI 0, vU 0, vI 0, vI 0])]) (ps := []) [] [4, 9, 23] (by kernel_rfl) trivial ?_
      exact aS4_1 a2_6_1 c2_6_1
    · refine any_op (so := .new fun b_9_1 => .ok (.value (vP b_9_1)) [Efdc04 b_1 c, E54ea0 a cw ws, E54ea0 a2_6_1 c2_6_1 ws, .pts b_9_1 [.pointer none] 23]) (dst := (some 10)) .w (by kernel_rfl) ?_
      refine sat_new fun b_9_1 => ?_
      refine sat_value ?_
      refine any_pure (l' := #[false, true, true, true, true, true, true, false, false, true, false]) (tm' := [(4, vP b_1), (9, vI (fitK c ((ws.length : Nat) : Int))), (20, vI ep), (19, vI (ctlAt c tp)), (22, .slice a2_6_1 ws.length c2_6_1), (10, vP b_9_1)]) (ps := []) [] [4, 9, 20, 19, 22, 10] (by kernel_rfl) trivial ?_
      exact aS15_4 a2_6_1 c2_6_1 b_9_1
  have aS16_4 : ∀ (b_9_1 : Nat), Any Tryz.prog Tryz.f12 B12 45 F (RetR F (fun v L => ∃ (p : Nat) (k : Nat) (bp : Nat) (bt : Nat) (wa : Option Addr) (wc : Nat), v = vP p ∧ L = [E54ea0 a cw ws, Ef60d6 p (.iface 114 (vP k)) (.func (.func 51) #[] #[vP bp, vP bt]) 0 false c (ctlAt c tp) ep wa ws.length wc 0 0 0 0 0, .pts bp [vP p] 23, .pts bt [vP k] 114, E65ea3 k c (newTk (fitK c ((ws.length : Nat) : Int))) k, E54ea0 wa wc ws])) (regOps B12 [0, 1, 1]) [.c [1, 1, 1]] #[false, true, true, true, true, true, false, false, false, true, false] [(4, vP b_1), (9, vI (fitK c ((ws.length : Nat) : Int))), (20, vI ep), (21, .slice a ws.length cw), (19, vI (ctlAt c tp)), (10, vP b_9_1)] [E54ea0 a cw ws, Efdc04 b_1 c, .pts b_9_1 [.pointer none] 23] := by
    intro b_9_1
    refine any_step [0, 6] (by kernel_rfl) rfl ⟨?_, ?_, trivial⟩
    · refine any_op (so := .obl (b_1 = b_1) (.ok (.value (cfgV c)) [E54ea0 a cw ws, Efdc04 b_1 c, .pts b_9_1 [.pointer none] 23])) (dst := (some 16)) (.e 1) (by kernel_rfl) ?_
      refine sat_obl rfl ?_
      refine sat_value ?_
      refine any_pure (l' := #[true, true, true, true, true, true, false, false, false, true, false]) (tm' := [(4, vP b_1), (9, vI (fitK c ((ws.length : Nat) : Int))), (20, vI ep), (21, .slice a ws.length cw), (16, cfgV c), (19, vI (ctlAt c tp)), (10, vP b_9_1)]) (ps := []) [] [4, 9, 20, 21, 16, 19, 10] (by kernel_rfl) trivial ?_
      exact aS9_4 b_9_1
    · refine any_call (some 22) [0] Tryz.call47 (clone_n a cw ws.length ws (by first | assumption | omega | (simp only [InK] at *; omega)) (by first | assumption | omega | (simp only [InK] at *; omega))) (by kernel_rfl) ?_
      rintro v post ⟨a2_6_1, c2_6_1, rfl, rfl⟩
      refine any_pure (l' := #[false, true, true, true, true, true, true, false, false, true, false]) (tm' := [(4, vP b_1), (9, vI (fitK c ((ws.length : Nat) : Int))), (20, vI ep), (19, vI (ctlAt c tp)), (22, .slice a2_6_1 ws.length c2_6_1), (10, vP b_9_1)]) (ps := []) [] [4, 9, 20, 19, 22, 10] (by kernel_rfl) trivial ?_
      refine any_weak (tm' := [(4, vP b_1), (9, vI (fitK c ((ws.length : Nat) : Int))), (20, vI ep), (19, vI (ctlAt c tp)), (22, .slice a2_6_1 ws.length c2_6_1), (10, vP b_9_1)]) (L' := [Efdc04 b_1 c, E54ea0 a cw ws, E54ea0 a2_6_1 c2_6_1 ws, .pts b_9_1 [.pointer none] 23]) [4, 9, 20, 19, 22, 10] [0, 2, 3, 1] (by kernel_rfl) ?_
      exact aS15_4 a2_6_1 c2_6_1 b_9_1
  have aS13_4 : Any Tryz.prog Tryz.f12 B12 45 F (RetR F (fun v L => ∃ (p : Nat) (k : Nat) (bp : Nat) (bt : Nat) (wa : Option Addr) (wc : Nat), v = vP p ∧ L = [E54ea0 a cw ws, Ef60d6 p (.iface 114 (vP k)) (.func (.func 51) #[] #[vP bp, vP bt]) 0 false c (ctlAt c tp) ep wa ws.length wc 0 0 0 0 0, .pts bp [vP p] 23, .pts bt [vP k] 114, E65ea3 k c (newTk (fitK c ((ws.length : Nat) : Int))) k, E54ea0 wa wc ws])) (regOps B12 [0, 1, 1]) [.c [1, 1, 1]] #[false, true, true, true, true, true, false, false, false, false, false] [(4, vP b_1), (9, vI (fitK c ((ws.length : Nat) : Int))), (20, vI ep), (21, .slice a ws.length cw), (19, vI (ctlAt c tp))] [E54ea0 a cw ws, Efdc04 b_1 c] := by
    refine any_step [0, 6, 9] (by kernel_rfl) rfl ⟨?_, ?_, ?_, trivial⟩
    · refine any_op (so := .obl (b_1 = b_1) (.ok (.value (cfgV c)) [E54ea0 a cw ws, Efdc04 b_1 c])) (dst := (some 16)) (.e 1) (by kernel_rfl) ?_
      refine sat_obl rfl ?_
      refine sat_value ?_
      refine any_pure (l' := #[true, true, true, true, true, true, false, false, false, false, false]) (tm' := [(4, vP b_1), (9, vI (fitK c ((ws.length : Nat) : Int))), (20, vI ep), (21, .slice a ws.length cw), (16, cfgV c), (19, vI (ctlAt c tp))]) (ps := []) [] [4, 9, 20, 21, 16, 19] (by kernel_rfl) trivial ?_
      exact aS3_1
    · refine any_call (some 22) [0] Tryz.call47 (clone_n a cw ws.length ws (by first | assumption | omega | (simp only [InK] at *; omega)) (by first | assumption | omega | (simp only [InK] at *; omega))) (by kernel_rfl) ?_
      rintro v post ⟨a2_6_1, c2_6_1, rfl, rfl⟩
      refine any_pure (l' := #[false, true, true, true, true, true, true, false, false, false, false]) (tm' := [(4, vP b_1), (9, vI (fitK c ((ws.length : Nat) : Int))), (20, vI ep), (19, vI (ctlAt c tp)), (22, .slice a2_6_1 ws.length c2_6_1)]) (ps := []) [] [4, 9, 20, 19, 22] (by kernel_rfl) trivial ?_
      exact aS14_4 a2_6_1 c2_6_1
    · refine any_op (so := .new fun b_9_1 => .ok (.value (vP b_9_1)) [E54ea0 a cw ws, Efdc04 b_1 c, .pts b_9_1 [.pointer none] 23]) (dst := (some 10)) .w (by kernel_rfl) ?_
      refine sat_new fun b_9_1 => ?_
      refine sat_value ?_
      refine any_pure (l' := #[false, true, true, true, true, true, false, false, false, true, false]) (tm' := [(4, vP b_1), (9, vI (fitK c ((ws.length : Nat) : Int))), (20, vI ep), (21, .slice a ws.length cw), (19, vI (ctlAt c tp)), (10, vP b_9_1)]) (ps := []) [] [4, 9, 20, 21, 19, 10] (by kernel_rfl) trivial ?_
      exact aS16_4 b_9_1
  have aS17_4 : ∀ (b_9_1 : Nat), Any Tryz.prog Tryz.f12 B12 45 F (RetR F (fun v L => ∃ (p : Nat) (k : Nat) (bp : Nat) (bt : Nat) (wa : Option Addr) (wc : Nat), v = vP p ∧ L = [E54ea0 a cw ws, Ef60d6 p (.iface 114 (vP k)) (.func (.func 51) #[] #[vP bp, vP bt]) 0 false c (ctlAt c tp) ep wa ws.length wc 0 0 0 0 0, .pts bp [vP p] 23, .pts bt [vP k] 114, E65ea3 k c (newTk (fitK c ((ws.length : Nat) : Int))) k, E54ea0 wa wc ws])) (regOps B12 [0, 1, 1]) [.c [1, 1, 1]] #[false, true, true, false, true, true, false, false, false, true, false] [(4, vP b_1), (9, vI (fitK c ((ws.length : Nat) : Int))), (18, vI tp), (20, vI ep), (21, .slice a ws.length cw), (17, cfgV c), (10, vP b_9_1)] [E54ea0 a cw ws, Efdc04 b_1 c, .pts b_9_1 [.pointer none] 23] := by
    intro b_9_1
    refine any_step [0, 3] (by kernel_rfl) rfl ⟨?_, ?_, trivial⟩
    · refine any_op (so := .obl (b_1 = b_1) (.ok (.value (cfgV c)) [E54ea0 a cw ws, Efdc04 b_1 c, .pts b_9_1 [.pointer none] 23])) (dst := (some 16)) (.e 1) (by kernel_rfl) ?_
      refine sat_obl rfl ?_
      refine sat_value ?_
      refine any_pure (l' := #[true, true, true, false, true, true, false, false, false, true, false]) (tm' := [(4, vP b_1), (9, vI (fitK c ((ws.length : Nat) : Int))), (18, vI tp), (20, vI ep), (21, .slice a ws.length cw), (16, cfgV c), (17, cfgV c), (10, vP b_9_1)]) (ps := []) [] [4, 9, 18, 20, 21, 16, 17, 10] (by kernel_rfl) trivial ?_
      exact aS10_4 b_9_1
    · refine any_call (some 19) [] Tryz.call48 (plan_Control c tp (by first | assumption | omega | (simp only [InK] at *; omega))) (by kernel_rfl) ?_
      rintro v post ⟨rfl, rfl⟩
      refine any_pure (l' := #[false, true, true, true, true, true, false, false, false, true, false]) (tm' := [(4, vP b_1), (9, vI (fitK c ((ws.length : Nat) : Int))), (20, vI ep), (21, .slice a ws.length cw), (19, vI (ctlAt c tp)), (10, vP b_9_1)]) (ps := []) [] [4, 9, 20, 21, 19, 10] (by kernel_rfl) trivial ?_
      exact aS16_4 b_9_1
  have aS12_4 : Any Tryz.prog Tryz.f12 B12 45 F (RetR F (fun v L => ∃ (p : Nat) (k : Nat) (bp : Nat) (bt : Nat) (wa : Option Addr) (wc : Nat), v = vP p ∧ L = [E54ea0 a cw ws, Ef60d6 p (.iface 114 (vP k)) (.func (.func 51) #[] #[vP bp, vP bt]) 0 false c (ctlAt c tp) ep wa ws.length wc 0 0 0 0 0, .pts bp [vP p] 23, .pts bt [vP k] 114, E65ea3 k c (newTk (fitK c ((ws.length : Nat) : Int))) k, E54ea0 wa wc ws])) (regOps B12 [0, 1, 1]) [.c [1, 1, 1]] #[false, true, true, false, true, true, false, false, false, false, false] [(4, vP b_1), (9, vI (fitK c ((ws.length : Nat) : Int))), (18, vI tp), (20, vI ep), (21, .slice a ws.length cw), (17, cfgV c)] [E54ea0 a cw ws, Efdc04 b_1 c] := by
    refine any_step [0, 3, 9] (by kernel_rfl) rfl ⟨?_, ?_, ?_, trivial⟩
    · refine any_op (so := .obl (b_1 = b_1) (.ok (.value (cfgV c)) [E54ea0 a cw ws, Efdc04 b_1 c])) (dst := (some 16)) (.e 1) (by kernel_rfl) ?_
      refine sat_obl rfl ?_
      refine sat_value ?_
      refine any_pure (l' := #[true, true, true, false, true, true, false, false, false, false, false]) (tm' := [(4, vP b_1), (9, vI (fitK c ((ws.length : Nat) : Int))), (18, vI tp), (20, vI ep), (21, .slice a ws.length cw), (16, cfgV c), (17, cfgV c)]) (ps := []) [] [4, 9, 18, 20, 21, 16, 17] (by kernel_rfl) trivial ?_
      exact aS2_1
    · refine any_call (some 19) [] Tryz.call48 (plan_Control c tp (by first | assumption | omega | (simp only [InK] at *; omega))) (by kernel_rfl) ?_
      rintro v post ⟨rfl, rfl⟩
      refine any_pure (l' := #[false, true, true, true, true, true, false, false, false, false, false]) (tm' := [(4, vP b_1), (9, vI (fitK c ((ws.length : Nat) : Int))), (20, vI ep), (21, .slice a ws.length cw), (19, vI (ctlAt c tp))]) (ps := []) [] [4, 9, 20, 21, 19] (by kernel_rfl) trivial ?_
      exact aS13_4
    · refine any_op (so := .new fun b_9_1 => .ok (.value (vP b_9_1)) [E54ea0 a cw ws, Efdc04 b_1 c, .pts b_9_1 [.pointer none] 23]) (dst := (some 10)) .w (by kernel_rfl) ?_
      refine sat_new fun b_9_1 => ?_
      refine sat_value ?_
      refine any_pure (l' := #[false, true, true, false, true, true, false, false, false, true, false]) (tm' := [(4, vP b_1), (9, vI (fitK c ((ws.length : Nat) : Int))), (18, vI tp), (20, vI ep), (21, .slice a ws.length cw), (17, cfgV c), (10, vP b_9_1)]) (ps := []) [] [4, 9, 18, 20, 21, 17, 10] (by kernel_rfl) trivial ?_
      exact aS17_4 b_9_1
  have aS18_4 : ∀ (b_9_1 : Nat), Any Tryz.prog Tryz.f12 B12 45 F (RetR F (fun v L => ∃ (p : Nat) (k : Nat) (bp : Nat) (bt : Nat) (wa : Option Addr) (wc : Nat), v = vP p ∧ L = [E54ea0 a cw ws, Ef60d6 p (.iface 114 (vP k)) (.func (.func 51) #[] #[vP bp, vP bt]) 0 false c (ctlAt c tp) ep wa ws.length wc 0 0 0 0 0, .pts bp [vP p] 23, .pts bt [vP k] 114, E65ea3 k c (newTk (fitK c ((ws.length : Nat) : Int))) k, E54ea0 wa wc ws])) (regOps B12 [0, 1, 1]) [.c [1, 1, 1]] #[false, false, true, false, true, true, false, false, false, true, false] [(4, vP b_1), (9, vI (fitK c ((ws.length : Nat) : Int))), (18, vI tp), (20, vI ep), (21, .slice a ws.length cw), (10, vP b_9_1)] [E54ea0 a cw ws, Efdc04 b_1 c, .pts b_9_1 [.pointer none] 23] := by
    intro b_9_1
    refine any_step [0, 1] (by kernel_rfl) rfl ⟨?_, ?_, trivial⟩
    · refine any_op (so := .obl (b_1 = b_1) (.ok (.value (cfgV c)) [E54ea0 a cw ws, Efdc04 b_1 c, .pts b_9_1 [.pointer none] 23])) (dst := (some 16)) (.e 1) (by kernel_rfl) ?_
      refine sat_obl rfl ?_
      refine sat_value ?_
      refine any_pure (l' := #[true, false, true, false, true, true, false, false, false, true, false]) (tm' := [(4, vP b_1), (9, vI (fitK c ((ws.length : Nat) : Int))), (18, vI tp), (20, vI ep), (21, .slice a ws.length cw), (16, cfgV c), (10, vP b_9_1)]) (ps := []) [] [4, 9, 18, 20, 21, 16, 10] (by kernel_rfl) trivial ?_
      exact aS11_4 b_9_1
    · refine any_op (so := .obl (b_1 = b_1) (.ok (.value (cfgV c)) [E54ea0 a cw ws, Efdc04 b_1 c, .pts b_9_1 [.pointer none] 23])) (dst := (some 17)) (.e 1) (by kernel_rfl) ?_
      refine sat_obl rfl ?_
      refine sat_value ?_
      refine any_pure (l' := #[false, true, true, false, true, true, false, false, false, true, false]) (tm' := [(4, vP b_1), (9, vI (fitK c ((ws.length : Nat) : Int))), (18, vI tp), (20, vI ep), (21, .slice a ws.length cw), (17, cfgV c), (10, vP b_9_1)]) (ps := []) [] [4, 9, 18, 20, 21, 17, 10] (by kernel_rfl) trivial ?_
      exact aS17_4 b_9_1
  have aS0_1 : Any Tryz.prog Tryz.f12 B12 45 F (RetR F (fun v L => ∃ (p : Nat) (k : Nat) (bp : Nat) (bt : Nat) (wa : Option Addr) (wc : Nat), v = vP p ∧ L = [E54ea0 a cw ws, Ef60d6 p (.iface 114 (vP k)) (.func (.func 51) #[] #[vP bp, vP bt]) 0 false c (ctlAt c tp) ep wa ws.length wc 0 0 0 0 0, .pts bp [vP p] 23, .pts bt [vP k] 114, E65ea3 k c (newTk (fitK c ((ws.length : Nat) : Int))) k, E54ea0 wa wc ws])) (regOps B12 [0, 1, 1]) [.c [1, 1, 1]] #[false, false, true, false, true, true, false, false, false, false, false] [(4, vP b_1), (9, vI (fitK c ((ws.length : Nat) : Int))), (18, vI tp), (20, vI ep), (21, .slice a ws.length cw)] [E54ea0 a cw ws, Efdc04 b_1 c] := by
    refine any_step [0, 1, 9] (by kernel_rfl) rfl ⟨?_, ?_, ?_, trivial⟩
    · refine any_op (so := .obl (b_1 = b_1) (.ok (.value (cfgV c)) [E54ea0 a cw ws, Efdc04 b_1 c])) (dst := (some 16)) (.e 1) (by kernel_rfl) ?_
      refine sat_obl rfl ?_
      refine sat_value ?_
      refine any_pure (l' := #[true, false, true, false, true, true, false, false, false, false, false]) (tm' := [(4, vP b_1), (9, vI (fitK c ((ws.length : Nat) : Int))), (18, vI tp), (20, vI ep), (21, .slice a ws.length cw), (16, cfgV c)]) (ps := []) [] [4, 9, 18, 20, 21, 16] (by kernel_rfl) trivial ?_
      exact aS1_1
    · refine any_op (so := .obl (b_1 = b_1) (.ok (.value (cfgV c)) [E54ea0 a cw ws, Efdc04 b_1 c])) (dst := (some 17)) (.e 1) (by kernel_rfl) ?_
      refine sat_obl rfl ?_
      refine sat_value ?_
      refine any_pure (l' := #[false, true, true, false, true, true, false, false, false, false, false]) (tm' := [(4, vP b_1), (9, vI (fitK c ((ws.length : Nat) : Int))), (18, vI tp), (20, vI ep), (21, .slice a ws.length cw), (17, cfgV c)]) (ps := []) [] [4, 9, 18, 20, 21, 17] (by kernel_rfl) trivial ?_
      exact aS12_4
    · refine any_op (so := .new fun b_9_1 => .ok (.value (vP b_9_1)) [E54ea0 a cw ws, Efdc04 b_1 c, .pts b_9_1 [.pointer none] 23]) (dst := (some 10)) .w (by kernel_rfl) ?_
      refine sat_new fun b_9_1 => ?_
      refine sat_value ?_
      refine any_pure (l' := #[false, false, true, false, true, true, false, false, false, true, false]) (tm' := [(4, vP b_1), (9, vI (fitK c ((ws.length : Nat) : Int))), (18, vI tp), (20, vI ep), (21, .slice a ws.length cw), (10, vP b_9_1)]) (ps := []) [] [4, 9, 18, 20, 21, 10] (by kernel_rfl) trivial ?_
      exact aS18_4 b_9_1
  refine go_any (by kernel_rfl) (by kernel_rfl) ?_
  refine any_pure (l' := #[false, false, true, false, true, true, false, false, false, false, false]) (tm' := [(4, vP b_1), (9, vI (fitK c ((ws.length : Nat) : Int))), (18, vI tp), (20, vI ep), (21, .slice a ws.length cw)]) (ps := []) [] [4, 9, 18, 20, 21] (by kernel_rfl) trivial ?_
  exact aS0_1

end Go.Proofs.YtgajfjeffamnkaaGreatDoor


namespace Go.Proofs.YtgajfjeffamnkaaGreatDoor
open Go.Sx
abbrev Ecc945 (x0 : Nat) (x1 : Value) (x2 : Value) (x3 : Int) (x4 : Bool) (c5 : Cfg) (x6 : Value) (x7 : Int) (x8 : Value) : Ent := .pts x0 [x1, x2, .int .i64 x3, .bool x4, .int .i64 c5.topics, .int .i64 c5.small, .int .i64 c5.slots, .int .i64 c5.clients, .int .i64 c5.s0, .int .i64 c5.n0, .int .i64 c5.s1, .int .i64 c5.n1, .int .i64 c5.retry, x6, .int .i64 x7, x8] 112
abbrev Ef5e3f (x0 : Nat) (x1 : Value) (x2 : Int) (x3 : Bool) (c4 : Cfg) (x5 : Value) (x6 : Int) (x7 : Value) : Ent := .pts x0 [.nilIface, x1, .int .i64 x2, .bool x3, .int .i64 c4.topics, .int .i64 c4.small, .int .i64 c4.slots, .int .i64 c4.clients, .int .i64 c4.s0, .int .i64 c4.n0, .int .i64 c4.s1, .int .i64 c4.n1, .int .i64 c4.retry, x5, .int .i64 x6, x7] 112

theorem rd_follow (c : Cfg) (p : Nat) (sl cd : Int) (ov : Bool) (gp wsl : Value) (r_ th_ : Value) (T_ : TypeId) (x_ : Nat) (f_ : Fn) (a_ c_ : Array Value)  :
    Ctr Tryz.prog 50 #[vP p, .iface T_ (vP x_), .func f_ a_ c_] [Ecc945 p r_ th_ cd ov c gp sl wsl] (Ret (undef) [Ecc945 p (.iface T_ (vP x_)) (.func f_ a_ c_) cd ov c gp sl wsl]) := by
  refine ctr_of (args := [vP p, .iface T_ (vP x_), .func f_ a_ c_]) (fn := Tryz.f50) (body := B50) (nt := 12) Tryz.func50 (by kernel_rfl) (by kernel_rfl) ?_
  intro F
  refine go_exec (rs := []) (by kernel_rfl) 4000 [.e 0] (o := .obl (p = p) (.ret (undef) [Ecc945 p (.iface T_ (vP x_)) (.func f_ a_ c_) cd ov c gp sl wsl])) (by kernel_rfl) ?_
  refine ok_obl rfl ?_
  exact ret_ok (post := [Ecc945 p (.iface T_ (vP x_)) (.func f_ a_ c_) cd ov c gp sl wsl]) [0] (by kernel_rfl) ⟨rfl, (by kernel_rfl)⟩


noncomputable def B13 : Code := (Tryz.f13.body).getD .skip

theorem new_RdA (c : Cfg) (cl tp ep : Int) (hc : c.Ok) (hb : cl < 0) :
    Ctr Tryz.prog 13 #[cfgV c, vI cl, vI tp, vI ep] [] (Ret (.pointer none) []) := by
  refine ctr_of (args := [cfgV c, vI cl, vI tp, vI ep]) (fn := Tryz.f13) (body := B13) (nt := 33) Tryz.func13 (by kernel_rfl) (by kernel_rfl) ?_
  intro F
  refine go_exec (rs := [.tmp 8]) (by kernel_rfl) 4000 [.e 0, .e 1, .z [0, 1] 2 [4, 5, 6, 7, 11, 12]] (o := .new fun b_1 => .new fun b_2 => .new fun b_3 => .new fun b_4 => .obl (b_1 = b_1) (.obl (b_2 = b_2) (.stop [.o [0, 1] 2, .c [1, 1]] [(4, vP b_1), (5, vP b_2), (6, vP b_3), (7, vP b_4), (11, cfgV c), (12, vI cl)] [Efdc04 b_1 c, .pts b_2 [vI cl] 3, .pts b_3 [vI tp] 3, .pts b_4 [vI ep] 3]))) (by kernel_rfl) ?_
  refine ok_new fun b_1 => ?_
  refine ok_new fun b_2 => ?_
  refine ok_new fun b_3 => ?_
  refine ok_new fun b_4 => ?_
  refine ok_obl rfl ?_
  refine ok_obl rfl ?_
  refine ok_stop ?_
  refine go_call (some 13) [] Tryz.call54 (new_ClaimBadA c cl (by first | assumption | omega | (simp only [InK] at *; omega)) (by first | assumption | omega | (simp only [InK] at *; omega))) (by kernel_rfl) ?_
  rintro v post ⟨rfl, rfl⟩
  refine go_exec (rs := [.tmp 8]) (by kernel_rfl) 4000 [.e 4, .e 4] (o := .new fun b_6 => .obl (b_6 = b_6) (.obl (b_6 = b_6) (.ret (.pointer none) [Efdc04 b_1 c, .pts b_2 [vI cl] 3, .pts b_3 [vI tp] 3, .pts b_4 [vI ep] 3, .pts b_6 [.pointer none] 118]))) (by kernel_rfl) ?_
  refine ok_new fun b_6 => ?_
  refine ok_obl rfl ?_
  refine ok_obl rfl ?_
  exact ret_ok (post := []) [] (by kernel_rfl) ⟨rfl, (by kernel_rfl)⟩


theorem new_RdB (c : Cfg) (cl tp ep : Int) (hc : c.Ok) (hb : ¬ cl < 0) (hb2 : cl ≥ c.clients) :
    Ctr Tryz.prog 13 #[cfgV c, vI cl, vI tp, vI ep] [] (Ret (.pointer none) []) := by
  refine ctr_of (args := [cfgV c, vI cl, vI tp, vI ep]) (fn := Tryz.f13) (body := B13) (nt := 33) Tryz.func13 (by kernel_rfl) (by kernel_rfl) ?_
  intro F
  refine go_exec (rs := [.tmp 8]) (by kernel_rfl) 4000 [.e 0, .e 1, .z [0, 1] 2 [4, 5, 6, 7, 11, 12]] (o := .new fun b_1 => .new fun b_2 => .new fun b_3 => .new fun b_4 => .obl (b_1 = b_1) (.obl (b_2 = b_2) (.stop [.o [0, 1] 2, .c [1, 1]] [(4, vP b_1), (5, vP b_2), (6, vP b_3), (7, vP b_4), (11, cfgV c), (12, vI cl)] [Efdc04 b_1 c, .pts b_2 [vI cl] 3, .pts b_3 [vI tp] 3, .pts b_4 [vI ep] 3]))) (by kernel_rfl) ?_
  refine ok_new fun b_1 => ?_
  refine ok_new fun b_2 => ?_
  refine ok_new fun b_3 => ?_
  refine ok_new fun b_4 => ?_
  refine ok_obl rfl ?_
  refine ok_obl rfl ?_
  refine ok_stop ?_
  refine go_call (some 13) [] Tryz.call54 (new_ClaimBadB c cl (by first | assumption | omega | (simp only [InK] at *; omega)) (by first | assumption | omega | (simp only [InK] at *; omega)) (by first | assumption | omega | (simp only [InK] at *; omega))) (by kernel_rfl) ?_
  rintro v post ⟨rfl, rfl⟩
  refine go_exec (rs := [.tmp 8]) (by kernel_rfl) 4000 [.e 4, .e 4] (o := .new fun b_6 => .obl (b_6 = b_6) (.obl (b_6 = b_6) (.ret (.pointer none) [Efdc04 b_1 c, .pts b_2 [vI cl] 3, .pts b_3 [vI tp] 3, .pts b_4 [vI ep] 3, .pts b_6 [.pointer none] 118]))) (by kernel_rfl) ?_
  refine ok_new fun b_6 => ?_
  refine ok_obl rfl ?_
  refine ok_obl rfl ?_
  exact ret_ok (post := []) [] (by kernel_rfl) ⟨rfl, (by kernel_rfl)⟩


theorem new_RdT (c : Cfg) (cl tp ep : Int) (hc : c.Ok) (hcl : 0 ≤ cl ∧ cl < c.clients) (ht : ctlAt c tp = -1) :
    Ctr Tryz.prog 13 #[cfgV c, vI cl, vI tp, vI ep] [] (Ret (.pointer none) []) := by
  refine ctr_of (args := [cfgV c, vI cl, vI tp, vI ep]) (fn := Tryz.f13) (body := B13) (nt := 33) Tryz.func13 (by kernel_rfl) (by kernel_rfl) ?_
  intro F
  refine go_exec (rs := [.tmp 8]) (by kernel_rfl) 4000 [.e 0, .e 1, .z [0, 1] 2 [4, 5, 6, 7, 11, 12]] (o := .new fun b_1 => .new fun b_2 => .new fun b_3 => .new fun b_4 => .obl (b_1 = b_1) (.obl (b_2 = b_2) (.stop [.o [0, 1] 2, .c [1, 1]] [(4, vP b_1), (5, vP b_2), (6, vP b_3), (7, vP b_4), (11, cfgV c), (12, vI cl)] [Efdc04 b_1 c, .pts b_2 [vI cl] 3, .pts b_3 [vI tp] 3, .pts b_4 [vI ep] 3]))) (by kernel_rfl) ?_
  refine ok_new fun b_1 => ?_
  refine ok_new fun b_2 => ?_
  refine ok_new fun b_3 => ?_
  refine ok_new fun b_4 => ?_
  refine ok_obl rfl ?_
  refine ok_obl rfl ?_
  refine ok_stop ?_
  refine go_call (some 13) [] Tryz.call54 (new_Claim c cl (by first | assumption | omega | (simp only [InK] at *; omega)) (by first | assumption | omega | (simp only [InK] at *; omega))) (by kernel_rfl) ?_
  rintro v post ⟨k_5, rfl, rfl⟩
  refine go_exec (rs := [.tmp 8]) (by kernel_rfl) 4000 [.e 5, .e 5, .e 0, .e 2, .z [0, 0, 1, 1] 5 [4, 5, 6, 7, 9, 16, 17, 18]] (o := .new fun b_7 => .obl (b_7 = b_7) (.obl (b_7 = b_7) (.obl (b_1 = b_1) (.obl (b_3 = b_3) (.stop [.o [0, 0, 1, 1] 5, .c [1, 0, 1, 1], .c [1, 1, 1]] [(4, vP b_1), (5, vP b_2), (6, vP b_3), (7, vP b_4), (9, vP b_7), (16, .bool false), (17, cfgV c), (18, vI tp)] [Efdc04 b_1 c, .pts b_2 [vI cl] 3, .pts b_3 [vI tp] 3, .pts b_4 [vI ep] 3, E03c2e k_5 c cl 0 (-1), .pts b_7 [vP k_5] 118]))))) (by kernel_rfl) ?_
  refine ok_new fun b_7 => ?_
  refine ok_obl rfl ?_
  refine ok_obl rfl ?_
  refine ok_obl rfl ?_
  refine ok_obl rfl ?_
  refine ok_stop ?_
  refine go_call (some 19) [] Tryz.call48 (plan_Control c tp (by first | assumption | omega | (simp only [InK] at *; omega))) (by kernel_rfl) ?_
  rintro v post ⟨rfl, rfl⟩
  refine go_exec (rs := [.tmp 8]) (by kernel_rfl) 4000 [.sp [21, 20] [] [.dead]] (o := .obl (((ctlAt c tp) == (-1)) = ((ctlAt c tp) == (-1))) (.br ((ctlAt c tp) == (-1)) (.ret (.pointer none) [Efdc04 b_1 c, .pts b_2 [vI cl] 3, .pts b_3 [vI tp] 3, .pts b_4 [vI ep] 3, E03c2e k_5 c cl 0 (-1), .pts b_7 [vP k_5] 118]) (.bad))) (by kernel_rfl) ?_
  refine ok_obl rfl ?_
  refine ok_br (fun _ => ?_) (fun h => absurd (show ((ctlAt c tp) == (-1)) = true from (beq_iff_eq.2 ht)) (by rw [h]; simp))
  exact ret_ok (post := []) [] (by kernel_rfl) ⟨rfl, (by kernel_rfl)⟩


theorem new_Rd (c : Cfg) (cl tp ep : Int) (hc : c.Ok) (hcl : 0 ≤ cl ∧ cl < c.clients) (ht : ctlAt c tp ≠ -1) :
    Ctr Tryz.prog 13 #[cfgV c, vI cl, vI tp, vI ep] [] (fun v L => ∃ (p : Nat) (k : Nat) (b1 : Nat) (b2 : Nat) (b3 : Nat) (b4 : Nat) (b5 : Nat) (b6 : Nat), v = vP p ∧ L = [Ecc945 p (.iface 118 (vP k)) (.func (.func 55) #[] #[vP b1, vP b2, vP b3, vP b4, vP b5, vP b6]) 0 false c (.pointer none) (-1) (.slice none 0 0), E03c2e k c cl 0 (-1), .pts b1 [vP k] 118, .pts b2 [vP p] 24, Efdc04 b3 c, .pts b4 [vI cl] 3, .pts b5 [vI tp] 3, .pts b6 [vI ep] 3]) := by
  refine ctr_of (args := [cfgV c, vI cl, vI tp, vI ep]) (fn := Tryz.f13) (body := B13) (nt := 33) Tryz.func13 (by kernel_rfl) (by kernel_rfl) ?_
  intro F
  refine go_exec (rs := [.tmp 8]) (by kernel_rfl) 4000 [.e 0, .e 1, .z [0, 1] 2 [4, 5, 6, 7, 11, 12]] (o := .new fun b_1 => .new fun b_2 => .new fun b_3 => .new fun b_4 => .obl (b_1 = b_1) (.obl (b_2 = b_2) (.stop [.o [0, 1] 2, .c [1, 1]] [(4, vP b_1), (5, vP b_2), (6, vP b_3), (7, vP b_4), (11, cfgV c), (12, vI cl)] [Efdc04 b_1 c, .pts b_2 [vI cl] 3, .pts b_3 [vI tp] 3, .pts b_4 [vI ep] 3]))) (by kernel_rfl) ?_
  refine ok_new fun b_1 => ?_
  refine ok_new fun b_2 => ?_
  refine ok_new fun b_3 => ?_
  refine ok_new fun b_4 => ?_
  refine ok_obl rfl ?_
  refine ok_obl rfl ?_
  refine ok_stop ?_
  refine go_call (some 13) [] Tryz.call54 (new_Claim c cl (by first | assumption | omega | (simp only [InK] at *; omega)) (by first | assumption | omega | (simp only [InK] at *; omega))) (by kernel_rfl) ?_
  rintro v post ⟨k_5, rfl, rfl⟩
  refine go_exec (rs := [.tmp 8]) (by kernel_rfl) 4000 [.e 5, .e 5, .e 0, .e 2, .z [0, 0, 1, 1] 5 [4, 5, 6, 7, 9, 16, 17, 18]] (o := .new fun b_7 => .obl (b_7 = b_7) (.obl (b_7 = b_7) (.obl (b_1 = b_1) (.obl (b_3 = b_3) (.stop [.o [0, 0, 1, 1] 5, .c [1, 0, 1, 1], .c [1, 1, 1]] [(4, vP b_1), (5, vP b_2), (6, vP b_3), (7, vP b_4), (9, vP b_7), (16, .bool false), (17, cfgV c), (18, vI tp)] [Efdc04 b_1 c, .pts b_2 [vI cl] 3, .pts b_3 [vI tp] 3, .pts b_4 [vI ep] 3, E03c2e k_5 c cl 0 (-1), .pts b_7 [vP k_5] 118]))))) (by kernel_rfl) ?_
  refine ok_new fun b_7 => ?_
  refine ok_obl rfl ?_
  refine ok_obl rfl ?_
  refine ok_obl rfl ?_
  refine ok_obl rfl ?_
  refine ok_stop ?_
  refine go_call (some 19) [] Tryz.call48 (plan_Control c tp (by first | assumption | omega | (simp only [InK] at *; omega))) (by kernel_rfl) ?_
  rintro v post ⟨rfl, rfl⟩
  refine go_exec (rs := [.tmp 8]) (by kernel_rfl) 4000 [.sp [21, 20] [.dead] [.e 0, .e 7, .z [0, 1, 1, 1, 1] 0 [4, 5, 6, 7, 9, 10]]] (o := .obl (((ctlAt c tp) == (-1)) = ((ctlAt c tp) == (-1))) (.br ((ctlAt c tp) == (-1)) (.bad) (.obl (b_1 = b_1) (.new fun b_8 => .new fun b_9 => .obl (b_9 = b_9) (.stop [.c [0, 1, 1, 1, 1], .c [1, 1, 1, 1, 1]] [(4, vP b_1), (5, vP b_2), (6, vP b_3), (7, vP b_4), (9, vP b_7), (10, vP b_9)] [Efdc04 b_1 c, .pts b_2 [vI cl] 3, .pts b_3 [vI tp] 3, .pts b_4 [vI ep] 3, E03c2e k_5 c cl 0 (-1), .pts b_7 [vP k_5] 118, Ef5e3f b_8 (.nilFunc) 0 false c (.pointer none) (-1) (.slice none 0 0), .pts b_9 [vP b_8] 24]))))) (by kernel_rfl) ?_
  refine ok_obl rfl ?_
  refine ok_br (fun h => absurd (show ((ctlAt c tp) == (-1)) = false from (beq_eq_false_iff_ne.2 ht)) (by rw [h]; simp)) (fun _ => ?_)
  refine ok_obl rfl ?_
  refine ok_new fun b_8 => ?_
  refine ok_new fun b_9 => ?_
  refine ok_obl rfl ?_
  refine ok_stop ?_
  refine go_tail_call (dst := (some 31)) (ps := [b_9 = b_9, b_7 = b_7]) (cs := []) [(0, .h (.e 7)), (1, .h .w), (2, .h .w), (3, .h (.e 5)), (4, .h .w), (5, .h .w)] 6 [] [6] [10] (by kernel_rfl) Tryz.call50 (rd_follow c b_8 (-1) 0 false (.pointer none) (.slice none 0 0) (.nilIface) (.nilFunc) 118 k_5 (.func 55) (#[]) (#[vP b_7, vP b_9, vP b_1, vP b_2, vP b_3, vP b_4])) (by kernel_rfl) ⟨rfl, rfl, trivial⟩ trivial ?_
  rintro v post ⟨rfl, rfl⟩
  refine tail_next (tm' := [(10, vP b_9)]) (ps2 := []) (by kernel_rfl) trivial ?_
  refine go_exec (rs := [.tmp 8]) (by kernel_rfl) 4000 [.e 6] (o := .obl (b_9 = b_9) (.ret (vP b_8) [Efdc04 b_1 c, .pts b_2 [vI cl] 3, .pts b_3 [vI tp] 3, .pts b_4 [vI ep] 3, E03c2e k_5 c cl 0 (-1), .pts b_7 [vP k_5] 118, .pts b_9 [vP b_8] 24, Ecc945 b_8 (.iface 118 (vP k_5)) (.func (.func 55) #[] #[vP b_7, vP b_9, vP b_1, vP b_2, vP b_3, vP b_4]) 0 false c (.pointer none) (-1) (.slice none 0 0)])) (by kernel_rfl) ?_
  refine ok_obl rfl ?_
  exact ret_ok (post := [Ecc945 b_8 (.iface 118 (vP k_5)) (.func (.func 55) #[] #[vP b_7, vP b_9, vP b_1, vP b_2, vP b_3, vP b_4]) 0 false c (.pointer none) (-1) (.slice none 0 0), E03c2e k_5 c cl 0 (-1), .pts b_7 [vP k_5] 118, .pts b_9 [vP b_8] 24, Efdc04 b_1 c, .pts b_2 [vI cl] 3, .pts b_3 [vI tp] 3, .pts b_4 [vI ep] 3]) [7, 4, 5, 6, 0, 1, 2, 3] (by kernel_rfl) ⟨b_8, k_5, b_7, b_9, b_1, b_2, b_3, b_4, rfl, (by kernel_rfl)⟩

end Go.Proofs.YtgajfjeffamnkaaGreatDoor


namespace Go.Proofs.YtgajfjeffamnkaaGreatDoor
open Go.Sx
abbrev E18337 (x0 : Nat) (x1 : Value) (x2 : Value) (x3 : Int) (x4 : Bool) (x5 : Int) (x6 : Int) (x7 : Int) (x8 : Int) (x9 : Int) (x10 : Int) (x11 : Int) (x12 : Int) (x13 : Int) (x14 : Int) (x15 : Int) (x16 : Option Addr) (x17 : Nat) (x18 : Nat) (x19 : Int) (x20 : Int) (x21 : Int) (x22 : Int) (x23 : Int) : Ent := .pts x0 [x1, x2, .int .i64 x3, .bool x4, .int .i64 x5, .int .i64 x6, .int .i64 x7, .int .i64 x8, .int .i64 x9, .int .i64 x10, .int .i64 x11, .int .i64 x12, .int .i64 x13, .int .i64 x14, .int .i64 x15, .slice x16 x17 x18, .int .i64 x19, .int .i64 x20, .int .u64 x21, .int .i64 x22, .int .i64 x23] 109
noncomputable abbrev Ee501f (x0 : Nat) (x1 : Int) (x2 : Int) (x3 : Int) (x4 : Int) (x5 : Int) (x6 : Int) (x7 : Int) (x8 : Int) (x9 : Int) (t10 : Tk) (x11 : Nat) : Ent := .pts x0 [.int .i64 x1, .int .i64 x2, .int .i64 x3, .int .i64 x4, .int .i64 x5, .int .i64 x6, .int .i64 x7, .int .i64 x8, .int .i64 x9, .int .i64 t10.head, .int .u64 t10.seen, (nxT x11 t10.ph), .int .i64 t10.cls, .int .i64 t10.block, .int .i64 t10.after] 171
noncomputable abbrev E4ef78 (x0 : Nat) (x1 : Int) (x2 : Int) (x3 : Int) (x4 : Int) (x5 : Int) (x6 : Int) (x7 : Int) (x8 : Int) (x9 : Int) (t10 : Tk) (x11 : Nat) (x12 : Nat) : Ent := .pts x0 [.int .i64 x1, .int .i64 x2, .int .i64 x3, .int .i64 x4, .int .i64 x5, .int .i64 x6, .int .i64 x7, .int .i64 x8, .int .i64 x9, .int .i64 t10.head, .int .u64 t10.seen, (nxT x11 x12), .int .i64 t10.cls, .int .i64 t10.block, .int .i64 t10.after] 171
abbrev q73_1 : List Nat := [0, 1, 1, 1, 1, 1, 1]
noncomputable def B10 : Code := (Tryz.f10.body).getD .skip

theorem pubTold_nil   :
    Ctr Tryz.prog 10 #[.pointer none] [] (Ret (.tuple #[vI 0, .iface 42 (vI 1)]) []) := by
  refine ctr_of (args := [.pointer none]) (fn := Tryz.f10) (body := B10) (nt := 26) Tryz.func10 (by kernel_rfl) (by kernel_rfl) ?_
  intro F
  refine go_exec (rs := [.tmp 2, .tmp 3]) (by kernel_rfl) 4000 [.z [0, 0, 1, 0, 0, 1] 0 []] (o := .stop [.o [0, 0, 1, 0, 0, 1] 0, .c [1, 0, 1, 0, 0, 1], .b 0, .c [1, 1]] [] []) (by kernel_rfl) ?_
  refine ok_stop ?_
  refine go_call (some 7) [] Tryz.call46 (cause_NewE 1 (by decide)) (by kernel_rfl) ?_
  rintro v post ⟨rfl, rfl⟩
  refine go_exec (rs := [.tmp 2, .tmp 3]) (by kernel_rfl) 4000 [] (o := .ret (.tuple #[vI 0, .iface 42 (vI 1)]) []) (by kernel_rfl) ?_
  exact ret_ok (post := []) [] (by kernel_rfl) ⟨rfl, (by kernel_rfl)⟩


theorem pubStep_nil   :
    Ctr Tryz.prog 15 #[.pointer none, .pointer none] [] (Ret (.bool true) []) := by
  refine ctr_of (args := [.pointer none, .pointer none]) (fn := Tryz.f15) (body := B15) (nt := 14) Tryz.func15 (by kernel_rfl) (by kernel_rfl) ?_
  intro F
  refine go_exec (rs := [.tmp 4]) (by kernel_rfl) 4000 [] (o := .ret (.bool true) []) (by kernel_rfl) ?_
  exact ret_ok (post := []) [] (by kernel_rfl) ⟨rfl, (by kernel_rfl)⟩

noncomputable def B16 : Code := (Tryz.f16.body).getD .skip

theorem pubDone_nil   :
    Ctr Tryz.prog 16 #[.pointer none] [] (Ret (.bool true) []) := by
  refine ctr_of (args := [.pointer none]) (fn := Tryz.f16) (body := B16) (nt := 12) Tryz.func16 (by kernel_rfl) (by kernel_rfl) ?_
  intro F
  refine go_exec (rs := [.tmp 2]) (by kernel_rfl) 4000 [] (o := .ret (.bool true) []) (by kernel_rfl) ?_
  exact ret_ok (post := []) [] (by kernel_rfl) ⟨rfl, (by kernel_rfl)⟩

noncomputable def B18 : Code := (Tryz.f18.body).getD .skip

theorem pubPrivate_nil   :
    Ctr Tryz.prog 18 #[.pointer none] [] (Ret (vI 0) []) := by
  refine ctr_of (args := [.pointer none]) (fn := Tryz.f18) (body := B18) (nt := 9) Tryz.func18 (by kernel_rfl) (by kernel_rfl) ?_
  intro F
  refine go_exec (rs := [.tmp 2]) (by kernel_rfl) 4000 [] (o := .ret (vI 0) []) (by kernel_rfl) ?_
  exact ret_ok (post := []) [] (by kernel_rfl) ⟨rfl, (by kernel_rfl)⟩

noncomputable def B19 : Code := (Tryz.f19.body).getD .skip

theorem pubCommit_nil   :
    Ctr Tryz.prog 19 #[.pointer none] [] (Ret (vI 0) []) := by
  refine ctr_of (args := [.pointer none]) (fn := Tryz.f19) (body := B19) (nt := 9) Tryz.func19 (by kernel_rfl) (by kernel_rfl) ?_
  intro F
  refine go_exec (rs := [.tmp 2]) (by kernel_rfl) 4000 [] (o := .ret (vI 0) []) (by kernel_rfl) ?_
  exact ret_ok (post := []) [] (by kernel_rfl) ⟨rfl, (by kernel_rfl)⟩

noncomputable def B11 : Code := (Tryz.f11.body).getD .skip

theorem rdTold_nil   :
    Ctr Tryz.prog 11 #[.pointer none] [] (Ret (.tuple #[.slice none 0 0, .iface 42 (vI 1)]) []) := by
  refine ctr_of (args := [.pointer none]) (fn := Tryz.f11) (body := B11) (nt := 34) Tryz.func11 (by kernel_rfl) (by kernel_rfl) ?_
  intro F
  refine go_exec (rs := [.tmp 2, .tmp 3]) (by kernel_rfl) 4000 [.z [0, 0, 1, 0, 0, 1] 0 []] (o := .stop [.o [0, 0, 1, 0, 0, 1] 0, .c [1, 0, 1, 0, 0, 1], .b 0, .c [1, 1]] [] []) (by kernel_rfl) ?_
  refine ok_stop ?_
  refine go_call (some 7) [] Tryz.call46 (cause_NewE 1 (by decide)) (by kernel_rfl) ?_
  rintro v post ⟨rfl, rfl⟩
  refine go_exec (rs := [.tmp 2, .tmp 3]) (by kernel_rfl) 4000 [] (o := .ret (.tuple #[.slice none 0 0, .iface 42 (vI 1)]) []) (by kernel_rfl) ?_
  exact ret_ok (post := []) [] (by kernel_rfl) ⟨rfl, (by kernel_rfl)⟩

noncomputable def B20 : Code := (Tryz.f20.body).getD .skip

theorem rdStep_nil   :
    Ctr Tryz.prog 20 #[.pointer none, .pointer none] [] (Ret (.bool true) []) := by
  refine ctr_of (args := [.pointer none, .pointer none]) (fn := Tryz.f20) (body := B20) (nt := 14) Tryz.func20 (by kernel_rfl) (by kernel_rfl) ?_
  intro F
  refine go_exec (rs := [.tmp 4]) (by kernel_rfl) 4000 [] (o := .ret (.bool true) []) (by kernel_rfl) ?_
  exact ret_ok (post := []) [] (by kernel_rfl) ⟨rfl, (by kernel_rfl)⟩

noncomputable def B21 : Code := (Tryz.f21.body).getD .skip

theorem rdDone_nil   :
    Ctr Tryz.prog 21 #[.pointer none] [] (Ret (.bool true) []) := by
  refine ctr_of (args := [.pointer none]) (fn := Tryz.f21) (body := B21) (nt := 12) Tryz.func21 (by kernel_rfl) (by kernel_rfl) ?_
  intro F
  refine go_exec (rs := [.tmp 2]) (by kernel_rfl) 4000 [] (o := .ret (.bool true) []) (by kernel_rfl) ?_
  exact ret_ok (post := []) [] (by kernel_rfl) ⟨rfl, (by kernel_rfl)⟩

noncomputable def B22 : Code := (Tryz.f22.body).getD .skip

theorem rdCommit_nil   :
    Ctr Tryz.prog 22 #[.pointer none] [] (Ret (vI 0) []) := by
  refine ctr_of (args := [.pointer none]) (fn := Tryz.f22) (body := B22) (nt := 18) Tryz.func22 (by kernel_rfl) (by kernel_rfl) ?_
  intro F
  refine go_exec (rs := [.tmp 2]) (by kernel_rfl) 4000 [] (o := .ret (vI 0) []) (by kernel_rfl) ?_
  exact ret_ok (post := []) [] (by kernel_rfl) ⟨rfl, (by kernel_rfl)⟩

noncomputable def B23 : Code := (Tryz.f23.body).getD .skip

theorem rdSlot_nil   :
    Ctr Tryz.prog 23 #[.pointer none] [] (Ret (vI (-1)) []) := by
  refine ctr_of (args := [.pointer none]) (fn := Tryz.f23) (body := B23) (nt := 9) Tryz.func23 (by kernel_rfl) (by kernel_rfl) ?_
  intro F
  refine go_exec (rs := [.tmp 2]) (by kernel_rfl) 4000 [] (o := .ret (vI (-1)) []) (by kernel_rfl) ?_
  exact ret_ok (post := []) [] (by kernel_rfl) ⟨rfl, (by kernel_rfl)⟩


theorem pubTold_E (c : Cfg) (p : Nat) (wd ep bk od sn fl tm cd : Int) (wa : Option Addr) (wn wc : Nat) (r_ th_ : Value) (hcd : cd ≠ 0) :
    Ctr Tryz.prog 10 #[vP p] [Ef60d6 p r_ th_ cd true c wd ep wa wn wc bk od sn fl tm] (Ret (.tuple #[vI od, .iface 42 (vI cd)]) [Ef60d6 p r_ th_ cd true c wd ep wa wn wc bk od sn fl tm]) := by
  refine ctr_of (args := [vP p]) (fn := Tryz.f10) (body := B10) (nt := 26) Tryz.func10 (by kernel_rfl) (by kernel_rfl) ?_
  intro F
  refine go_exec (rs := [.tmp 2, .tmp 3]) (by kernel_rfl) 4000 [.e 0, .z [0, 1, 1] 0 [0]] (o := .obl (p = p) (.stop [.c [0, 1, 1], .c [1, 1, 1]] [(0, vP p)] [Ef60d6 p r_ th_ cd true c wd ep wa wn wc bk od sn fl tm])) (by kernel_rfl) ?_
  refine ok_obl rfl ?_
  refine ok_stop ?_
  refine go_quiet (tm' := [(2, vI od), (3, .iface 42 (vI cd))]) (ps := [p = p, p = p]) (cs := [(46, #[vI cd], .iface 42 (vI cd))]) [(0, .h .w), (1, .h .w), (2, .h .w), (3, .h (.e 0)), (4, .h .w), (5, .h .w), (6, .h .w), (7, .h .w), (8, .h (.e 0)), (9, .q (.iface 42 (vI cd))), (10, .h .w), (11, .h .w)] [2, 3] (by kernel_rfl) (by kernel_rfl) ⟨rfl, rfl, trivial⟩ ⟨⟨Tryz.call46, quiet_of [] (cause_NewE cd hcd) (by kernel_rfl) (by rintro v post ⟨rfl, rfl⟩; exact ⟨rfl, rfl⟩)⟩, trivial⟩ ?_
  refine go_exec (rs := [.tmp 2, .tmp 3]) (by kernel_rfl) 4000 [] (o := .ret (.tuple #[vI od, .iface 42 (vI cd)]) [Ef60d6 p r_ th_ cd true c wd ep wa wn wc bk od sn fl tm]) (by kernel_rfl) ?_
  exact ret_ok (post := [Ef60d6 p r_ th_ cd true c wd ep wa wn wc bk od sn fl tm]) [0] (by kernel_rfl) ⟨rfl, (by kernel_rfl)⟩


noncomputable def B25 : Code := (Tryz.f25.body).getD .skip

theorem rfitsL (c : Cfg) (n_ : Int) (hc : c.Ok) (hn : n_ < 1) :
    Ctr Tryz.prog 25 #[cfgV c, vI n_] [] (Ret (vI (-1)) []) := by
  refine ctr_of (args := [cfgV c, vI n_]) (fn := Tryz.f25) (body := B25) (nt := 27) Tryz.func25 (by kernel_rfl) (by kernel_rfl) ?_
  intro F
  refine go_exec (rs := [.tmp 4]) (by kernel_rfl) 4000 [.e 0, .z [0, 1] 1 [1, 2, 7]] (o := .new fun b_1 => .obl (b_1 = b_1) (.stop [.o [0, 1] 1, .c [1, 1]] [(1, vI n_), (2, vP b_1), (7, cfgV c)] [Efdc04 b_1 c])) (by kernel_rfl) ?_
  refine ok_new fun b_1 => ?_
  refine ok_obl rfl ?_
  refine ok_stop ?_
  refine go_call (some 8) [] Tryz.call67 (ref_right c (by first | assumption | omega | (simp only [InK] at *; omega))) (by kernel_rfl) ?_
  rintro v post ⟨rfl, rfl⟩
  refine go_exec (rs := [.tmp 4]) (by kernel_rfl) 4000 [.sp [14, 13] [] [.dead]] (o := .obl ((decide (n_ < 1)) = (decide (n_ < 1))) (.br (decide (n_ < 1)) (.ret (vI (-1)) [Efdc04 b_1 c]) (.bad))) (by kernel_rfl) ?_
  refine ok_obl rfl ?_
  refine ok_br (fun _ => ?_) (fun h => absurd (show (decide (n_ < 1)) = true from (decide_eq_true hn)) (by rw [h]; simp))
  exact ret_ok (post := []) [] (by kernel_rfl) ⟨rfl, (by kernel_rfl)⟩


theorem rfits0 (c : Cfg) (n_ : Int) (hc : c.Ok) (hn : ¬ n_ < 1) (h0 : n_ ≤ c.s0) :
    Ctr Tryz.prog 25 #[cfgV c, vI n_] [] (Ret (vI 0) []) := by
  refine ctr_of (args := [cfgV c, vI n_]) (fn := Tryz.f25) (body := B25) (nt := 27) Tryz.func25 (by kernel_rfl) (by kernel_rfl) ?_
  intro F
  refine go_exec (rs := [.tmp 4]) (by kernel_rfl) 4000 [.e 0, .z [0, 1] 1 [1, 2, 7]] (o := .new fun b_1 => .obl (b_1 = b_1) (.stop [.o [0, 1] 1, .c [1, 1]] [(1, vI n_), (2, vP b_1), (7, cfgV c)] [Efdc04 b_1 c])) (by kernel_rfl) ?_
  refine ok_new fun b_1 => ?_
  refine ok_obl rfl ?_
  refine ok_stop ?_
  refine go_call (some 8) [] Tryz.call67 (ref_right c (by first | assumption | omega | (simp only [InK] at *; omega))) (by kernel_rfl) ?_
  rintro v post ⟨rfl, rfl⟩
  refine go_exec (rs := [.tmp 4]) (by kernel_rfl) 4000 [.sp [14, 13] [.dead] [.u, .w, .e 0, .sp [25] [] [.dead]]] (o := .obl ((decide (n_ < 1)) = (decide (n_ < 1))) (.br (decide (n_ < 1)) (.bad) (.obl (b_1 = b_1) (.br (decide (n_ ≤ c.s0)) (.ret (vI 0) [Efdc04 b_1 c]) (.bad))))) (by kernel_rfl) ?_
  refine ok_obl rfl ?_
  refine ok_br (fun h => absurd (show (decide (n_ < 1)) = false from (decide_eq_false hn)) (by rw [h]; simp)) (fun _ => ?_)
  refine ok_obl rfl ?_
  refine ok_br (fun _ => ?_) (fun h => absurd (show (decide (n_ ≤ c.s0)) = true from (decide_eq_true h0)) (by rw [h]; simp))
  exact ret_ok (post := []) [] (by kernel_rfl) ⟨rfl, (by kernel_rfl)⟩


theorem rfits1 (c : Cfg) (n_ : Int) (hc : c.Ok) (hn : ¬ n_ < 1) (h0 : ¬ n_ ≤ c.s0) (h1 : n_ ≤ c.s1) :
    Ctr Tryz.prog 25 #[cfgV c, vI n_] [] (Ret (vI 1) []) := by
  refine ctr_of (args := [cfgV c, vI n_]) (fn := Tryz.f25) (body := B25) (nt := 27) Tryz.func25 (by kernel_rfl) (by kernel_rfl) ?_
  intro F
  refine go_exec (rs := [.tmp 4]) (by kernel_rfl) 4000 [.e 0, .z [0, 1] 1 [1, 2, 7]] (o := .new fun b_1 => .obl (b_1 = b_1) (.stop [.o [0, 1] 1, .c [1, 1]] [(1, vI n_), (2, vP b_1), (7, cfgV c)] [Efdc04 b_1 c])) (by kernel_rfl) ?_
  refine ok_new fun b_1 => ?_
  refine ok_obl rfl ?_
  refine ok_stop ?_
  refine go_call (some 8) [] Tryz.call67 (ref_right c (by first | assumption | omega | (simp only [InK] at *; omega))) (by kernel_rfl) ?_
  rintro v post ⟨rfl, rfl⟩
  refine go_exec (rs := [.tmp 4]) (by kernel_rfl) 4000 [.sp [14, 13] [.dead] [.u, .w, .e 0, .sp [25] [.dead] [.w, .u, .w, .e 0, .sp [25] [] [.dead]]]] (o := .obl ((decide (n_ < 1)) = (decide (n_ < 1))) (.br (decide (n_ < 1)) (.bad) (.obl (b_1 = b_1) (.br (decide (n_ ≤ c.s0)) (.bad) (.obl (b_1 = b_1) (.br (decide (n_ ≤ c.s1)) (.ret (vI 1) [Efdc04 b_1 c]) (.bad))))))) (by kernel_rfl) ?_
  refine ok_obl rfl ?_
  refine ok_br (fun h => absurd (show (decide (n_ < 1)) = false from (decide_eq_false hn)) (by rw [h]; simp)) (fun _ => ?_)
  refine ok_obl rfl ?_
  refine ok_br (fun h => absurd (show (decide (n_ ≤ c.s0)) = false from (decide_eq_false h0)) (by rw [h]; simp)) (fun _ => ?_)
  refine ok_obl rfl ?_
  refine ok_br (fun _ => ?_) (fun h => absurd (show (decide (n_ ≤ c.s1)) = true from (decide_eq_true h1)) (by rw [h]; simp))
  exact ret_ok (post := []) [] (by kernel_rfl) ⟨rfl, (by kernel_rfl)⟩


theorem rfits2 (c : Cfg) (n_ : Int) (hc : c.Ok) (hn : ¬ n_ < 1) (h0 : ¬ n_ ≤ c.s0) (h1 : ¬ n_ ≤ c.s1) :
    Ctr Tryz.prog 25 #[cfgV c, vI n_] [] (Ret (vI (-1)) []) := by
  refine ctr_of (args := [cfgV c, vI n_]) (fn := Tryz.f25) (body := B25) (nt := 27) Tryz.func25 (by kernel_rfl) (by kernel_rfl) ?_
  intro F
  refine go_exec (rs := [.tmp 4]) (by kernel_rfl) 4000 [.e 0, .z [0, 1] 1 [1, 2, 7]] (o := .new fun b_1 => .obl (b_1 = b_1) (.stop [.o [0, 1] 1, .c [1, 1]] [(1, vI n_), (2, vP b_1), (7, cfgV c)] [Efdc04 b_1 c])) (by kernel_rfl) ?_
  refine ok_new fun b_1 => ?_
  refine ok_obl rfl ?_
  refine ok_stop ?_
  refine go_call (some 8) [] Tryz.call67 (ref_right c (by first | assumption | omega | (simp only [InK] at *; omega))) (by kernel_rfl) ?_
  rintro v post ⟨rfl, rfl⟩
  refine go_exec (rs := [.tmp 4]) (by kernel_rfl) 4000 [.sp [14, 13] [.dead] [.u, .w, .e 0, .sp [25] [.dead] [.w, .u, .w, .e 0, .sp [25] [.dead] [.w, .u]]]] (o := .obl ((decide (n_ < 1)) = (decide (n_ < 1))) (.br (decide (n_ < 1)) (.bad) (.obl (b_1 = b_1) (.br (decide (n_ ≤ c.s0)) (.bad) (.obl (b_1 = b_1) (.br (decide (n_ ≤ c.s1)) (.bad) (.ret (vI (-1)) [Efdc04 b_1 c]))))))) (by kernel_rfl) ?_
  refine ok_obl rfl ?_
  refine ok_br (fun h => absurd (show (decide (n_ < 1)) = false from (decide_eq_false hn)) (by rw [h]; simp)) (fun _ => ?_)
  refine ok_obl rfl ?_
  refine ok_br (fun h => absurd (show (decide (n_ ≤ c.s0)) = false from (decide_eq_false h0)) (by rw [h]; simp)) (fun _ => ?_)
  refine ok_obl rfl ?_
  refine ok_br (fun h => absurd (show (decide (n_ ≤ c.s1)) = false from (decide_eq_false h1)) (by rw [h]; simp)) (fun _ => ?_)
  exact ret_ok (post := []) [] (by kernel_rfl) ⟨rfl, (by kernel_rfl)⟩


theorem ref_Fits (c : Cfg) (n_ : Int) (hc : c.Ok) :
    Ctr Tryz.prog 25 #[cfgV c, vI n_] [] (Ret (vI (fitK c n_)) []) := by
  unfold fitK
  by_cases hn : n_ < 1
  · rw [if_pos hn]; exact rfitsL c n_ hc hn
  · rw [if_neg hn]
    by_cases h0 : n_ ≤ c.s0
    · rw [if_pos h0]; exact rfits0 c n_ hc hn h0
    · rw [if_neg h0]
      by_cases h1 : n_ ≤ c.s1
      · rw [if_pos h1]; exact rfits1 c n_ hc hn h0 h1
      · rw [if_neg h1]; exact rfits2 c n_ hc hn h0 h1

noncomputable def B9 : Code := (Tryz.f9.body).getD .skip

theorem law17_config (q0 q1 q2 : Int)  :
    Ctr Tryz.prog 9 #[.agg #[vI q0, vI q1, vI q2]] [] (Ret (cfgV (cfgL q0 q1 q2)) []) := by
  refine ctr_of (args := [.agg #[vI q0, vI q1, vI q2]]) (fn := Tryz.f9) (body := B9) (nt := 22) Tryz.func9 (by kernel_rfl) (by kernel_rfl) ?_
  intro F
  refine go_exec (rs := [.cell 2 29]) (by kernel_rfl) 4000 [.w, .e 0, .n, .w, .e 0, .n, .w, .e 0, .n, .w, .e 0, .n, .n, .z [0, 1] 18 [2, 20]] (o := .new fun b_1 => .new fun b_2 => .obl (b_1 = b_1) (.obl (InK .i64 (1 + (bAnd .i64 q0 3))) (.obl (b_1 = b_1) (.obl (InK .i64 (1 + (bAnd .i64 q1 3))) (.obl (b_1 = b_1) (.obl (InK .i64 (1 + (bAnd .i64 q2 3))) (.obl (b_1 = b_1) (.obl ((0 : Int) ≤ 2) (.obl (InK .i64 (1 + (bAnd .i64 (bShr .i64 q2 2) 3))) (.new fun b_3 => .stop [.o [0, 1] 18, .c [1, 1]] [(2, vP b_2), (20, .slice (some ⟨b_3, 0, none⟩) 9 9)] [.pts b_1 [vI q0, vI q1, vI q2] 22, Ed975e b_2 0 0 0 0 0 0 0 0 0, Ed155d b_3 1 4 (1 + (bAnd .i64 q0 3)) 4 (1 + (bAnd .i64 q1 3)) 4 (1 + (bAnd .i64 q2 3)) 6 (1 + (bAnd .i64 (bShr .i64 q2 2) 3))])))))))))) (by kernel_rfl) ?_
  refine ok_new fun b_1 => ?_
  refine ok_new fun b_2 => ?_
  refine ok_obl rfl ?_
  refine ok_obl (by have := and3 q0; have := and3 q1; have := and3 q2; have := and3 (bShr .i64 q2 2); simp only [InK]; omega) ?_
  refine ok_obl rfl ?_
  refine ok_obl (by have := and3 q0; have := and3 q1; have := and3 q2; have := and3 (bShr .i64 q2 2); simp only [InK]; omega) ?_
  refine ok_obl rfl ?_
  refine ok_obl (by have := and3 q0; have := and3 q1; have := and3 q2; have := and3 (bShr .i64 q2 2); simp only [InK]; omega) ?_
  refine ok_obl rfl ?_
  refine ok_obl (by decide) ?_
  refine ok_obl (by have := and3 q0; have := and3 q1; have := and3 q2; have := and3 (bShr .i64 q2 2); simp only [InK]; omega) ?_
  refine ok_new fun b_3 => ?_
  refine ok_stop ?_
  refine go_call (some 21) [2] Tryz.call45 (ref_Of b_3 1 4 (1 + (bAnd .i64 q0 3)) 4 (1 + (bAnd .i64 q1 3)) 4 (1 + (bAnd .i64 q2 3)) 6 (1 + (bAnd .i64 (bShr .i64 q2 2) 3))) (by kernel_rfl) ?_
  rintro v post ⟨rfl, rfl⟩
  refine go_exec (rs := [.cell 2 29]) (by kernel_rfl) 4000 [.e 1, .e 1] (o := .obl (b_2 = b_2) (.obl (b_2 = b_2) (.ret (.agg #[vI 1, vI 4, vI (1 + (bAnd .i64 q0 3)), vI 4, vI 4, vI (1 + (bAnd .i64 q2 3)), vI 6, vI (1 + (bAnd .i64 (bShr .i64 q2 2) 3)), vI (1 + (bAnd .i64 q1 3))]) [.pts b_1 [vI q0, vI q1, vI q2] 22, Ed975e b_2 1 4 (1 + (bAnd .i64 q0 3)) 4 4 (1 + (bAnd .i64 q2 3)) 6 (1 + (bAnd .i64 (bShr .i64 q2 2) 3)) (1 + (bAnd .i64 q1 3)), Ed155d b_3 1 4 (1 + (bAnd .i64 q0 3)) 4 (1 + (bAnd .i64 q1 3)) 4 (1 + (bAnd .i64 q2 3)) 6 (1 + (bAnd .i64 (bShr .i64 q2 2) 3))]))) (by kernel_rfl) ?_
  refine ok_obl rfl ?_
  refine ok_obl rfl ?_
  exact ret_ok (post := []) [] (by kernel_rfl) ⟨rfl, (by kernel_rfl)⟩

noncomputable def B14 : Code := (Tryz.f14.body).getD .skip

set_option maxHeartbeats 4000000 in
theorem law17_awake (o_ : Obj) (ho : IsH o_) :
    Ctr Tryz.prog 14 #[] [.raw 0 o_] (Ret (.bool true) [.raw 0 o_]) := by
  refine ctr_of (args := []) (fn := Tryz.f14) (body := B14) (nt := 33) Tryz.func14 (by kernel_rfl) (by kernel_rfl) ?_
  intro F
  refine go_exec (rs := [.tmp 0]) (by kernel_rfl) 4000 [.z [0, 1] 1 [7]] (o := .new fun b_1 => .stop [.o [0, 1] 1, .c [1, 1]] [(7, .slice (some ⟨b_1, 0, none⟩) 9 9)] [.raw 0 o_, Ed155d b_1 1 4 1 1 1 4 0 6 0]) (by kernel_rfl) ?_
  refine ok_new fun b_1 => ?_
  refine ok_stop ?_
  refine go_call (some 8) [1] Tryz.call45 (ref_Of b_1 1 4 1 1 1 4 0 6 0) (by kernel_rfl) ?_
  rintro v post ⟨rfl, rfl⟩
  refine go_exec (rs := [.tmp 0]) (by kernel_rfl) 4000 [.e 2, .e 2, .z [0, 1, 1] 1 [1, 10]] (o := .new fun b_3 => .obl (b_3 = b_3) (.obl (b_3 = b_3) (.stop [.o [0, 1, 1] 1, .c [1, 1, 1]] [(1, vP b_3), (10, .agg #[vI 1, vI 4, vI 1, vI 1, vI 4, vI 0, vI 6, vI 0, vI 1])] [.raw 0 o_, Ed155d b_1 1 4 1 1 1 4 0 6 0, Ed975e b_3 1 4 1 1 4 0 6 0 1]))) (by kernel_rfl) ?_
  refine ok_new fun b_3 => ?_
  refine ok_obl rfl ?_
  refine ok_obl rfl ?_
  refine ok_stop ?_
  refine go_call (some 11) [] Tryz.call60 (plan_Make (⟨1, 4, 1, 1, 4, 0, 6, 0, 1⟩ : Cfg) cfgW_ok) (by kernel_rfl) ?_
  rintro v post ⟨ba_4, aw_5, cw_6, rfl, rfl⟩
  refine go_exec (rs := [.tmp 0]) (by kernel_rfl) 4000 [.z [0, 1, 1, 1] 0 [1, 2]] (o := .stop [.o [0, 1, 1, 1] 0, .c [1, 1, 1, 1]] [(1, vP b_3), (2, vP ba_4)] [.raw 0 o_, Ed155d b_1 1 4 1 1 1 4 0 6 0, Ed975e b_3 1 4 1 1 4 0 6 0 1, E3504b ba_4 (mkAr (⟨1, 4, 1, 1, 4, 0, 6, 0, 1⟩ : Cfg) aw_5 cw_6), E35fb1 (mkAr (⟨1, 4, 1, 1, 4, 0, 6, 0, 1⟩ : Cfg) aw_5 cw_6)]) (by kernel_rfl) ?_
  refine ok_stop ?_
  have hA0 : ArW cfgW (mkAr (⟨1, 4, 1, 1, 4, 0, 6, 0, 1⟩ : Cfg) aw_5 cw_6) _ := mkAr_ok cfgW_ok aw_5 cw_6
  have hz7 : ((mkAr (⟨1, 4, 1, 1, 4, 0, 6, 0, 1⟩ : Cfg) aw_5 cw_6).n : Int) = sizeOfC cfgW := hA0.2.1
  have hz8 := hA0.2.2.2
  have hf7 : fitK cfgW ((([5] : List Int).length : Nat) : Int) = 0 := by decide
  have hp7 : (Tk.step cfgW (newTk (fitK cfgW ((([5] : List Int).length : Nat) : Int))) (mkAr (⟨1, 4, 1, 1, 4, 0, 6, 0, 1⟩ : Cfg) aw_5 cw_6)).1.ph = 0 := by kernel_rfl
  have hb7 : (Tk.step cfgW (newTk (fitK cfgW ((([5] : List Int).length : Nat) : Int))) (mkAr (⟨1, 4, 1, 1, 4, 0, 6, 0, 1⟩ : Cfg) aw_5 cw_6)).1.block = 0 := by kernel_rfl
  refine go_exec (rs := [.tmp 0]) (by kernel_rfl) 4000 [.e 2, .z [0, 1, 1, 1] 2 [2, 14, 15]] (o := .obl (b_3 = b_3) (.new fun b_7 => .stop [.o [0, 1, 1, 1] 2, .c [1, 1, 1, 1]] [(2, vP ba_4), (14, .agg #[vI 1, vI 4, vI 1, vI 1, vI 4, vI 0, vI 6, vI 0, vI 1]), (15, .slice (some ⟨b_7, 0, none⟩) 1 1)] [.raw 0 o_, Ed155d b_1 1 4 1 1 1 4 0 6 0, Ed975e b_3 1 4 1 1 4 0 6 0 1, E3504b ba_4 (mkAr (⟨1, 4, 1, 1, 4, 0, 6, 0, 1⟩ : Cfg) aw_5 cw_6), E35fb1 (mkAr (⟨1, 4, 1, 1, 4, 0, 6, 0, 1⟩ : Cfg) aw_5 cw_6), .pts b_7 [vU 5] 60])) (by kernel_rfl) ?_
  refine ok_obl rfl ?_
  refine ok_new fun b_7 => ?_
  refine ok_stop ?_
  refine go_view (L' := [.raw 0 o_, Ed155d b_1 1 4 1 1 1 4 0 6 0, Ed975e b_3 1 4 1 1 4 0 6 0 1, E3504b ba_4 (mkAr (⟨1, 4, 1, 1, 4, 0, 6, 0, 1⟩ : Cfg) aw_5 cw_6), E35fb1 (mkAr (⟨1, 4, 1, 1, 4, 0, 6, 0, 1⟩ : Cfg) aw_5 cw_6), E54ea0 (some ⟨b_7, 0, none⟩) 1 ([5] : List Int)]) (view_row 5 (b := b_7) (encI .u64) 0 1 ([5] : List Int) 60 (sizedI _) (by simp [maxLen]) (by kernel_rfl)) ?_
  refine go_call (some 16) [5] Tryz.call12 (new_Pub (⟨1, 4, 1, 1, 4, 0, 6, 0, 1⟩ : Cfg) 0 0 (some ⟨b_7, 0, none⟩) 1 ([5] : List Int) cfgW_ok (by decide) (by decide) (by decide)) (by kernel_rfl) ?_
  rintro v post ⟨p_8, k_9, bp_10, bt_11, wa_12, wc_13, rfl, rfl⟩
  refine go_exec (rs := [.tmp 0]) (by kernel_rfl) 4000 [.z [0, 0, 1, 1, 1, 1] 5 [4, 19, 20, 21]] (o := .stop [.o [0, 0, 1, 1, 1, 1] 5, .c [1, 0, 1, 1, 1, 1], .c [1, 1, 1, 1, 1]] [(4, vP p_8), (19, .bool false), (20, vP p_8), (21, vP ba_4)] [.raw 0 o_, Ed155d b_1 1 4 1 1 1 4 0 6 0, Ed975e b_3 1 4 1 1 4 0 6 0 1, E3504b ba_4 (mkAr (⟨1, 4, 1, 1, 4, 0, 6, 0, 1⟩ : Cfg) aw_5 cw_6), E35fb1 (mkAr (⟨1, 4, 1, 1, 4, 0, 6, 0, 1⟩ : Cfg) aw_5 cw_6), E54ea0 (some ⟨b_7, 0, none⟩) 1 ([5] : List Int), E18337 p_8 (.iface 114 (vP k_9)) (.func (.func 51) #[] #[vP bp_10, vP bt_11]) 0 false 1 4 1 1 4 0 6 0 1 (ctlAt (⟨1, 4, 1, 1, 4, 0, 6, 0, 1⟩ : Cfg) 0) 0 wa_12 (([5] : List Int).length) wc_13 0 0 0 0 0, .pts bp_10 [vP p_8] 23, .pts bt_11 [vP k_9] 114, Ee501f k_9 1 4 1 1 4 0 6 0 1 (newTk (fitK (⟨1, 4, 1, 1, 4, 0, 6, 0, 1⟩ : Cfg) (((([5] : List Int).length) : Nat) : Int))) k_9, E54ea0 wa_12 wc_13 ([5] : List Int)]) (by kernel_rfl) ?_
  refine ok_stop ?_
  refine go_call (some 22) [6, 7, 8, 9, 3, 4] Tryz.call15 (pub_Step1N (⟨1, 4, 1, 1, 4, 0, 6, 0, 1⟩ : Cfg) p_8 ba_4 k_9 bp_10 bt_11 (ctlAt (⟨1, 4, 1, 1, 4, 0, 6, 0, 1⟩ : Cfg) 0) 0 0 0 0 0 0 0 wa_12 (([5] : List Int).length) wc_13 (newTk (fitK (⟨1, 4, 1, 1, 4, 0, 6, 0, 1⟩ : Cfg) (((([5] : List Int).length) : Nat) : Int))) (mkAr (⟨1, 4, 1, 1, 4, 0, 6, 0, 1⟩ : Cfg) aw_5 cw_6) hA0.1 (by omega) cfgW_ok hA0.2.1 hA0.2.2.1 (newTk_ok cfgW (.inl hf7)) hp7 hb7) (by kernel_rfl) ?_
  rintro v post ⟨rfl, rfl⟩
  refine go_exec (rs := [.tmp 0]) (by kernel_rfl) 4000 [.z [0, 1, 1, 1, 1, 1] 1 [26]] (o := .stop [.o [0, 1, 1, 1, 1, 1] 1, .c [1, 1, 1, 1, 1, 1]] [(26, vP p_8)] [.raw 0 o_, Ed155d b_1 1 4 1 1 1 4 0 6 0, Ed975e b_3 1 4 1 1 4 0 6 0 1, E54ea0 (some ⟨b_7, 0, none⟩) 1 ([5] : List Int), E54ea0 wa_12 wc_13 ([5] : List Int), E18337 p_8 (.iface 114 (vP k_9)) (.func (.func 51) #[] #[vP bp_10, vP bt_11]) 18 true 1 4 1 1 4 0 6 0 1 (ctlAt (⟨1, 4, 1, 1, 4, 0, 6, 0, 1⟩ : Cfg) 0) 0 wa_12 (([5] : List Int).length) wc_13 0 0 0 0 0, .pts bp_10 [vP p_8] 23, .pts bt_11 [vP k_9] 114, E4ef78 k_9 1 4 1 1 4 0 6 0 1 (((newTk (fitK (⟨1, 4, 1, 1, 4, 0, 6, 0, 1⟩ : Cfg) (((([5] : List Int).length) : Nat) : Int))).step (⟨1, 4, 1, 1, 4, 0, 6, 0, 1⟩ : Cfg) (mkAr (⟨1, 4, 1, 1, 4, 0, 6, 0, 1⟩ : Cfg) aw_5 cw_6)).1) k_9 ((((newTk (fitK (⟨1, 4, 1, 1, 4, 0, 6, 0, 1⟩ : Cfg) (((([5] : List Int).length) : Nat) : Int))).step (⟨1, 4, 1, 1, 4, 0, 6, 0, 1⟩ : Cfg) (mkAr (⟨1, 4, 1, 1, 4, 0, 6, 0, 1⟩ : Cfg) aw_5 cw_6)).1).ph), E3504b ba_4 (((newTk (fitK (⟨1, 4, 1, 1, 4, 0, 6, 0, 1⟩ : Cfg) (((([5] : List Int).length) : Nat) : Int))).step (⟨1, 4, 1, 1, 4, 0, 6, 0, 1⟩ : Cfg) (mkAr (⟨1, 4, 1, 1, 4, 0, 6, 0, 1⟩ : Cfg) aw_5 cw_6)).2), E35fb1 (((newTk (fitK (⟨1, 4, 1, 1, 4, 0, 6, 0, 1⟩ : Cfg) (((([5] : List Int).length) : Nat) : Int))).step (⟨1, 4, 1, 1, 4, 0, 6, 0, 1⟩ : Cfg) (mkAr (⟨1, 4, 1, 1, 4, 0, 6, 0, 1⟩ : Cfg) aw_5 cw_6)).2)]) (by kernel_rfl) ?_
  refine ok_stop ?_
  refine go_call (some 27) [5] Tryz.call10 (pubTold_E (⟨1, 4, 1, 1, 4, 0, 6, 0, 1⟩ : Cfg) p_8 (ctlAt (⟨1, 4, 1, 1, 4, 0, 6, 0, 1⟩ : Cfg) 0) 0 0 0 0 0 0 18 wa_12 (([5] : List Int).length) wc_13 (.iface 114 (vP k_9)) (.func (.func 51) #[] #[vP bp_10, vP bt_11]) (by decide)) (by kernel_rfl) ?_
  rintro v post ⟨rfl, rfl⟩
  refine go_exec (rs := [.tmp 0]) (by kernel_rfl) 4000 [.z q73_1 1 [30]] (o := .stop [.o q73_1 1, .c [1, 1, 1, 1, 1, 1, 1]] [(30, .iface 42 (vI 18))] [.raw 0 o_, Ed155d b_1 1 4 1 1 1 4 0 6 0, Ed975e b_3 1 4 1 1 4 0 6 0 1, E54ea0 (some ⟨b_7, 0, none⟩) 1 ([5] : List Int), E54ea0 wa_12 wc_13 ([5] : List Int), .pts bp_10 [vP p_8] 23, .pts bt_11 [vP k_9] 114, E4ef78 k_9 1 4 1 1 4 0 6 0 1 (((newTk (fitK (⟨1, 4, 1, 1, 4, 0, 6, 0, 1⟩ : Cfg) (((([5] : List Int).length) : Nat) : Int))).step (⟨1, 4, 1, 1, 4, 0, 6, 0, 1⟩ : Cfg) (mkAr (⟨1, 4, 1, 1, 4, 0, 6, 0, 1⟩ : Cfg) aw_5 cw_6)).1) k_9 ((((newTk (fitK (⟨1, 4, 1, 1, 4, 0, 6, 0, 1⟩ : Cfg) (((([5] : List Int).length) : Nat) : Int))).step (⟨1, 4, 1, 1, 4, 0, 6, 0, 1⟩ : Cfg) (mkAr (⟨1, 4, 1, 1, 4, 0, 6, 0, 1⟩ : Cfg) aw_5 cw_6)).1).ph), E3504b ba_4 (((newTk (fitK (⟨1, 4, 1, 1, 4, 0, 6, 0, 1⟩ : Cfg) (((([5] : List Int).length) : Nat) : Int))).step (⟨1, 4, 1, 1, 4, 0, 6, 0, 1⟩ : Cfg) (mkAr (⟨1, 4, 1, 1, 4, 0, 6, 0, 1⟩ : Cfg) aw_5 cw_6)).2), E35fb1 (((newTk (fitK (⟨1, 4, 1, 1, 4, 0, 6, 0, 1⟩ : Cfg) (((([5] : List Int).length) : Nat) : Int))).step (⟨1, 4, 1, 1, 4, 0, 6, 0, 1⟩ : Cfg) (mkAr (⟨1, 4, 1, 1, 4, 0, 6, 0, 1⟩ : Cfg) aw_5 cw_6)).2), E18337 p_8 (.iface 114 (vP k_9)) (.func (.func 51) #[] #[vP bp_10, vP bt_11]) 18 true 1 4 1 1 4 0 6 0 1 (ctlAt (⟨1, 4, 1, 1, 4, 0, 6, 0, 1⟩ : Cfg) 0) 0 wa_12 (([5] : List Int).length) wc_13 0 0 0 0 0]) (by kernel_rfl) ?_
  refine ok_stop ?_
  refine go_call (some 31) [0] Tryz.call17 (cause_TopE o_ 18 ho) (by kernel_rfl) ?_
  rintro v post ⟨rfl, rfl⟩
  refine go_exec (rs := [.tmp 0]) (by kernel_rfl) 4000 [] (o := .ret (.bool true) [Ed155d b_1 1 4 1 1 1 4 0 6 0, Ed975e b_3 1 4 1 1 4 0 6 0 1, E54ea0 (some ⟨b_7, 0, none⟩) 1 ([5] : List Int), E54ea0 wa_12 wc_13 ([5] : List Int), .pts bp_10 [vP p_8] 23, .pts bt_11 [vP k_9] 114, E4ef78 k_9 1 4 1 1 4 0 6 0 1 (((newTk (fitK (⟨1, 4, 1, 1, 4, 0, 6, 0, 1⟩ : Cfg) (((([5] : List Int).length) : Nat) : Int))).step (⟨1, 4, 1, 1, 4, 0, 6, 0, 1⟩ : Cfg) (mkAr (⟨1, 4, 1, 1, 4, 0, 6, 0, 1⟩ : Cfg) aw_5 cw_6)).1) k_9 ((((newTk (fitK (⟨1, 4, 1, 1, 4, 0, 6, 0, 1⟩ : Cfg) (((([5] : List Int).length) : Nat) : Int))).step (⟨1, 4, 1, 1, 4, 0, 6, 0, 1⟩ : Cfg) (mkAr (⟨1, 4, 1, 1, 4, 0, 6, 0, 1⟩ : Cfg) aw_5 cw_6)).1).ph), E3504b ba_4 (((newTk (fitK (⟨1, 4, 1, 1, 4, 0, 6, 0, 1⟩ : Cfg) (((([5] : List Int).length) : Nat) : Int))).step (⟨1, 4, 1, 1, 4, 0, 6, 0, 1⟩ : Cfg) (mkAr (⟨1, 4, 1, 1, 4, 0, 6, 0, 1⟩ : Cfg) aw_5 cw_6)).2), E35fb1 (((newTk (fitK (⟨1, 4, 1, 1, 4, 0, 6, 0, 1⟩ : Cfg) (((([5] : List Int).length) : Nat) : Int))).step (⟨1, 4, 1, 1, 4, 0, 6, 0, 1⟩ : Cfg) (mkAr (⟨1, 4, 1, 1, 4, 0, 6, 0, 1⟩ : Cfg) aw_5 cw_6)).2), E18337 p_8 (.iface 114 (vP k_9)) (.func (.func 51) #[] #[vP bp_10, vP bt_11]) 18 true 1 4 1 1 4 0 6 0 1 (ctlAt (⟨1, 4, 1, 1, 4, 0, 6, 0, 1⟩ : Cfg) 0) 0 wa_12 (([5] : List Int).length) wc_13 0 0 0 0 0, .raw 0 o_]) (by kernel_rfl) ?_
  exact ret_ok (post := [.raw 0 o_]) [10] (by kernel_rfl) ⟨rfl, (by kernel_rfl)⟩

end Go.Proofs.YtgajfjeffamnkaaGreatDoor


namespace Go.Proofs.YtgajfjeffamnkaaGreatDoor
open Go.Sx
abbrev q74_0 : List Nat := [0, 1, 1, 1, 1, 1, 1]
abbrev q74_1 : List Nat := [0, 1, 1, 1, 1, 1, 1, 1]
abbrev q74_2 : List Nat := [0, 1, 1, 1, 1, 1, 1, 1, 1]
abbrev q74_3 : List Nat := [0, 1, 1, 1, 1, 1, 1, 1, 1, 1]
abbrev q74_4 : List Nat := [1, 1, 1, 1, 1, 1, 1, 1, 1, 1]
abbrev q74_5 : List Nat := [0, 1, 1, 1, 1, 1, 1, 1, 1, 1, 1]
abbrev q74_6 : List Nat := [1, 1, 1, 1, 1, 1, 1, 1, 1, 1, 1]
noncomputable def B3 : Code := (Tryz.f3.body).getD .skip

set_option maxHeartbeats 4000000 in
theorem law_lnil (o_ : Obj) (q0 q1 q2 l0 l1 l2 : Int) (ho : IsH o_) (hi : InK .i64 l2) :
    Ctr Tryz.prog 3 #[.agg #[vI q0, vI q1, vI q2], .agg #[vI l0, vI l1, vI l2]] [.raw 0 o_] (Ret (.bool true) [.raw 0 o_]) := by
  refine ctr_of (args := [.agg #[vI q0, vI q1, vI q2], .agg #[vI l0, vI l1, vI l2]]) (fn := Tryz.f3) (body := B3) (nt := 160) Tryz.func3 (by kernel_rfl) (by kernel_rfl) ?_
  intro F
  have hc : Cfg.Ok (cfgL q0 q1 q2) := cfgL_ok q0 q1 q2
  refine go_exec (rs := [.tmp 4]) (by kernel_rfl) 4000 [.e 1, .z [0, 1, 1, 1] 1 [3, 5, 6, 16]] (o := .new fun b_1 => .new fun b_2 => .obl (b_1 = b_1) (.stop [.o [0, 1, 1, 1] 1, .c [1, 1, 1, 1]] [(3, vP b_2), (5, .pointer none), (6, .pointer none), (16, .agg #[vI q0, vI q1, vI q2])] [.raw 0 o_, .pts b_1 [vI q0, vI q1, vI q2] 22, .pts b_2 [vI l0, vI l1, vI l2] 22])) (by kernel_rfl) ?_
  refine ok_new fun b_1 => ?_
  refine ok_new fun b_2 => ?_
  refine ok_obl rfl ?_
  refine ok_stop ?_
  refine go_call (some 17) [] Tryz.call9 (law17_config q0 q1 q2) (by kernel_rfl) ?_
  rintro v post ⟨rfl, rfl⟩
  refine go_exec (rs := [.tmp 4]) (by kernel_rfl) 4000 [.e 3, .w, .e 2, .z [0, 1, 1, 1, 1, 1] 1 [3, 5, 6, 7, 8, 21]] (o := .new fun b_4 => .obl (b_4 = b_4) (.obl (b_2 = b_2) (.stop [.o [0, 1, 1, 1, 1, 1] 1, .c [1, 1, 1, 1, 1, 1]] [(3, vP b_2), (5, .pointer none), (6, .pointer none), (7, vP b_4), (8, vI l2), (21, .pointer none)] [.raw 0 o_, .pts b_1 [vI q0, vI q1, vI q2] 22, .pts b_2 [vI l0, vI l1, vI l2] 22, Efdc04 b_4 (cfgL q0 q1 q2)]))) (by kernel_rfl) ?_
  refine ok_new fun b_4 => ?_
  refine ok_obl rfl ?_
  refine ok_obl rfl ?_
  refine ok_stop ?_
  refine go_call (some 22) [] Tryz.call10 (pubTold_nil) (by kernel_rfl) ?_
  rintro v post ⟨rfl, rfl⟩
  refine go_exec (rs := [.tmp 4]) (by kernel_rfl) 4000 [.z q74_0 1 [3, 5, 6, 7, 8, 9, 10, 26]] (o := .stop [.o q74_0 1, .c [1, 1, 1, 1, 1, 1, 1]] [(3, vP b_2), (5, .pointer none), (6, .pointer none), (7, vP b_4), (8, vI l2), (9, vI 0), (10, .iface 42 (vI 1)), (26, .pointer none)] [.raw 0 o_, .pts b_1 [vI q0, vI q1, vI q2] 22, .pts b_2 [vI l0, vI l1, vI l2] 22, Efdc04 b_4 (cfgL q0 q1 q2)]) (by kernel_rfl) ?_
  refine ok_stop ?_
  refine go_call (some 27) [] Tryz.call11 (rdTold_nil) (by kernel_rfl) ?_
  rintro v post ⟨rfl, rfl⟩
  refine go_exec (rs := [.tmp 4]) (by kernel_rfl) 4000 [.w, .e 2, .z q74_1 3 [3, 5, 6, 7, 8, 9, 10, 11, 12, 32]] (o := .obl (b_2 = b_2) (.stop [.o q74_1 3, .c [1, 1, 1, 1, 1, 1, 1, 1]] [(3, vP b_2), (5, .pointer none), (6, .pointer none), (7, vP b_4), (8, vI l2), (9, vI 0), (10, .iface 42 (vI 1)), (11, .slice none 0 0), (12, .iface 42 (vI 1)), (32, vI (bAnd .i64 l2 7))] [.raw 0 o_, .pts b_1 [vI q0, vI q1, vI q2] 22, .pts b_2 [vI l0, vI l1, vI l2] 22, Efdc04 b_4 (cfgL q0 q1 q2)])) (by kernel_rfl) ?_
  refine ok_obl rfl ?_
  refine ok_stop ?_
  refine go_make (kl := .i64) (kc := .i64) (encI .u64) 0 (0 : Int) 1 (sizedI _) 60 8 (some 33) (bAnd .i64 l2 7) (bAnd .i64 l2 7) (by kernel_rfl) (by have := and7 l2; omega) (by have := and7 l2; omega) (by have := and7 l2; omega) (by have := and7 l2; omega) ?_
  intro a_5 c_6
  refine go_exec (rs := [.tmp 4]) (by kernel_rfl) 4000 [.z q74_2 0 [3, 5, 6, 7, 8, 9, 10, 11, 12, 13]] (o := .stop [.c q74_2, .c [1, 1, 1, 1, 1, 1, 1, 1, 1]] [(3, vP b_2), (5, .pointer none), (6, .pointer none), (7, vP b_4), (8, vI l2), (9, vI 0), (10, .iface 42 (vI 1)), (11, .slice none 0 0), (12, .iface 42 (vI 1)), (13, .slice a_5 ((List.replicate (bAnd .i64 l2 7).toNat (0 : Int)).length) c_6)] [.raw 0 o_, .pts b_1 [vI q0, vI q1, vI q2] 22, .pts b_2 [vI l0, vI l1, vI l2] 22, Efdc04 b_4 (cfgL q0 q1 q2), E54ea0 a_5 c_6 (List.replicate (bAnd .i64 l2 7).toNat (0 : Int))]) (by kernel_rfl) ?_
  refine ok_stop ?_
  have hj_7 : ∀ z : Unit, True → Go Tryz.prog Tryz.f3 B3 160 F (RetR F (Ret (.bool true) [.raw 0 o_])) [.c q74_3, .c q74_4] [(3, vP b_2), (5, .pointer none), (6, .pointer none), (7, vP b_4), (8, vI l2), (9, vI 0), (10, .iface 42 (vI 1)), (11, .slice none 0 0), (12, .iface 42 (vI 1)), (14, .bool true)] [.raw 0 o_, .pts b_1 [vI q0, vI q1, vI q2] 22, .pts b_2 [vI l0, vI l1, vI l2] 22, Efdc04 b_4 (cfgL q0 q1 q2), E54ea0 a_5 c_6 (List.replicate (bAnd .i64 l2 7).toNat (0 : Int))] := by
    intro z hz
    have hj_8 : ∀ z : Unit, True → Go Tryz.prog Tryz.f3 B3 160 F (RetR F (Ret (.bool true) [.raw 0 o_])) [.c q74_5, .c q74_6] [(5, .pointer none), (6, .pointer none), (7, vP b_4), (8, vI l2), (9, vI 0), (10, .iface 42 (vI 1)), (11, .slice none 0 0), (12, .iface 42 (vI 1)), (14, .bool true), (15, .bool true)] [.raw 0 o_, .pts b_1 [vI q0, vI q1, vI q2] 22, .pts b_2 [vI l0, vI l1, vI l2] 22, Efdc04 b_4 (cfgL q0 q1 q2), E54ea0 a_5 c_6 (List.replicate (bAnd .i64 l2 7).toNat (0 : Int))] := by
      intro z hz
      refine go_quiet (tm' := [(4, .bool true)]) (ps := [b_4 = b_4, b_4 = b_4, ((fitK (cfgL q0 q1 q2) l2) == (fitK (cfgL q0 q1 q2) l2)) = true, b_4 = b_4, b_4 = b_4, ((fitK (cfgL q0 q1 q2) (bAnd .i64 l2 7)) == (fitK (cfgL q0 q1 q2) (bAnd .i64 l2 7))) = true]) (cs := [(14, #[], .bool true), (15, #[.pointer none, .pointer none], .bool true), (16, #[.pointer none], .bool true), (17, #[.iface 42 (vI 1)], vI 1), (18, #[.pointer none], vI 0), (19, #[.pointer none], vI 0), (20, #[.pointer none, .pointer none], .bool true), (21, #[.pointer none], .bool true), (17, #[.iface 42 (vI 1)], vI 1), (22, #[.pointer none], vI 0), (23, #[.pointer none], vI (-1)), (24, #[cfgV (cfgL q0 q1 q2), vI l2], vI (fitK (cfgL q0 q1 q2) l2)), (25, #[cfgV (cfgL q0 q1 q2), vI l2], vI (fitK (cfgL q0 q1 q2) l2)), (24, #[cfgV (cfgL q0 q1 q2), vI (bAnd .i64 l2 7)], vI (fitK (cfgL q0 q1 q2) (bAnd .i64 l2 7))), (25, #[cfgV (cfgL q0 q1 q2), vI (bAnd .i64 l2 7)], vI (fitK (cfgL q0 q1 q2) (bAnd .i64 l2 7))), (24, #[.agg #[vI 0, vI 0, vI 0, vI 0, vI 0, vI 0, vI 0, vI 0, vI 0], vI 1], vI (-1))]) [(0, .q (.bool true)), (1, .h .w), (2, .h .w), (3, .h .w), (4, .h .w), (5, .h .w), (6, .h .w), (7, .h .w), (8, .h .w), (9, .q (.bool true)), (10, .h .w), (11, .h .w), (12, .h .w), (13, .q (.bool true)), (14, .h .w), (15, .h .w), (16, .h .w), (17, .h .w), (18, .h .w), (19, .h .w), (20, .h .w), (21, .q (vI 1)), (22, .h .w), (23, .h .w), (24, .h .w), (25, .h .w), (26, .q (vI 0)), (27, .h .w), (28, .q (vI 0)), (29, .h (.w)), (30, .h .w), (31, .h .w), (32, .h .w), (33, .h .w), (34, .q (.bool true)), (35, .h .w), (36, .h .w), (37, .h .w), (38, .q (.bool true)), (39, .h .w), (40, .h .w), (41, .h .w), (42, .h .w), (43, .h .w), (44, .h .w), (45, .h .w), (46, .h .w), (47, .q (vI 1)), (48, .h .w), (49, .h .w), (50, .h .w), (51, .h .w), (52, .q (vI 0)), (53, .h .w), (54, .h .w), (55, .h .w), (56, .h .w), (57, .q (vI (-1))), (58, .h .w), (59, .h .w), (60, .h .w), (61, .h (.e 3)), (62, .h .w), (63, .q (vI (fitK (cfgL q0 q1 q2) l2))), (64, .h (.e 3)), (65, .h .w), (66, .q (vI (fitK (cfgL q0 q1 q2) l2))), (67, .h (.t true)), (68, .h .w), (69, .h .w), (70, .h (.e 3)), (71, .h .w), (72, .h .w), (73, .q (vI (fitK (cfgL q0 q1 q2) (bAnd .i64 l2 7)))), (74, .h (.e 3)), (75, .h .w), (76, .h .w), (77, .q (vI (fitK (cfgL q0 q1 q2) (bAnd .i64 l2 7)))), (78, .h (.t true)), (79, .h .w), (80, .h .w), (81, .h .w), (82, .q (vI (-1))), (83, .h .w), (84, .h .w), (85, .h .w)] [4] (by kernel_rfl) (by kernel_rfl) ⟨rfl, rfl, (beq_self_eq_true _), rfl, rfl, (beq_self_eq_true _), trivial⟩ ⟨⟨Tryz.call14, quiet_of [0] (law17_awake o_ ho) (by kernel_rfl) (by rintro v post ⟨rfl, rfl⟩; exact ⟨rfl, rfl⟩)⟩, ⟨Tryz.call15, quiet_of [] (pubStep_nil) (by kernel_rfl) (by rintro v post ⟨rfl, rfl⟩; exact ⟨rfl, rfl⟩)⟩, ⟨Tryz.call16, quiet_of [] (pubDone_nil) (by kernel_rfl) (by rintro v post ⟨rfl, rfl⟩; exact ⟨rfl, rfl⟩)⟩, ⟨Tryz.call17, quiet_of [0] (cause_TopE o_ 1 ho) (by kernel_rfl) (by rintro v post ⟨rfl, rfl⟩; exact ⟨rfl, rfl⟩)⟩, ⟨Tryz.call18, quiet_of [] (pubPrivate_nil) (by kernel_rfl) (by rintro v post ⟨rfl, rfl⟩; exact ⟨rfl, rfl⟩)⟩, ⟨Tryz.call19, quiet_of [] (pubCommit_nil) (by kernel_rfl) (by rintro v post ⟨rfl, rfl⟩; exact ⟨rfl, rfl⟩)⟩, ⟨Tryz.call20, quiet_of [] (rdStep_nil) (by kernel_rfl) (by rintro v post ⟨rfl, rfl⟩; exact ⟨rfl, rfl⟩)⟩, ⟨Tryz.call21, quiet_of [] (rdDone_nil) (by kernel_rfl) (by rintro v post ⟨rfl, rfl⟩; exact ⟨rfl, rfl⟩)⟩, ⟨Tryz.call17, quiet_of [0] (cause_TopE o_ 1 ho) (by kernel_rfl) (by rintro v post ⟨rfl, rfl⟩; exact ⟨rfl, rfl⟩)⟩, ⟨Tryz.call22, quiet_of [] (rdCommit_nil) (by kernel_rfl) (by rintro v post ⟨rfl, rfl⟩; exact ⟨rfl, rfl⟩)⟩, ⟨Tryz.call23, quiet_of [] (rdSlot_nil) (by kernel_rfl) (by rintro v post ⟨rfl, rfl⟩; exact ⟨rfl, rfl⟩)⟩, ⟨Tryz.call24, quiet_of [] (large_Fits (cfgL q0 q1 q2) l2 hc) (by kernel_rfl) (by rintro v post ⟨rfl, rfl⟩; exact ⟨rfl, rfl⟩)⟩, ⟨Tryz.call25, quiet_of [] (ref_Fits (cfgL q0 q1 q2) l2 hc) (by kernel_rfl) (by rintro v post ⟨rfl, rfl⟩; exact ⟨rfl, rfl⟩)⟩, ⟨Tryz.call24, quiet_of [] (large_Fits (cfgL q0 q1 q2) (bAnd .i64 l2 7) hc) (by kernel_rfl) (by rintro v post ⟨rfl, rfl⟩; exact ⟨rfl, rfl⟩)⟩, ⟨Tryz.call25, quiet_of [] (ref_Fits (cfgL q0 q1 q2) (bAnd .i64 l2 7) hc) (by kernel_rfl) (by rintro v post ⟨rfl, rfl⟩; exact ⟨rfl, rfl⟩)⟩, ⟨Tryz.call24, quiet_of [] (large_Fits0 1) (by kernel_rfl) (by rintro v post ⟨rfl, rfl⟩; exact ⟨rfl, rfl⟩)⟩, trivial⟩ ?_
      refine go_exec (rs := [.tmp 4]) (by kernel_rfl) 4000 [] (o := .ret (.bool true) [.raw 0 o_, .pts b_1 [vI q0, vI q1, vI q2] 22, .pts b_2 [vI l0, vI l1, vI l2] 22, Efdc04 b_4 (cfgL q0 q1 q2), E54ea0 a_5 c_6 (List.replicate (bAnd .i64 l2 7).toNat (0 : Int))]) (by kernel_rfl) ?_
      exact ret_ok (post := [.raw 0 o_]) [0] (by kernel_rfl) ⟨rfl, (by kernel_rfl)⟩
    by_cases h2 : l0 < 0
    · skip
      refine go_quiet (tm' := [(5, .pointer none), (6, .pointer none), (7, vP b_4), (8, vI l2), (9, vI 0), (10, .iface 42 (vI 1)), (11, .slice none 0 0), (12, .iface 42 (vI 1)), (14, .bool true), (15, .bool true)]) (ps := [b_4 = b_4, b_2 = b_2, b_2 = b_2, b_2 = b_2, (decide (l0 ≥ 0)) = false]) (cs := [(13, #[cfgV (cfgL q0 q1 q2), vI l0, vI l1, vI 0], .pointer none)]) [(0, .h (.e 3)), (1, .h (.w)), (2, .h (.e 2)), (3, .h (.w)), (4, .h (.e 2)), (5, .q (.pointer none)), (6, .h .w), (7, .h (.w)), (8, .h (.e 2)), (9, .h (.t false)), (10, .h .w), (11, .h .w), (12, .h .w), (13, .h .w), (14, .h .w), (15, .h .w), (16, .h .w), (17, .h .w), (18, .h .w), (19, .h .w), (20, .h .w), (21, .h .w)] [5, 6, 7, 8, 9, 10, 11, 12, 14, 15] (by kernel_rfl) (by kernel_rfl) ⟨rfl, rfl, rfl, rfl, (decide_eq_false (by omega)), trivial⟩ ⟨⟨Tryz.call13, quiet_of [] (new_RdA (cfgL q0 q1 q2) l0 l1 0 hc h2) (by kernel_rfl) (by rintro v post ⟨rfl, rfl⟩; exact ⟨rfl, rfl⟩)⟩, trivial⟩ ?_
      refine go_exec (rs := [.tmp 4]) (by kernel_rfl) 4000 [.z q74_5 0 [5, 6, 7, 8, 9, 10, 11, 12, 14, 15]] (o := .stop [.c q74_5, .c q74_6] [(5, .pointer none), (6, .pointer none), (7, vP b_4), (8, vI l2), (9, vI 0), (10, .iface 42 (vI 1)), (11, .slice none 0 0), (12, .iface 42 (vI 1)), (14, .bool true), (15, .bool true)] [.raw 0 o_, .pts b_1 [vI q0, vI q1, vI q2] 22, .pts b_2 [vI l0, vI l1, vI l2] 22, Efdc04 b_4 (cfgL q0 q1 q2), E54ea0 a_5 c_6 (List.replicate (bAnd .i64 l2 7).toNat (0 : Int))]) (by kernel_rfl) ?_
      refine ok_stop ?_
      exact go_weak [5, 6, 7, 8, 9, 10, 11, 12, 14, 15] [0, 1, 2, 3, 4] (by kernel_rfl) (hj_8 () trivial)
    · by_cases h3 : l0 ≥ 4
      · skip
        refine go_quiet (tm' := [(5, .pointer none), (6, .pointer none), (7, vP b_4), (8, vI l2), (9, vI 0), (10, .iface 42 (vI 1)), (11, .slice none 0 0), (12, .iface 42 (vI 1)), (14, .bool true), (15, .bool true)]) (ps := [b_4 = b_4, b_2 = b_2, b_2 = b_2, b_2 = b_2, (decide (l0 ≥ 0)) = true, b_2 = b_2, (decide (l0 < 4)) = false]) (cs := [(13, #[cfgV (cfgL q0 q1 q2), vI l0, vI l1, vI 0], .pointer none)]) [(0, .h (.e 3)), (1, .h (.w)), (2, .h (.e 2)), (3, .h (.w)), (4, .h (.e 2)), (5, .q (.pointer none)), (6, .h .w), (7, .h (.w)), (8, .h (.e 2)), (9, .h (.t true)), (10, .h .w), (11, .h (.w)), (12, .h (.e 2)), (13, .h (.t false)), (14, .h .w), (15, .h .w), (16, .h .w), (17, .h .w), (18, .h .w), (19, .h .w), (20, .h .w), (21, .h .w)] [5, 6, 7, 8, 9, 10, 11, 12, 14, 15] (by kernel_rfl) (by kernel_rfl) ⟨rfl, rfl, rfl, rfl, (decide_eq_true (by omega)), rfl, (decide_eq_false (by omega)), trivial⟩ ⟨⟨Tryz.call13, quiet_of [] (new_RdB (cfgL q0 q1 q2) l0 l1 0 hc h2 h3) (by kernel_rfl) (by rintro v post ⟨rfl, rfl⟩; exact ⟨rfl, rfl⟩)⟩, trivial⟩ ?_
        refine go_exec (rs := [.tmp 4]) (by kernel_rfl) 4000 [.z q74_5 0 [5, 6, 7, 8, 9, 10, 11, 12, 14, 15]] (o := .stop [.c q74_5, .c q74_6] [(5, .pointer none), (6, .pointer none), (7, vP b_4), (8, vI l2), (9, vI 0), (10, .iface 42 (vI 1)), (11, .slice none 0 0), (12, .iface 42 (vI 1)), (14, .bool true), (15, .bool true)] [.raw 0 o_, .pts b_1 [vI q0, vI q1, vI q2] 22, .pts b_2 [vI l0, vI l1, vI l2] 22, Efdc04 b_4 (cfgL q0 q1 q2), E54ea0 a_5 c_6 (List.replicate (bAnd .i64 l2 7).toNat (0 : Int))]) (by kernel_rfl) ?_
        refine ok_stop ?_
        exact go_weak [5, 6, 7, 8, 9, 10, 11, 12, 14, 15] [0, 1, 2, 3, 4] (by kernel_rfl) (hj_8 () trivial)
      · by_cases h1 : l1 = 0
        · skip
          have ht : ctlAt (cfgL q0 q1 q2) l1 ≠ -1 := by subst h1; unfold ctlAt; rw [if_pos (by show 0 ≤ (0 : Int) ∧ (0 : Int) < 1; omega)]; have := cfgL_ok q0 q1 q2; simp only [Cfg.Ok] at this; omega
          refine go_lz (by kernel_rfl) (by kernel_rfl) ?_
          refine lz_node (l' := (mk 22 [0, 1, 2, 3, 4, 7, 8, 9])) (V' := [0, 1, 2, 3, 4, 7, 8, 9]) (T1 := [(3, vP b_2), (5, .pointer none), (6, .pointer none), (7, vP b_4), (8, vI l2), (9, vI 0), (10, .iface 42 (vI 1)), (11, .slice none 0 0), (12, .iface 42 (vI 1)), (14, .bool true), (54, cfgV (cfgL q0 q1 q2)), (55, vP b_2), (56, vI l0), (57, .pointer (some ⟨b_2, 1, none⟩)), (58, vI l1), (61, vP b_2), (62, vI l0), (63, .bool true)]) (ps := [b_4 = b_4, b_2 = b_2, b_2 = b_2, b_2 = b_2, (decide (l0 ≥ 0)) = true]) [0, 1, 2, 3, 4, 7, 8, 9] [(0, .h (.e 3)), (1, .h (.w)), (2, .h (.e 2)), (3, .h (.w)), (4, .h (.e 2)), (7, .h (.w)), (8, .h (.e 2)), (9, .h (.t true))] [3, 5, 6, 7, 8, 9, 10, 11, 12, 14, 54, 55, 56, 57, 58, 61, 62, 63] [5] (by kernel_rfl) ⟨rfl, rfl, rfl, rfl, (decide_eq_true (by omega)), trivial⟩ ⟨?_, trivial⟩
          refine lz_call (l' := (mk 22 [0, 1, 2, 3, 4, 5, 7, 8, 9])) (V' := [7, 8, 9]) (some 59) [] Tryz.call13 (new_Rd (cfgL q0 q1 q2) l0 l1 0 hc ⟨by omega, by show l0 < 4; omega⟩ ht) (by kernel_rfl) ?_
          rintro v post ⟨p_5_1, k_5_1, b1_5_1, b2_5_1, b3_5_1, b4_5_1, b5_5_1, b6_5_1, rfl, rfl⟩
          refine lz_end (T1 := [(5, .pointer none), (6, .pointer none), (7, vP b_4), (8, vI l2), (9, vI 0), (10, .iface 42 (vI 1)), (11, .slice none 0 0), (12, .iface 42 (vI 1)), (14, .bool true), (15, .bool true)]) (ps := [b_2 = b_2, (decide (l0 ≥ 0)) = true, b_2 = b_2, (decide (l0 < 4)) = true, b_2 = b_2, (l1 == 0) = true]) [6, 10, 11, 12, 13, 14, 15, 16, 17, 18, 19, 20, 21] [(6, .h .w), (7, .h (.w)), (8, .h (.e 2)), (9, .h (.t true)), (10, .h .w), (11, .h (.w)), (12, .h (.e 2)), (13, .h (.t true)), (14, .h .w), (15, .h .w), (16, .h (.w)), (17, .h (.e 2)), (18, .h (.t true)), (19, .h .w), (20, .h .w), (21, .h .w)] [5, 6, 7, 8, 9, 10, 11, 12, 14, 15] (by kernel_rfl) ⟨rfl, (decide_eq_true (by omega)), rfl, (decide_eq_true (by omega)), rfl, (beq_iff_eq.2 h1), trivial⟩ ?_
          refine go_exec (rs := [.tmp 4]) (by kernel_rfl) 4000 [.z q74_5 0 [5, 6, 7, 8, 9, 10, 11, 12, 14, 15]] (o := .stop [.c q74_5, .c q74_6] [(5, .pointer none), (6, .pointer none), (7, vP b_4), (8, vI l2), (9, vI 0), (10, .iface 42 (vI 1)), (11, .slice none 0 0), (12, .iface 42 (vI 1)), (14, .bool true), (15, .bool true)] [.raw 0 o_, .pts b_1 [vI q0, vI q1, vI q2] 22, .pts b_2 [vI l0, vI l1, vI l2] 22, Efdc04 b_4 (cfgL q0 q1 q2), E54ea0 a_5 c_6 (List.replicate (bAnd .i64 l2 7).toNat (0 : Int)), Ecc945 p_5_1 (.iface 118 (vP k_5_1)) (.func (.func 55) #[] #[vP b1_5_1, vP b2_5_1, vP b3_5_1, vP b4_5_1, vP b5_5_1, vP b6_5_1]) 0 false (cfgL q0 q1 q2) (.pointer none) (-1) (.slice none 0 0), E03c2e k_5_1 (cfgL q0 q1 q2) l0 0 (-1), .pts b1_5_1 [vP k_5_1] 118, .pts b2_5_1 [vP p_5_1] 24, Efdc04 b3_5_1 (cfgL q0 q1 q2), .pts b4_5_1 [vI l0] 3, .pts b5_5_1 [vI l1] 3, .pts b6_5_1 [vI 0] 3]) (by kernel_rfl) ?_
          refine ok_stop ?_
          exact go_weak [5, 6, 7, 8, 9, 10, 11, 12, 14, 15] [0, 1, 2, 3, 4] (by kernel_rfl) (hj_8 () trivial)
        · skip
          have ht : ctlAt (cfgL q0 q1 q2) l1 = -1 := by unfold ctlAt; rw [if_neg (by show ¬ (0 ≤ l1 ∧ l1 < 1); omega)]
          refine go_quiet (tm' := [(5, .pointer none), (6, .pointer none), (7, vP b_4), (8, vI l2), (9, vI 0), (10, .iface 42 (vI 1)), (11, .slice none 0 0), (12, .iface 42 (vI 1)), (14, .bool true), (15, .bool true)]) (ps := [b_4 = b_4, b_2 = b_2, b_2 = b_2, b_2 = b_2, (decide (l0 ≥ 0)) = true, b_2 = b_2, (decide (l0 < 4)) = true, b_2 = b_2, (l1 == 0) = false]) (cs := [(13, #[cfgV (cfgL q0 q1 q2), vI l0, vI l1, vI 0], .pointer none)]) [(0, .h (.e 3)), (1, .h (.w)), (2, .h (.e 2)), (3, .h (.w)), (4, .h (.e 2)), (5, .q (.pointer none)), (6, .h .w), (7, .h (.w)), (8, .h (.e 2)), (9, .h (.t true)), (10, .h .w), (11, .h (.w)), (12, .h (.e 2)), (13, .h (.t true)), (14, .h .w), (15, .h .w), (16, .h (.w)), (17, .h (.e 2)), (18, .h (.t false)), (19, .h .w), (20, .h .w), (21, .h .w)] [5, 6, 7, 8, 9, 10, 11, 12, 14, 15] (by kernel_rfl) (by kernel_rfl) ⟨rfl, rfl, rfl, rfl, (decide_eq_true (by omega)), rfl, (decide_eq_true (by omega)), rfl, (beq_eq_false_iff_ne.2 h1), trivial⟩ ⟨⟨Tryz.call13, quiet_of [] (new_RdT (cfgL q0 q1 q2) l0 l1 0 hc ⟨by omega, by show l0 < 4; omega⟩ ht) (by kernel_rfl) (by rintro v post ⟨rfl, rfl⟩; exact ⟨rfl, rfl⟩)⟩, trivial⟩ ?_
          refine go_exec (rs := [.tmp 4]) (by kernel_rfl) 4000 [.z q74_5 0 [5, 6, 7, 8, 9, 10, 11, 12, 14, 15]] (o := .stop [.c q74_5, .c q74_6] [(5, .pointer none), (6, .pointer none), (7, vP b_4), (8, vI l2), (9, vI 0), (10, .iface 42 (vI 1)), (11, .slice none 0 0), (12, .iface 42 (vI 1)), (14, .bool true), (15, .bool true)] [.raw 0 o_, .pts b_1 [vI q0, vI q1, vI q2] 22, .pts b_2 [vI l0, vI l1, vI l2] 22, Efdc04 b_4 (cfgL q0 q1 q2), E54ea0 a_5 c_6 (List.replicate (bAnd .i64 l2 7).toNat (0 : Int))]) (by kernel_rfl) ?_
          refine ok_stop ?_
          exact go_weak [5, 6, 7, 8, 9, 10, 11, 12, 14, 15] [0, 1, 2, 3, 4] (by kernel_rfl) (hj_8 () trivial)
  have hln : (((List.replicate (bAnd .i64 l2 7).toNat (0 : Int)).length : Nat) : Int) = bAnd .i64 l2 7 := by rw [List.length_replicate]; have := and7 l2; omega
  have h77 := and7 l2
  by_cases h5 : 1 ≤ bAnd .i64 l2 7
  · by_cases h6 : bAnd .i64 l2 7 ≤ 6
    · have hf : fitK (cfgL q0 q1 q2) (((List.replicate (bAnd .i64 l2 7).toNat (0 : Int)).length : Nat) : Int) ≠ -1 := by
        rw [hln]; unfold fitK; rw [if_neg (by omega)]; split
        · omega
        · rw [if_pos (by show bAnd .i64 l2 7 ≤ 6; omega)]; omega
      by_cases h1 : l1 = 0
      · skip
        have ht : ctlAt (cfgL q0 q1 q2) l1 ≠ -1 := by subst h1; unfold ctlAt; rw [if_pos (by show 0 ≤ (0 : Int) ∧ (0 : Int) < 1; omega)]; have := cfgL_ok q0 q1 q2; simp only [Cfg.Ok] at this; omega
        refine go_lz (by kernel_rfl) (by kernel_rfl) ?_
        refine lz_node (l' := (mk 21 [0, 1, 2, 3, 6, 7, 8])) (V' := [0, 1, 2, 3, 6, 7, 8]) (T1 := [(3, vP b_2), (5, .pointer none), (6, .pointer none), (7, vP b_4), (8, vI l2), (9, vI 0), (10, .iface 42 (vI 1)), (11, .slice none 0 0), (12, .iface 42 (vI 1)), (13, .slice a_5 ((List.replicate (bAnd .i64 l2 7).toNat (0 : Int)).length) c_6), (34, cfgV (cfgL q0 q1 q2)), (35, .pointer (some ⟨b_2, 1, none⟩)), (36, vI l1), (37, .slice a_5 ((List.replicate (bAnd .i64 l2 7).toNat (0 : Int)).length) c_6), (40, .pointer (some ⟨b_2, 1, none⟩)), (41, vI l1), (42, .bool true)]) (ps := [b_4 = b_4, b_2 = b_2, b_2 = b_2, (l1 == 0) = true]) [0, 1, 2, 3, 6, 7, 8] [(0, .h (.e 3)), (1, .h (.w)), (2, .h (.e 2)), (3, .h .w), (6, .h (.w)), (7, .h (.e 2)), (8, .h (.t true))] [3, 5, 6, 7, 8, 9, 10, 11, 12, 13, 34, 35, 36, 37, 40, 41, 42] [4] (by kernel_rfl) ⟨rfl, rfl, rfl, (beq_iff_eq.2 h1), trivial⟩ ⟨?_, trivial⟩
        refine lz_call (l' := (mk 21 [0, 1, 2, 3, 4, 6, 7, 8])) (V' := [6, 7, 8]) (some 38) [4] Tryz.call12 (new_Pub (cfgL q0 q1 q2) l1 0 a_5 c_6 (List.replicate (bAnd .i64 l2 7).toNat (0 : Int)) hc (by rw [List.length_replicate]; omega) hf ht) (by kernel_rfl) ?_
        rintro v post ⟨p_4_1r1, k_4_1r1, bp_4_1r1, bt_4_1r1, wa_4_1r1, wc_4_1r1, rfl, rfl⟩
        refine lz_end (T1 := [(3, vP b_2), (5, .pointer none), (6, .pointer none), (7, vP b_4), (8, vI l2), (9, vI 0), (10, .iface 42 (vI 1)), (11, .slice none 0 0), (12, .iface 42 (vI 1)), (14, .bool true)]) (ps := [b_2 = b_2, (l1 == 0) = true, (decide ((((List.replicate (bAnd .i64 l2 7).toNat (0 : Int)).length : Nat) : Int) ≥ 1)) = true, (decide ((((List.replicate (bAnd .i64 l2 7).toNat (0 : Int)).length : Nat) : Int) ≤ 6)) = true]) [5, 9, 10, 11, 12, 13, 14, 15, 16, 17, 18, 19, 20] [(5, .h .w), (6, .h (.w)), (7, .h (.e 2)), (8, .h (.t true)), (9, .h .w), (10, .h .w), (11, .h .w), (12, .h (.t true)), (13, .h .w), (14, .h .w), (15, .h .w), (16, .h .w), (17, .h (.t true)), (18, .h .w), (19, .h .w), (20, .h .w)] [3, 5, 6, 7, 8, 9, 10, 11, 12, 14] (by kernel_rfl) ⟨rfl, (beq_iff_eq.2 h1), (decide_eq_true (by omega)), (decide_eq_true (by omega)), trivial⟩ ?_
        refine go_exec (rs := [.tmp 4]) (by kernel_rfl) 4000 [.z q74_3 0 [3, 5, 6, 7, 8, 9, 10, 11, 12, 14]] (o := .stop [.c q74_3, .c q74_4] [(3, vP b_2), (5, .pointer none), (6, .pointer none), (7, vP b_4), (8, vI l2), (9, vI 0), (10, .iface 42 (vI 1)), (11, .slice none 0 0), (12, .iface 42 (vI 1)), (14, .bool true)] [.raw 0 o_, .pts b_1 [vI q0, vI q1, vI q2] 22, .pts b_2 [vI l0, vI l1, vI l2] 22, Efdc04 b_4 (cfgL q0 q1 q2), E54ea0 a_5 c_6 (List.replicate (bAnd .i64 l2 7).toNat (0 : Int)), Ef60d6 p_4_1r1 (.iface 114 (vP k_4_1r1)) (.func (.func 51) #[] #[vP bp_4_1r1, vP bt_4_1r1]) 0 false (cfgL q0 q1 q2) (ctlAt (cfgL q0 q1 q2) l1) 0 wa_4_1r1 ((List.replicate (bAnd .i64 l2 7).toNat (0 : Int)).length) wc_4_1r1 0 0 0 0 0, .pts bp_4_1r1 [vP p_4_1r1] 23, .pts bt_4_1r1 [vP k_4_1r1] 114, E65ea3 k_4_1r1 (cfgL q0 q1 q2) (newTk (fitK (cfgL q0 q1 q2) ((((List.replicate (bAnd .i64 l2 7).toNat (0 : Int)).length) : Nat) : Int))) k_4_1r1, E54ea0 wa_4_1r1 wc_4_1r1 (List.replicate (bAnd .i64 l2 7).toNat (0 : Int))]) (by kernel_rfl) ?_
        refine ok_stop ?_
        exact go_weak [3, 5, 6, 7, 8, 9, 10, 11, 12, 14] [0, 1, 2, 3, 4] (by kernel_rfl) (hj_7 () trivial)
      · skip
        have ht : ctlAt (cfgL q0 q1 q2) l1 = -1 := by unfold ctlAt; rw [if_neg (by show ¬ (0 ≤ l1 ∧ l1 < 1); omega)]
        refine go_quiet (tm' := [(3, vP b_2), (5, .pointer none), (6, .pointer none), (7, vP b_4), (8, vI l2), (9, vI 0), (10, .iface 42 (vI 1)), (11, .slice none 0 0), (12, .iface 42 (vI 1)), (14, .bool true)]) (ps := [b_4 = b_4, b_2 = b_2, b_2 = b_2, (l1 == 0) = false]) (cs := [(12, #[cfgV (cfgL q0 q1 q2), vI l1, vI 0, .slice a_5 ((List.replicate (bAnd .i64 l2 7).toNat (0 : Int)).length) c_6], .pointer none)]) [(0, .h (.e 3)), (1, .h (.w)), (2, .h (.e 2)), (3, .h .w), (4, .q (.pointer none)), (5, .h .w), (6, .h (.w)), (7, .h (.e 2)), (8, .h (.t false)), (9, .h .w), (10, .h .w), (11, .h .w), (12, .h .w), (13, .h .w), (14, .h .w), (15, .h .w), (16, .h .w), (17, .h .w), (18, .h .w), (19, .h .w), (20, .h .w)] [3, 5, 6, 7, 8, 9, 10, 11, 12, 14] (by kernel_rfl) (by kernel_rfl) ⟨rfl, rfl, rfl, (beq_eq_false_iff_ne.2 h1), trivial⟩ ⟨⟨Tryz.call12, quiet_of [4] (new_PubT (cfgL q0 q1 q2) l1 0 a_5 c_6 (List.replicate (bAnd .i64 l2 7).toNat (0 : Int)) hc (by rw [List.length_replicate]; omega) hf ht) (by kernel_rfl) (by rintro v post ⟨rfl, rfl⟩; exact ⟨rfl, rfl⟩)⟩, trivial⟩ ?_
        refine go_exec (rs := [.tmp 4]) (by kernel_rfl) 4000 [.z q74_3 0 [3, 5, 6, 7, 8, 9, 10, 11, 12, 14]] (o := .stop [.c q74_3, .c q74_4] [(3, vP b_2), (5, .pointer none), (6, .pointer none), (7, vP b_4), (8, vI l2), (9, vI 0), (10, .iface 42 (vI 1)), (11, .slice none 0 0), (12, .iface 42 (vI 1)), (14, .bool true)] [.raw 0 o_, .pts b_1 [vI q0, vI q1, vI q2] 22, .pts b_2 [vI l0, vI l1, vI l2] 22, Efdc04 b_4 (cfgL q0 q1 q2), E54ea0 a_5 c_6 (List.replicate (bAnd .i64 l2 7).toNat (0 : Int))]) (by kernel_rfl) ?_
        refine ok_stop ?_
        exact go_weak [3, 5, 6, 7, 8, 9, 10, 11, 12, 14] [0, 1, 2, 3, 4] (by kernel_rfl) (hj_7 () trivial)
    · have hf : fitK (cfgL q0 q1 q2) (((List.replicate (bAnd .i64 l2 7).toNat (0 : Int)).length : Nat) : Int) = -1 := by
        rw [hln]; unfold fitK; rw [if_neg (by omega), if_neg (by show ¬ bAnd .i64 l2 7 ≤ 4; omega), if_neg (by show ¬ bAnd .i64 l2 7 ≤ 6; omega)]
      by_cases h1 : l1 = 0
      · skip
        refine go_quiet (tm' := [(3, vP b_2), (5, .pointer none), (6, .pointer none), (7, vP b_4), (8, vI l2), (9, vI 0), (10, .iface 42 (vI 1)), (11, .slice none 0 0), (12, .iface 42 (vI 1)), (14, .bool true)]) (ps := [b_4 = b_4, b_2 = b_2, b_2 = b_2, (l1 == 0) = true, (decide ((((List.replicate (bAnd .i64 l2 7).toNat (0 : Int)).length : Nat) : Int) ≥ 1)) = true, (decide ((((List.replicate (bAnd .i64 l2 7).toNat (0 : Int)).length : Nat) : Int) ≤ 6)) = false]) (cs := [(12, #[cfgV (cfgL q0 q1 q2), vI l1, vI 0, .slice a_5 ((List.replicate (bAnd .i64 l2 7).toNat (0 : Int)).length) c_6], .pointer none)]) [(0, .h (.e 3)), (1, .h (.w)), (2, .h (.e 2)), (3, .h .w), (4, .q (.pointer none)), (5, .h .w), (6, .h (.w)), (7, .h (.e 2)), (8, .h (.t true)), (9, .h .w), (10, .h .w), (11, .h .w), (12, .h (.t true)), (13, .h .w), (14, .h .w), (15, .h .w), (16, .h .w), (17, .h (.t false)), (18, .h .w), (19, .h .w), (20, .h .w)] [3, 5, 6, 7, 8, 9, 10, 11, 12, 14] (by kernel_rfl) (by kernel_rfl) ⟨rfl, rfl, rfl, (beq_iff_eq.2 h1), (decide_eq_true (by omega)), (decide_eq_false (by omega)), trivial⟩ ⟨⟨Tryz.call12, quiet_of [4] (new_PubF (cfgL q0 q1 q2) l1 0 a_5 c_6 (List.replicate (bAnd .i64 l2 7).toNat (0 : Int)) hc (by rw [List.length_replicate]; omega) hf) (by kernel_rfl) (by rintro v post ⟨rfl, rfl⟩; exact ⟨rfl, rfl⟩)⟩, trivial⟩ ?_
        refine go_exec (rs := [.tmp 4]) (by kernel_rfl) 4000 [.z q74_3 0 [3, 5, 6, 7, 8, 9, 10, 11, 12, 14]] (o := .stop [.c q74_3, .c q74_4] [(3, vP b_2), (5, .pointer none), (6, .pointer none), (7, vP b_4), (8, vI l2), (9, vI 0), (10, .iface 42 (vI 1)), (11, .slice none 0 0), (12, .iface 42 (vI 1)), (14, .bool true)] [.raw 0 o_, .pts b_1 [vI q0, vI q1, vI q2] 22, .pts b_2 [vI l0, vI l1, vI l2] 22, Efdc04 b_4 (cfgL q0 q1 q2), E54ea0 a_5 c_6 (List.replicate (bAnd .i64 l2 7).toNat (0 : Int))]) (by kernel_rfl) ?_
        refine ok_stop ?_
        exact go_weak [3, 5, 6, 7, 8, 9, 10, 11, 12, 14] [0, 1, 2, 3, 4] (by kernel_rfl) (hj_7 () trivial)
      · skip
        refine go_quiet (tm' := [(3, vP b_2), (5, .pointer none), (6, .pointer none), (7, vP b_4), (8, vI l2), (9, vI 0), (10, .iface 42 (vI 1)), (11, .slice none 0 0), (12, .iface 42 (vI 1)), (14, .bool true)]) (ps := [b_4 = b_4, b_2 = b_2, b_2 = b_2, (l1 == 0) = false]) (cs := [(12, #[cfgV (cfgL q0 q1 q2), vI l1, vI 0, .slice a_5 ((List.replicate (bAnd .i64 l2 7).toNat (0 : Int)).length) c_6], .pointer none)]) [(0, .h (.e 3)), (1, .h (.w)), (2, .h (.e 2)), (3, .h .w), (4, .q (.pointer none)), (5, .h .w), (6, .h (.w)), (7, .h (.e 2)), (8, .h (.t false)), (9, .h .w), (10, .h .w), (11, .h .w), (12, .h .w), (13, .h .w), (14, .h .w), (15, .h .w), (16, .h .w), (17, .h .w), (18, .h .w), (19, .h .w), (20, .h .w)] [3, 5, 6, 7, 8, 9, 10, 11, 12, 14] (by kernel_rfl) (by kernel_rfl) ⟨rfl, rfl, rfl, (beq_eq_false_iff_ne.2 h1), trivial⟩ ⟨⟨Tryz.call12, quiet_of [4] (new_PubF (cfgL q0 q1 q2) l1 0 a_5 c_6 (List.replicate (bAnd .i64 l2 7).toNat (0 : Int)) hc (by rw [List.length_replicate]; omega) hf) (by kernel_rfl) (by rintro v post ⟨rfl, rfl⟩; exact ⟨rfl, rfl⟩)⟩, trivial⟩ ?_
        refine go_exec (rs := [.tmp 4]) (by kernel_rfl) 4000 [.z q74_3 0 [3, 5, 6, 7, 8, 9, 10, 11, 12, 14]] (o := .stop [.c q74_3, .c q74_4] [(3, vP b_2), (5, .pointer none), (6, .pointer none), (7, vP b_4), (8, vI l2), (9, vI 0), (10, .iface 42 (vI 1)), (11, .slice none 0 0), (12, .iface 42 (vI 1)), (14, .bool true)] [.raw 0 o_, .pts b_1 [vI q0, vI q1, vI q2] 22, .pts b_2 [vI l0, vI l1, vI l2] 22, Efdc04 b_4 (cfgL q0 q1 q2), E54ea0 a_5 c_6 (List.replicate (bAnd .i64 l2 7).toNat (0 : Int))]) (by kernel_rfl) ?_
        refine ok_stop ?_
        exact go_weak [3, 5, 6, 7, 8, 9, 10, 11, 12, 14] [0, 1, 2, 3, 4] (by kernel_rfl) (hj_7 () trivial)
  · have hf : fitK (cfgL q0 q1 q2) (((List.replicate (bAnd .i64 l2 7).toNat (0 : Int)).length : Nat) : Int) = -1 := by
      rw [hln]; unfold fitK; rw [if_pos (by omega)]
    by_cases h1 : l1 = 0
    · skip
      refine go_quiet (tm' := [(3, vP b_2), (5, .pointer none), (6, .pointer none), (7, vP b_4), (8, vI l2), (9, vI 0), (10, .iface 42 (vI 1)), (11, .slice none 0 0), (12, .iface 42 (vI 1)), (14, .bool true)]) (ps := [b_4 = b_4, b_2 = b_2, b_2 = b_2, (l1 == 0) = true, (decide ((((List.replicate (bAnd .i64 l2 7).toNat (0 : Int)).length : Nat) : Int) ≥ 1)) = false]) (cs := [(12, #[cfgV (cfgL q0 q1 q2), vI l1, vI 0, .slice a_5 ((List.replicate (bAnd .i64 l2 7).toNat (0 : Int)).length) c_6], .pointer none)]) [(0, .h (.e 3)), (1, .h (.w)), (2, .h (.e 2)), (3, .h .w), (4, .q (.pointer none)), (5, .h .w), (6, .h (.w)), (7, .h (.e 2)), (8, .h (.t true)), (9, .h .w), (10, .h .w), (11, .h .w), (12, .h (.t false)), (13, .h .w), (14, .h .w), (15, .h .w), (16, .h .w), (17, .h .w), (18, .h .w), (19, .h .w), (20, .h .w)] [3, 5, 6, 7, 8, 9, 10, 11, 12, 14] (by kernel_rfl) (by kernel_rfl) ⟨rfl, rfl, rfl, (beq_iff_eq.2 h1), (decide_eq_false (by omega)), trivial⟩ ⟨⟨Tryz.call12, quiet_of [4] (new_PubF (cfgL q0 q1 q2) l1 0 a_5 c_6 (List.replicate (bAnd .i64 l2 7).toNat (0 : Int)) hc (by rw [List.length_replicate]; omega) hf) (by kernel_rfl) (by rintro v post ⟨rfl, rfl⟩; exact ⟨rfl, rfl⟩)⟩, trivial⟩ ?_
      refine go_exec (rs := [.tmp 4]) (by kernel_rfl) 4000 [.z q74_3 0 [3, 5, 6, 7, 8, 9, 10, 11, 12, 14]] (o := .stop [.c q74_3, .c q74_4] [(3, vP b_2), (5, .pointer none), (6, .pointer none), (7, vP b_4), (8, vI l2), (9, vI 0), (10, .iface 42 (vI 1)), (11, .slice none 0 0), (12, .iface 42 (vI 1)), (14, .bool true)] [.raw 0 o_, .pts b_1 [vI q0, vI q1, vI q2] 22, .pts b_2 [vI l0, vI l1, vI l2] 22, Efdc04 b_4 (cfgL q0 q1 q2), E54ea0 a_5 c_6 (List.replicate (bAnd .i64 l2 7).toNat (0 : Int))]) (by kernel_rfl) ?_
      refine ok_stop ?_
      exact go_weak [3, 5, 6, 7, 8, 9, 10, 11, 12, 14] [0, 1, 2, 3, 4] (by kernel_rfl) (hj_7 () trivial)
    · skip
      refine go_quiet (tm' := [(3, vP b_2), (5, .pointer none), (6, .pointer none), (7, vP b_4), (8, vI l2), (9, vI 0), (10, .iface 42 (vI 1)), (11, .slice none 0 0), (12, .iface 42 (vI 1)), (14, .bool true)]) (ps := [b_4 = b_4, b_2 = b_2, b_2 = b_2, (l1 == 0) = false]) (cs := [(12, #[cfgV (cfgL q0 q1 q2), vI l1, vI 0, .slice a_5 ((List.replicate (bAnd .i64 l2 7).toNat (0 : Int)).length) c_6], .pointer none)]) [(0, .h (.e 3)), (1, .h (.w)), (2, .h (.e 2)), (3, .h .w), (4, .q (.pointer none)), (5, .h .w), (6, .h (.w)), (7, .h (.e 2)), (8, .h (.t false)), (9, .h .w), (10, .h .w), (11, .h .w), (12, .h .w), (13, .h .w), (14, .h .w), (15, .h .w), (16, .h .w), (17, .h .w), (18, .h .w), (19, .h .w), (20, .h .w)] [3, 5, 6, 7, 8, 9, 10, 11, 12, 14] (by kernel_rfl) (by kernel_rfl) ⟨rfl, rfl, rfl, (beq_eq_false_iff_ne.2 h1), trivial⟩ ⟨⟨Tryz.call12, quiet_of [4] (new_PubF (cfgL q0 q1 q2) l1 0 a_5 c_6 (List.replicate (bAnd .i64 l2 7).toNat (0 : Int)) hc (by rw [List.length_replicate]; omega) hf) (by kernel_rfl) (by rintro v post ⟨rfl, rfl⟩; exact ⟨rfl, rfl⟩)⟩, trivial⟩ ?_
      refine go_exec (rs := [.tmp 4]) (by kernel_rfl) 4000 [.z q74_3 0 [3, 5, 6, 7, 8, 9, 10, 11, 12, 14]] (o := .stop [.c q74_3, .c q74_4] [(3, vP b_2), (5, .pointer none), (6, .pointer none), (7, vP b_4), (8, vI l2), (9, vI 0), (10, .iface 42 (vI 1)), (11, .slice none 0 0), (12, .iface 42 (vI 1)), (14, .bool true)] [.raw 0 o_, .pts b_1 [vI q0, vI q1, vI q2] 22, .pts b_2 [vI l0, vI l1, vI l2] 22, Efdc04 b_4 (cfgL q0 q1 q2), E54ea0 a_5 c_6 (List.replicate (bAnd .i64 l2 7).toNat (0 : Int))]) (by kernel_rfl) ?_
      refine ok_stop ?_
      exact go_weak [3, 5, 6, 7, 8, 9, 10, 11, 12, 14] [0, 1, 2, 3, 4] (by kernel_rfl) (hj_7 () trivial)

end Go.Proofs.YtgajfjeffamnkaaGreatDoor


/- Walks: what functions of the program and of the document compute, part 1 of those on which LargeNil rests. -/
import Derived.Test.YtgajfjeffamnkaaGreatDoorMdA
import Derived.Test.YtgajfjeffamnkaaGreatDoorChecked
import Derived.WalkKit
import Derived.LaidEql
import Derived.Stop.Asserts
import Derived.RowKitTokens
import Derived.Test.YtgajfjeffamnkaaGreatDoorRows
import Derived.ChangeSame
import Derived.ChangeVars
import Derived.JoinedOf
import Derived.RowKit
import Derived.LaidLaws
import Derived.LaidHandle
import Derived.Stop.Joined

set_option linter.unusedVariables false
set_option linter.unusedSimpArgs false

namespace Go.Proofs.YtgajfjeffamnkaaGreatDoor
open Go.Sx
abbrev Efdc04 (x0 : Nat) (c1 : Cfg) : Ent := .pts x0 [.int .i64 c1.topics, .int .i64 c1.small, .int .i64 c1.slots, .int .i64 c1.clients, .int .i64 c1.s0, .int .i64 c1.n0, .int .i64 c1.s1, .int .i64 c1.n1, .int .i64 c1.retry] 29
abbrev E54ea0 (x0 : Option Addr) (x1 : Nat) (x2 : List Int) : Ent := .sl x0 x1 (encI .u64) 0 1 x2 60
abbrev Ef0385 (x0 : Nat) (x1 : Option Addr) (x2 : Nat) (x3 : Nat) (x4 : Int) (x5 : Int) (x6 : Int) (x7 : Int) (x8 : Bool) : Ent := .pts x0 [.slice x1 x2 x3, .int .i64 x4, .int .i64 x5, .int .i64 x6, .int .u64 x7, .bool x8, .nilIface] 144
abbrev E3504b (x0 : Nat) (a1 : Ar) : Ent := .pts x0 [.slice a1.aw a1.n a1.cw, .int .i64 a1.steps, .int .i64 a1.lk, .int .i64 a1.lw, .int .u64 a1.lv, .bool a1.lc, .nilIface] 144
abbrev E35fb1 (a0 : Ar) : Ent := .sl a0.aw a0.cw (encI .u64) 0 1 a0.ws 60
abbrev E2b1dd (x0 : Nat) (c1 : Cfg) : Ent := .pts x0 [.int .i64 c1.topics, .int .i64 c1.small, .int .i64 c1.slots, .int .i64 c1.clients, .int .i64 c1.retry, .int .i64 c1.s0, .int .i64 c1.n0, .int .i64 c1.s1, .int .i64 c1.n1] 224
abbrev E5ca89 (x0 : Nat) (x1 : Int) (x2 : Int) (x3 : Int) (x4 : Int) (x5 : Int) (x6 : Int) (x7 : Int) (x8 : Int) (x9 : Int) : Ent := .pts x0 [.int .i64 x1, .int .i64 x2, .int .i64 x3, .int .i64 x4, .int .i64 x5, .int .i64 x6, .int .i64 x7, .int .i64 x8, .int .i64 x9] 224
abbrev Ed975e (x0 : Nat) (x1 : Int) (x2 : Int) (x3 : Int) (x4 : Int) (x5 : Int) (x6 : Int) (x7 : Int) (x8 : Int) (x9 : Int) : Ent := .pts x0 [.int .i64 x1, .int .i64 x2, .int .i64 x3, .int .i64 x4, .int .i64 x5, .int .i64 x6, .int .i64 x7, .int .i64 x8, .int .i64 x9] 29
abbrev Ea266b (x0 : Nat) (a1 : Ar) (x2 : Int) (x3 : Int) (x4 : Int) (x5 : Int) (x6 : Bool) : Ent := .pts x0 [.slice a1.aw a1.n a1.cw, .int .i64 x2, .int .i64 x3, .int .i64 x4, .int .u64 x5, .bool x6, .nilIface] 144
abbrev E20910 (a0 : Ar) (x1 : List Int) : Ent := .sl a0.aw a0.cw (encI .u64) 0 1 x1 60
abbrev cfgV (c : Cfg) : Value := .agg #[.int .i64 c.topics, .int .i64 c.small, .int .i64 c.slots, .int .i64 c.clients, .int .i64 c.s0, .int .i64 c.n0, .int .i64 c.s1, .int .i64 c.n1, .int .i64 c.retry]
noncomputable def B190 : Code := (Tryz.f190.body).getD .skip

theorem bits_may (at_ n : Int) (h : 1 ≤ n ∧ n ≤ 64 ∧ 0 ≤ at_ ∧ at_ + n ≤ 64) :
    Ctr Tryz.prog 190 #[vI at_, vI n] [] (Ret (.bool true) []) := by
  refine ctr_of (args := [vI at_, vI n]) (fn := Tryz.f190) (body := B190) (nt := 21) Tryz.func190 (by kernel_rfl) (by kernel_rfl) ?_
  intro F
  refine go_exec (rs := [.tmp 4]) (by kernel_rfl) 4000 [.sp [7, 6] [.sp [11, 9, 10] [.sp [15, 13, 14] [.n] [.dead]] [.dead]] [.dead]] (o := .obl ((decide (n ≥ 1)) = (decide (n ≥ 1))) (.br (decide (n ≥ 1)) (.obl ((decide (n ≤ 64)) = (decide (n ≤ 64))) (.obl ((decide (n ≤ 64)) = (decide (n ≤ 64))) (.br (decide (n ≤ 64)) (.obl ((decide (at_ ≥ 0)) = (decide (at_ ≥ 0))) (.obl ((decide (at_ ≥ 0)) = (decide (at_ ≥ 0))) (.br (decide (at_ ≥ 0)) (.obl (InK .i64 (64 - n)) (.ret (.bool (decide (at_ ≤ (64 - n)))) [])) (.bad)))) (.bad)))) (.bad))) (by kernel_rfl) ?_
  refine ok_obl rfl ?_
  refine ok_br (fun _ => ?_) (fun h => absurd (show (decide (n ≥ 1)) = true from (by simp; omega)) (by rw [h]; simp))
  refine ok_obl rfl ?_
  refine ok_obl rfl ?_
  refine ok_br (fun _ => ?_) (fun h => absurd (show (decide (n ≤ 64)) = true from (by simp; omega)) (by rw [h]; simp))
  refine ok_obl rfl ?_
  refine ok_obl rfl ?_
  refine ok_br (fun _ => ?_) (fun h => absurd (show (decide (at_ ≥ 0)) = true from (by simp; omega)) (by rw [h]; simp))
  refine ok_obl (by simp only [InK] at *; omega) ?_
  exact ret_ok (post := []) [] (by kernel_rfl) ⟨(congrArg Value.bool (by first | rfl | (simp; done) | (simp; omega))), (by kernel_rfl)⟩

noncomputable def B191 : Code := (Tryz.f191.body).getD .skip

theorem bits_all (n : Int) (h : 1 ≤ n ∧ n ≤ 64) :
    Ctr Tryz.prog 191 #[vI n] [] (Ret (vU (bShr .u64 18446744073709551615 (64 - n))) []) := by
  refine ctr_of (args := [vI n]) (fn := Tryz.f191) (body := B191) (nt := 6) Tryz.func191 (by kernel_rfl) (by kernel_rfl) ?_
  intro F
  refine go_exec (rs := [.tmp 2]) (by kernel_rfl) 4000 [.n, .n] (o := .obl (InK .i64 (64 - n)) (.obl ((0 : Int) ≤ (64 - n)) (.ret (vU (bShr .u64 18446744073709551615 (64 - n))) []))) (by kernel_rfl) ?_
  refine ok_obl (by simp only [InK]; omega) ?_
  refine ok_obl (by omega) ?_
  exact ret_ok (post := []) [] (by kernel_rfl) ⟨rfl, (by kernel_rfl)⟩

noncomputable def B172 : Code := (Tryz.f172.body).getD .skip

theorem bits_Get (w_ at_ n : Int) (h : 1 ≤ n ∧ n ≤ 64 ∧ 0 ≤ at_ ∧ at_ + n ≤ 64) :
    Ctr Tryz.prog 172 #[vU w_, vI at_, vI n] [] (Ret (vU (bAnd .u64 (bShr .u64 w_ at_) (bShr .u64 18446744073709551615 (64 - n)))) []) := by
  refine ctr_of (args := [vU w_, vI at_, vI n]) (fn := Tryz.f172) (body := B172) (nt := 17) Tryz.func172 (by kernel_rfl) (by kernel_rfl) ?_
  intro F
  refine go_exec (rs := [.tmp 6]) (by kernel_rfl) 4000 [.z [0, 0, 1] 2 [0, 1, 2, 7, 8]] (o := .stop [.o [0, 0, 1] 2, .c [1, 0, 1], .c [1, 1]] [(0, vU w_), (1, vI at_), (2, vI n), (7, vI at_), (8, vI n)] []) (by kernel_rfl) ?_
  refine ok_stop ?_
  refine go_call (some 9) [] Tryz.call190 (bits_may at_ n (by first | assumption | omega | (simp only [InK] at *; omega))) (by kernel_rfl) ?_
  rintro v post ⟨rfl, rfl⟩
  refine go_exec (rs := [.tmp 6]) (by kernel_rfl) 4000 [.z [0, 1, 1] 0 [0, 1, 2]] (o := .stop [.c [0, 1, 1], .c [1, 1, 1]] [(0, vU w_), (1, vI at_), (2, vI n)] []) (by kernel_rfl) ?_
  refine ok_stop ?_
  refine go_quiet (tm' := [(6, vU (bAnd .u64 (bShr .u64 w_ at_) (bShr .u64 18446744073709551615 (64 - n))))]) (ps := [(0 : Int) ≤ at_]) (cs := [(191, #[vI n], vU (bShr .u64 18446744073709551615 (64 - n)))]) [(0, .h .w), (1, .h .w), (2, .h (.n)), (3, .h .w), (4, .q (vU (bShr .u64 18446744073709551615 (64 - n)))), (5, .h .w), (6, .h .w)] [6] (by kernel_rfl) (by kernel_rfl) ⟨(by first | omega | (simp; done) | (simp; omega)), trivial⟩ ⟨⟨Tryz.call191, quiet_of [] (bits_all n (by first | assumption | omega | (simp only [InK] at *; omega))) (by kernel_rfl) (by rintro v post ⟨rfl, rfl⟩; exact ⟨rfl, rfl⟩)⟩, trivial⟩ ?_
  refine go_exec (rs := [.tmp 6]) (by kernel_rfl) 4000 [] (o := .ret (vU (bAnd .u64 (bShr .u64 w_ at_) (bShr .u64 18446744073709551615 (64 - n)))) []) (by kernel_rfl) ?_
  exact ret_ok (post := []) [] (by kernel_rfl) ⟨rfl, (by kernel_rfl)⟩

noncomputable def B102 : Code := (Tryz.f102.body).getD .skip

theorem plan_cells (c : Cfg) (hc : c.Ok) :
    Ctr Tryz.prog 102 #[cfgV c] [] (Ret (.tuple #[vI (5 + c.slots + c.topics), vI (1 + 2 * c.small)]) []) := by
  refine ctr_of (args := [cfgV c]) (fn := Tryz.f102) (body := B102) (nt := 14) Tryz.func102 (by kernel_rfl) (by kernel_rfl) ?_
  intro F
  refine go_exec (rs := [.tmp 2, .tmp 3]) (by kernel_rfl) 4000 [.z [0, 1] 0 [1]] (o := .new fun b_1 => .stop [.c [0, 1], .c [1, 1]] [(1, vP b_1)] [Efdc04 b_1 c]) (by kernel_rfl) ?_
  refine ok_new fun b_1 => ?_
  refine ok_stop ?_
  refine go_quiet (tm' := [(2, vI ((5 + c.slots) + c.topics)), (3, vI (1 + (2 * c.small)))]) (ps := [b_1 = b_1, InK .i64 (5 + c.slots), b_1 = b_1, InK .i64 ((5 + c.slots) + c.topics), b_1 = b_1, InK .i64 (2 * c.small), InK .i64 (1 + (2 * c.small))]) (cs := []) [(0, .h .w), (1, .h (.e 0)), (2, .h (.n)), (3, .h .w), (4, .h (.e 0)), (5, .h (.n)), (6, .h .w), (7, .h (.e 0)), (8, .h (.n)), (9, .h (.n)), (10, .h .w), (11, .h .w)] [2, 3] (by kernel_rfl) (by kernel_rfl) ⟨rfl, (by simp only [Cfg.Ok, InK] at *; omega), rfl, (by simp only [Cfg.Ok, InK] at *; omega), rfl, (by simp only [Cfg.Ok, InK] at *; omega), (by simp only [Cfg.Ok, InK] at *; omega), trivial⟩ trivial ?_
  refine go_exec (rs := [.tmp 2, .tmp 3]) (by kernel_rfl) 4000 [] (o := .ret (.tuple #[vI ((5 + c.slots) + c.topics), vI (1 + (2 * c.small))]) [Efdc04 b_1 c]) (by kernel_rfl) ?_
  exact ret_ok (post := []) [] (by kernel_rfl) ⟨rfl, (by kernel_rfl)⟩

noncomputable def B165 : Code := (Tryz.f165.body).getD .skip

theorem plan_parts (c : Cfg)  :
    Ctr Tryz.prog 165 #[cfgV c] [] (Ret (.agg #[vI c.topics, vI c.small, vI c.slots, vI c.clients, vI c.retry, vI c.s0, vI c.n0, vI c.s1, vI c.n1]) []) := by
  refine ctr_of (args := [cfgV c]) (fn := Tryz.f165) (body := B165) (nt := 30) Tryz.func165 (by kernel_rfl) (by kernel_rfl) ?_
  intro F
  refine go_exec (rs := [.cell 2 224]) (by kernel_rfl) 4000 [.e 0, .e 0, .e 0, .e 0, .e 0, .w, .e 0, .w, .e 0, .w, .e 0, .w, .e 0, .e 1, .e 1] (o := .new fun b_1 => .new fun b_2 => .obl (b_1 = b_1) (.obl (b_1 = b_1) (.obl (b_1 = b_1) (.obl (b_1 = b_1) (.obl (b_1 = b_1) (.obl (b_1 = b_1) (.obl (b_1 = b_1) (.obl (b_1 = b_1) (.obl (b_1 = b_1) (.obl (b_2 = b_2) (.obl (b_2 = b_2) (.ret (.agg #[vI c.topics, vI c.small, vI c.slots, vI c.clients, vI c.retry, vI c.s0, vI c.n0, vI c.s1, vI c.n1]) [Efdc04 b_1 c, E2b1dd b_2 c])))))))))))) (by kernel_rfl) ?_
  refine ok_new fun b_1 => ?_
  refine ok_new fun b_2 => ?_
  refine ok_obl rfl ?_
  refine ok_obl rfl ?_
  refine ok_obl rfl ?_
  refine ok_obl rfl ?_
  refine ok_obl rfl ?_
  refine ok_obl rfl ?_
  refine ok_obl rfl ?_
  refine ok_obl rfl ?_
  refine ok_obl rfl ?_
  refine ok_obl rfl ?_
  refine ok_obl rfl ?_
  exact ret_ok (post := []) [] (by kernel_rfl) ⟨rfl, (by kernel_rfl)⟩

noncomputable def B127 : Code := (Tryz.f127.body).getD .skip

theorem plan_right (c : Cfg) (hc : c.Ok) :
    Ctr Tryz.prog 127 #[cfgV c] [] (Ret (.bool true) []) := by
  refine ctr_of (args := [cfgV c]) (fn := Tryz.f127) (body := B127) (nt := 37) Tryz.func127 (by kernel_rfl) (by kernel_rfl) ?_
  intro F
  refine go_exec (rs := [.tmp 2]) (by kernel_rfl) 4000 [.e 1, .e 2, .e 0, .z [0, 0, 1, 1, 1] 1 [1, 3, 4, 9]] (o := .new fun b_1 => .new fun b_2 => .obl (b_2 = b_2) (.new fun b_3 => .obl (b_3 = b_3) (.obl (b_1 = b_1) (.stop [.o [0, 0, 1, 1, 1] 1, .c [1, 0, 1, 1, 1], .c [1, 1, 1, 1]] [(1, vP b_1), (3, vP b_2), (4, vP b_3), (9, cfgV c)] [Efdc04 b_1 c, E5ca89 b_2 1 4 1 1 1 4 0 4 0, E5ca89 b_3 8 32 8 8 8 96 12 96 12])))) (by kernel_rfl) ?_
  refine ok_new fun b_1 => ?_
  refine ok_new fun b_2 => ?_
  refine ok_obl rfl ?_
  refine ok_new fun b_3 => ?_
  refine ok_obl rfl ?_
  refine ok_obl rfl ?_
  refine ok_stop ?_
  refine go_call (some 10) [] Tryz.call165 (plan_parts c) (by kernel_rfl) ?_
  rintro v post ⟨rfl, rfl⟩
  refine go_exec (rs := [.tmp 2]) (by kernel_rfl) 4000 [.u, .w, .e 1, .sp [20, 19] [.dead] [.w, .e 2, .sp [26, 25] [.dead] [.w, .u, .w, .e 1, .sp [20, 19] [.dead] [.w, .e 2, .sp [26, 25] [.dead] [.w, .u, .w, .e 1, .sp [20, 19] [.dead] [.w, .e 2, .sp [26, 25] [.dead] [.w, .u, .w, .e 1, .sp [20, 19] [.dead] [.w, .e 2, .sp [26, 25] [.dead] [.w, .u, .w, .e 1, .sp [20, 19] [.dead] [.w, .e 2, .sp [26, 25] [.dead] [.w, .u, .w, .e 1, .sp [20, 19] [.dead] [.w, .e 2, .sp [26, 25] [.dead] [.w, .u, .w, .e 1, .sp [20, 19] [.dead] [.w, .e 2, .sp [26, 25] [.dead] [.w, .u, .w, .e 1, .sp [20, 19] [.dead] [.w, .e 2, .sp [26, 25] [.dead] [.w, .u, .w, .e 1, .sp [20, 19] [.dead] [.w, .e 2, .sp [26, 25] [.dead] [.w, .u, .w, .e 0, .w, .e 0]]]]]]]]]]]]]]]]]]] (o := .obl (b_2 = b_2) (.obl ((decide (c.topics < 1)) = (decide (c.topics < 1))) (.br (decide (c.topics < 1)) (.bad) (.obl (b_3 = b_3) (.obl ((decide (c.topics > 8)) = (decide (c.topics > 8))) (.br (decide (c.topics > 8)) (.bad) (.obl (b_2 = b_2) (.obl ((decide (c.small < 4)) = (decide (c.small < 4))) (.br (decide (c.small < 4)) (.bad) (.obl (b_3 = b_3) (.obl ((decide (c.small > 32)) = (decide (c.small > 32))) (.br (decide (c.small > 32)) (.bad) (.obl (b_2 = b_2) (.obl ((decide (c.slots < 1)) = (decide (c.slots < 1))) (.br (decide (c.slots < 1)) (.bad) (.obl (b_3 = b_3) (.obl ((decide (c.slots > 8)) = (decide (c.slots > 8))) (.br (decide (c.slots > 8)) (.bad) (.obl (b_2 = b_2) (.obl ((decide (c.clients < 1)) = (decide (c.clients < 1))) (.br (decide (c.clients < 1)) (.bad) (.obl (b_3 = b_3) (.obl ((decide (c.clients > 8)) = (decide (c.clients > 8))) (.br (decide (c.clients > 8)) (.bad) (.obl (b_2 = b_2) (.obl ((decide (c.retry < 1)) = (decide (c.retry < 1))) (.br (decide (c.retry < 1)) (.bad) (.obl (b_3 = b_3) (.obl ((decide (c.retry > 8)) = (decide (c.retry > 8))) (.br (decide (c.retry > 8)) (.bad) (.obl (b_2 = b_2) (.obl ((decide (c.s0 < 4)) = (decide (c.s0 < 4))) (.br (decide (c.s0 < 4)) (.bad) (.obl (b_3 = b_3) (.obl ((decide (c.s0 > 96)) = (decide (c.s0 > 96))) (.br (decide (c.s0 > 96)) (.bad) (.obl (b_2 = b_2) (.obl ((decide (c.n0 < 0)) = (decide (c.n0 < 0))) (.br (decide (c.n0 < 0)) (.bad) (.obl (b_3 = b_3) (.obl ((decide (c.n0 > 12)) = (decide (c.n0 > 12))) (.br (decide (c.n0 > 12)) (.bad) (.obl (b_2 = b_2) (.obl ((decide (c.s1 < 4)) = (decide (c.s1 < 4))) (.br (decide (c.s1 < 4)) (.bad) (.obl (b_3 = b_3) (.obl ((decide (c.s1 > 96)) = (decide (c.s1 > 96))) (.br (decide (c.s1 > 96)) (.bad) (.obl (b_2 = b_2) (.obl ((decide (c.n1 < 0)) = (decide (c.n1 < 0))) (.br (decide (c.n1 < 0)) (.bad) (.obl (b_3 = b_3) (.obl ((decide (c.n1 > 12)) = (decide (c.n1 > 12))) (.br (decide (c.n1 > 12)) (.bad) (.obl (b_1 = b_1) (.obl (b_1 = b_1) (.ret (.bool (decide (c.s1 > c.s0))) [Efdc04 b_1 c, E5ca89 b_2 1 4 1 1 1 4 0 4 0, E5ca89 b_3 8 32 8 8 8 96 12 96 12]))))))))))))))))))))))))))))))))))))))))))))))))))))))))) (by kernel_rfl) ?_
  refine ok_obl rfl ?_
  refine ok_obl rfl ?_
  refine ok_br (fun h => absurd (show (decide (c.topics < 1)) = false from (by simp only [Cfg.Ok] at hc; simp; omega)) (by rw [h]; simp)) (fun _ => ?_)
  refine ok_obl rfl ?_
  refine ok_obl rfl ?_
  refine ok_br (fun h => absurd (show (decide (c.topics > 8)) = false from (by simp only [Cfg.Ok] at hc; simp; omega)) (by rw [h]; simp)) (fun _ => ?_)
  refine ok_obl rfl ?_
  refine ok_obl rfl ?_
  refine ok_br (fun h => absurd (show (decide (c.small < 4)) = false from (by simp only [Cfg.Ok] at hc; simp; omega)) (by rw [h]; simp)) (fun _ => ?_)
  refine ok_obl rfl ?_
  refine ok_obl rfl ?_
  refine ok_br (fun h => absurd (show (decide (c.small > 32)) = false from (by simp only [Cfg.Ok] at hc; simp; omega)) (by rw [h]; simp)) (fun _ => ?_)
  refine ok_obl rfl ?_
  refine ok_obl rfl ?_
  refine ok_br (fun h => absurd (show (decide (c.slots < 1)) = false from (by simp only [Cfg.Ok] at hc; simp; omega)) (by rw [h]; simp)) (fun _ => ?_)
  refine ok_obl rfl ?_
  refine ok_obl rfl ?_
  refine ok_br (fun h => absurd (show (decide (c.slots > 8)) = false from (by simp only [Cfg.Ok] at hc; simp; omega)) (by rw [h]; simp)) (fun _ => ?_)
  refine ok_obl rfl ?_
  refine ok_obl rfl ?_
  refine ok_br (fun h => absurd (show (decide (c.clients < 1)) = false from (by simp only [Cfg.Ok] at hc; simp; omega)) (by rw [h]; simp)) (fun _ => ?_)
  refine ok_obl rfl ?_
  refine ok_obl rfl ?_
  refine ok_br (fun h => absurd (show (decide (c.clients > 8)) = false from (by simp only [Cfg.Ok] at hc; simp; omega)) (by rw [h]; simp)) (fun _ => ?_)
  refine ok_obl rfl ?_
  refine ok_obl rfl ?_
  refine ok_br (fun h => absurd (show (decide (c.retry < 1)) = false from (by simp only [Cfg.Ok] at hc; simp; omega)) (by rw [h]; simp)) (fun _ => ?_)
  refine ok_obl rfl ?_
  refine ok_obl rfl ?_
  refine ok_br (fun h => absurd (show (decide (c.retry > 8)) = false from (by simp only [Cfg.Ok] at hc; simp; omega)) (by rw [h]; simp)) (fun _ => ?_)
  refine ok_obl rfl ?_
  refine ok_obl rfl ?_
  refine ok_br (fun h => absurd (show (decide (c.s0 < 4)) = false from (by simp only [Cfg.Ok] at hc; simp; omega)) (by rw [h]; simp)) (fun _ => ?_)
  refine ok_obl rfl ?_
  refine ok_obl rfl ?_
  refine ok_br (fun h => absurd (show (decide (c.s0 > 96)) = false from (by simp only [Cfg.Ok] at hc; simp; omega)) (by rw [h]; simp)) (fun _ => ?_)
  refine ok_obl rfl ?_
  refine ok_obl rfl ?_
  refine ok_br (fun h => absurd (show (decide (c.n0 < 0)) = false from (by simp only [Cfg.Ok] at hc; simp; omega)) (by rw [h]; simp)) (fun _ => ?_)
  refine ok_obl rfl ?_
  refine ok_obl rfl ?_
  refine ok_br (fun h => absurd (show (decide (c.n0 > 12)) = false from (by simp only [Cfg.Ok] at hc; simp; omega)) (by rw [h]; simp)) (fun _ => ?_)
  refine ok_obl rfl ?_
  refine ok_obl rfl ?_
  refine ok_br (fun h => absurd (show (decide (c.s1 < 4)) = false from (by simp only [Cfg.Ok] at hc; simp; omega)) (by rw [h]; simp)) (fun _ => ?_)
  refine ok_obl rfl ?_
  refine ok_obl rfl ?_
  refine ok_br (fun h => absurd (show (decide (c.s1 > 96)) = false from (by simp only [Cfg.Ok] at hc; simp; omega)) (by rw [h]; simp)) (fun _ => ?_)
  refine ok_obl rfl ?_
  refine ok_obl rfl ?_
  refine ok_br (fun h => absurd (show (decide (c.n1 < 0)) = false from (by simp only [Cfg.Ok] at hc; simp; omega)) (by rw [h]; simp)) (fun _ => ?_)
  refine ok_obl rfl ?_
  refine ok_obl rfl ?_
  refine ok_br (fun h => absurd (show (decide (c.n1 > 12)) = false from (by simp only [Cfg.Ok] at hc; simp; omega)) (by rw [h]; simp)) (fun _ => ?_)
  refine ok_obl rfl ?_
  refine ok_obl rfl ?_
  exact ret_ok (post := []) [] (by kernel_rfl) ⟨(congrArg Value.bool (by simp only [Cfg.Ok] at hc; simp; omega)), (by kernel_rfl)⟩


theorem plan_right0   :
    Ctr Tryz.prog 127 #[.agg #[vI 0, vI 0, vI 0, vI 0, vI 0, vI 0, vI 0, vI 0, vI 0]] [] (Ret (.bool false) []) := by
  refine ctr_of (args := [.agg #[vI 0, vI 0, vI 0, vI 0, vI 0, vI 0, vI 0, vI 0, vI 0]]) (fn := Tryz.f127) (body := B127) (nt := 37) Tryz.func127 (by kernel_rfl) (by kernel_rfl) ?_
  intro F
  refine go_exec (rs := [.tmp 2]) (by kernel_rfl) 4000 [.e 1, .e 2, .e 0, .z [0, 0, 1, 1, 1] 1 [1, 3, 4, 9]] (o := .new fun b_1 => .new fun b_2 => .obl (b_2 = b_2) (.new fun b_3 => .obl (b_3 = b_3) (.obl (b_1 = b_1) (.stop [.o [0, 0, 1, 1, 1] 1, .c [1, 0, 1, 1, 1], .c [1, 1, 1, 1]] [(1, vP b_1), (3, vP b_2), (4, vP b_3), (9, .agg #[vI 0, vI 0, vI 0, vI 0, vI 0, vI 0, vI 0, vI 0, vI 0])] [Ed975e b_1 0 0 0 0 0 0 0 0 0, E5ca89 b_2 1 4 1 1 1 4 0 4 0, E5ca89 b_3 8 32 8 8 8 96 12 96 12])))) (by kernel_rfl) ?_
  refine ok_new fun b_1 => ?_
  refine ok_new fun b_2 => ?_
  refine ok_obl rfl ?_
  refine ok_new fun b_3 => ?_
  refine ok_obl rfl ?_
  refine ok_obl rfl ?_
  refine ok_stop ?_
  refine go_call (some 10) [] Tryz.call165 (plan_parts (⟨0, 0, 0, 0, 0, 0, 0, 0, 0⟩ : Cfg)) (by kernel_rfl) ?_
  rintro v post ⟨rfl, rfl⟩
  refine go_exec (rs := [.tmp 2]) (by kernel_rfl) 4000 [.u, .w, .e 1] (o := .obl (b_2 = b_2) (.ret (.bool false) [Ed975e b_1 0 0 0 0 0 0 0 0 0, E5ca89 b_2 1 4 1 1 1 4 0 4 0, E5ca89 b_3 8 32 8 8 8 96 12 96 12])) (by kernel_rfl) ?_
  refine ok_obl rfl ?_
  exact ret_ok (post := []) [] (by kernel_rfl) ⟨rfl, (by kernel_rfl)⟩

noncomputable def B64 : Code := (Tryz.f64.body).getD .skip

theorem plan_Check (c : Cfg) (hc : c.Ok) :
    Ctr Tryz.prog 64 #[cfgV c] [] (Ret (.nilIface) []) := by
  refine ctr_of (args := [cfgV c]) (fn := Tryz.f64) (body := B64) (nt := 7) Tryz.func64 (by kernel_rfl) (by kernel_rfl) ?_
  intro F
  refine go_exec (rs := [.tmp 2]) (by kernel_rfl) 4000 [.e 0, .z [0, 0, 1] 1 [3]] (o := .new fun b_1 => .obl (b_1 = b_1) (.stop [.o [0, 0, 1] 1, .c [1, 0, 1], .c [1, 1]] [(3, cfgV c)] [Efdc04 b_1 c])) (by kernel_rfl) ?_
  refine ok_new fun b_1 => ?_
  refine ok_obl rfl ?_
  refine ok_stop ?_
  refine go_call (some 4) [] Tryz.call127 (plan_right c (by first | assumption | omega | (simp only [InK] at *; omega))) (by kernel_rfl) ?_
  rintro v post ⟨rfl, rfl⟩
  refine go_exec (rs := [.tmp 2]) (by kernel_rfl) 4000 [] (o := .ret (.nilIface) [Efdc04 b_1 c]) (by kernel_rfl) ?_
  exact ret_ok (post := []) [] (by kernel_rfl) ⟨rfl, (by kernel_rfl)⟩

noncomputable def B46 : Code := (Tryz.f46.body).getD .skip

theorem cause_New (n : Int) (h : n ≠ 0) :
    Ctr Tryz.prog 46 #[vI n] [] (Ret (.iface 42 (vI n)) []) := by
  refine ctr_of (args := [vI n]) (fn := Tryz.f46) (body := B46) (nt := 7) Tryz.func46 (by kernel_rfl) (by kernel_rfl) ?_
  intro F
  refine go_exec (rs := [.tmp 2]) (by kernel_rfl) 4000 [.sp [4] [.dead] []] (o := .br (n == 0) (.bad) (.ret (.iface 42 (vI n)) [])) (by kernel_rfl) ?_
  refine ok_br (fun h => absurd (show (n == 0) = false from (by simp; omega)) (by rw [h]; simp)) (fun _ => ?_)
  exact ret_ok (post := []) [] (by kernel_rfl) ⟨rfl, (by kernel_rfl)⟩


theorem plan_Check0   :
    Ctr Tryz.prog 64 #[.agg #[vI 0, vI 0, vI 0, vI 0, vI 0, vI 0, vI 0, vI 0, vI 0]] [] (Ret (.iface 42 (vI 1)) []) := by
  refine ctr_of (args := [.agg #[vI 0, vI 0, vI 0, vI 0, vI 0, vI 0, vI 0, vI 0, vI 0]]) (fn := Tryz.f64) (body := B64) (nt := 7) Tryz.func64 (by kernel_rfl) (by kernel_rfl) ?_
  intro F
  refine go_exec (rs := [.tmp 2]) (by kernel_rfl) 4000 [.e 0, .z [0, 0, 1] 1 [3]] (o := .new fun b_1 => .obl (b_1 = b_1) (.stop [.o [0, 0, 1] 1, .c [1, 0, 1], .c [1, 1]] [(3, .agg #[vI 0, vI 0, vI 0, vI 0, vI 0, vI 0, vI 0, vI 0, vI 0])] [Ed975e b_1 0 0 0 0 0 0 0 0 0])) (by kernel_rfl) ?_
  refine ok_new fun b_1 => ?_
  refine ok_obl rfl ?_
  refine ok_stop ?_
  refine go_call (some 4) [] Tryz.call127 (plan_right0) (by kernel_rfl) ?_
  rintro v post ⟨rfl, rfl⟩
  refine go_exec (rs := [.tmp 2]) (by kernel_rfl) 4000 [.z [0, 0, 1, 0, 1] 0 []] (o := .stop [.o [0, 0, 1, 0, 1] 0, .c [1, 0, 1, 0, 1], .c [1, 1]] [] [Ed975e b_1 0 0 0 0 0 0 0 0 0]) (by kernel_rfl) ?_
  refine ok_stop ?_
  refine go_call (some 6) [] Tryz.call46 (cause_New 1 (by first | assumption | omega | (simp only [InK] at *; omega))) (by kernel_rfl) ?_
  rintro v post ⟨rfl, rfl⟩
  refine go_exec (rs := [.tmp 2]) (by kernel_rfl) 4000 [] (o := .ret (.iface 42 (vI 1)) [Ed975e b_1 0 0 0 0 0 0 0 0 0]) (by kernel_rfl) ?_
  exact ret_ok (post := []) [] (by kernel_rfl) ⟨rfl, (by kernel_rfl)⟩

noncomputable def B121 : Code := (Tryz.f121.body).getD .skip

theorem plan_Blocks (c : Cfg) (hc : c.Ok) :
    Ctr Tryz.prog 121 #[cfgV c] [] (Ret (vI (c.n0 + c.n1)) []) := by
  refine ctr_of (args := [cfgV c]) (fn := Tryz.f121) (body := B121) (nt := 15) Tryz.func121 (by kernel_rfl) (by kernel_rfl) ?_
  intro F
  refine go_exec (rs := [.tmp 2]) (by kernel_rfl) 4000 [.e 0, .z [0, 0, 1] 1 [1, 3]] (o := .new fun b_1 => .obl (b_1 = b_1) (.stop [.o [0, 0, 1] 1, .c [1, 0, 1], .c [1, 1]] [(1, vP b_1), (3, cfgV c)] [Efdc04 b_1 c])) (by kernel_rfl) ?_
  refine ok_new fun b_1 => ?_
  refine ok_obl rfl ?_
  refine ok_stop ?_
  refine go_call (some 4) [] Tryz.call127 (plan_right c (by first | assumption | omega | (simp only [InK] at *; omega))) (by kernel_rfl) ?_
  rintro v post ⟨rfl, rfl⟩
  refine go_exec (rs := [.tmp 2]) (by kernel_rfl) 4000 [.w, .e 0, .w, .e 0, .n] (o := .obl (b_1 = b_1) (.obl (b_1 = b_1) (.obl (InK .i64 (c.n0 + c.n1)) (.ret (vI (c.n0 + c.n1)) [Efdc04 b_1 c])))) (by kernel_rfl) ?_
  refine ok_obl rfl ?_
  refine ok_obl rfl ?_
  refine ok_obl (by simp only [Cfg.Ok, InK] at *; omega) ?_
  exact ret_ok (post := []) [] (by kernel_rfl) ⟨rfl, (by kernel_rfl)⟩

noncomputable def B103 : Code := (Tryz.f103.body).getD .skip

theorem plan_Head (k : Int) (h : 0 ≤ k ∧ k ≤ 1) :
    Ctr Tryz.prog 103 #[vI k] [] (Ret (vI (3 + k)) []) := by
  refine ctr_of (args := [vI k]) (fn := Tryz.f103) (body := B103) (nt := 11) Tryz.func103 (by kernel_rfl) (by kernel_rfl) ?_
  intro F
  refine go_exec (rs := [.tmp 2]) (by kernel_rfl) 4000 [.sp [5, 4] [.dead] [.sp [8, 7] [.dead] [.n]]] (o := .obl ((decide (k < 0)) = (decide (k < 0))) (.br (decide (k < 0)) (.bad) (.obl ((decide (k > 1)) = (decide (k > 1))) (.br (decide (k > 1)) (.bad) (.obl (InK .i64 (3 + k)) (.ret (vI (3 + k)) [])))))) (by kernel_rfl) ?_
  refine ok_obl rfl ?_
  refine ok_br (fun h => absurd (show (decide (k < 0)) = false from (by simp; omega)) (by rw [h]; simp)) (fun _ => ?_)
  refine ok_obl rfl ?_
  refine ok_br (fun h => absurd (show (decide (k > 1)) = false from (by simp; omega)) (by rw [h]; simp)) (fun _ => ?_)
  refine ok_obl (by simp only [InK] at *; omega) ?_
  exact ret_ok (post := []) [] (by kernel_rfl) ⟨rfl, (by kernel_rfl)⟩

noncomputable def B100 : Code := (Tryz.f100.body).getD .skip

noncomputable def B101 : Code := (Tryz.f101.body).getD .skip

theorem clo_Ctl (c : Cfg) (b b2 : Nat) (i : Int) (hc : c.Ok) (hr : 0 ≤ i ∧ i < c.topics) :
    Ctr Tryz.prog 101 #[vP b, vP b2] [Efdc04 b c, .pts b2 [vI i] 3] (Ret (vI ((5 + c.slots + c.topics) + i * (1 + 2 * c.small))) [Efdc04 b c, .pts b2 [vI i] 3]) := by
  refine ctr_of (args := [vP b, vP b2]) (fn := Tryz.f101) (body := B101) (nt := 15) Tryz.func101 (by kernel_rfl) (by kernel_rfl) ?_
  intro F
  refine go_exec (rs := [.tmp 2]) (by kernel_rfl) 4000 [.e 0, .z [0, 1] 1 [1, 6]] (o := .obl (b = b) (.stop [.o [0, 1] 1, .c [1, 1]] [(1, vP b2), (6, cfgV c)] [Efdc04 b c, .pts b2 [vI i] 3])) (by kernel_rfl) ?_
  refine ok_obl rfl ?_
  refine ok_stop ?_
  refine go_call (some 7) [] Tryz.call102 (plan_cells c (by first | assumption | omega | (simp only [InK] at *; omega))) (by kernel_rfl) ?_
  rintro v post ⟨rfl, rfl⟩
  refine go_exec (rs := [.tmp 2]) (by kernel_rfl) 4000 [.e 1, .n, .n] (o := .obl (b2 = b2) (.obl (InK .i64 (i * (1 + 2 * c.small))) (.obl (InK .i64 ((5 + c.slots + c.topics) + (i * (1 + 2 * c.small)))) (.ret (vI ((5 + c.slots + c.topics) + (i * (1 + 2 * c.small)))) [Efdc04 b c, .pts b2 [vI i] 3])))) (by kernel_rfl) ?_
  refine ok_obl rfl ?_
  refine ok_obl (by have hnl := ctl_nl hc ‹_›; simp only [Cfg.Ok, InK] at *; omega) ?_
  refine ok_obl (by have hnl := ctl_nl hc ‹_›; simp only [Cfg.Ok, InK] at *; omega) ?_
  exact ret_ok (post := [Efdc04 b c, .pts b2 [vI i] 3]) [0, 1] (by kernel_rfl) ⟨rfl, (by kernel_rfl)⟩


theorem place_Ctl (c : Cfg) (i many : Int) (b b2 : Nat) (hc : c.Ok) (hm : many = c.topics) :
    Ctr Tryz.prog 100 #[cfgV c, vI i, vI many, .func (.func 101) #[] #[vP b, vP b2]] [Efdc04 b c, .pts b2 [vI i] 3] (Ret (vI (if (0 : Int) ≤ i ∧ i < many then ((5 + c.slots + c.topics) + i * (1 + 2 * c.small)) else -1)) [Efdc04 b c, .pts b2 [vI i] 3]) := by
  refine ctr_of (args := [cfgV c, vI i, vI many, .func (.func 101) #[] #[vP b, vP b2]]) (fn := Tryz.f100) (body := B100) (nt := 23) Tryz.func100 (by kernel_rfl) (by kernel_rfl) ?_
  intro F
  refine go_exec (rs := [.tmp 8]) (by kernel_rfl) 4000 [.e 2, .z [0, 0, 1] 1 [1, 2, 3, 9]] (o := .new fun b_1 => .obl (b_1 = b_1) (.stop [.o [0, 0, 1] 1, .c [1, 0, 1], .c [1, 1]] [(1, vI i), (2, vI many), (3, .func (.func 101) #[] #[vP b, vP b2]), (9, cfgV c)] [Efdc04 b c, .pts b2 [vI i] 3, Efdc04 b_1 c])) (by kernel_rfl) ?_
  refine ok_new fun b_1 => ?_
  refine ok_obl rfl ?_
  refine ok_stop ?_
  refine go_call (some 10) [] Tryz.call127 (plan_right c (by first | assumption | omega | (simp only [InK] at *; omega))) (by kernel_rfl) ?_
  rintro v post ⟨rfl, rfl⟩
  refine go_exec (rs := [.tmp 8]) (by kernel_rfl) 4000 [.sp [16, 14, 15] [] [.sp [20, 19] [] [.z [0, 1, 1] 1 [21]]]] (o := .obl ((decide (i < 0)) = (decide (i < 0))) (.obl ((decide (i < 0)) = (decide (i < 0))) (.br (decide (i < 0)) (.ret (vI (-1)) [Efdc04 b c, .pts b2 [vI i] 3, Efdc04 b_1 c]) (.obl ((decide (i ≥ many)) = (decide (i ≥ many))) (.br (decide (i ≥ many)) (.ret (vI (-1)) [Efdc04 b c, .pts b2 [vI i] 3, Efdc04 b_1 c]) (.stop [.o [0, 1, 1] 1, .c [1, 1, 1]] [(21, .func (.func 101) #[] #[vP b, vP b2])] [Efdc04 b c, .pts b2 [vI i] 3, Efdc04 b_1 c])))))) (by kernel_rfl) ?_
  refine ok_obl rfl ?_
  refine ok_obl rfl ?_
  refine ok_br (fun h_2 => ?_) (fun h_2 => ?_)
  · replace h_2 := decT h_2
    exact ret_ok (post := [Efdc04 b c, .pts b2 [vI i] 3]) [0, 1] (by kernel_rfl) ⟨(congrArg (Value.int .i64) (by (repeat' split) <;> omega)), (by kernel_rfl)⟩
  · replace h_2 := decF h_2
    refine ok_obl rfl ?_
    refine ok_br (fun h_3 => ?_) (fun h_3 => ?_)
    · replace h_3 := decT h_3
      exact ret_ok (post := [Efdc04 b c, .pts b2 [vI i] 3]) [0, 1] (by kernel_rfl) ⟨(congrArg (Value.int .i64) (by (repeat' split) <;> omega)), (by kernel_rfl)⟩
    · replace h_3 := decF h_3
      refine ok_stop ?_
      refine go_call (some 22) [0, 1] Tryz.call101 (clo_Ctl c b b2 i (by first | assumption | omega | (simp only [InK] at *; omega)) (by simp only [Cfg.Ok] at hc; omega)) (by kernel_rfl) ?_
      rintro v post ⟨rfl, rfl⟩
      refine go_exec (rs := [.tmp 8]) (by kernel_rfl) 4000 [] (o := .ret (vI ((5 + c.slots + c.topics) + i * (1 + 2 * c.small))) [Efdc04 b_1 c, Efdc04 b c, .pts b2 [vI i] 3]) (by kernel_rfl) ?_
      exact ret_ok (post := [Efdc04 b c, .pts b2 [vI i] 3]) [1, 2] (by kernel_rfl) ⟨(congrArg (Value.int .i64) (by (repeat' split) <;> omega)), (by kernel_rfl)⟩

noncomputable def B48 : Code := (Tryz.f48.body).getD .skip

theorem plan_Control (c : Cfg) (i : Int) (hc : c.Ok) :
    Ctr Tryz.prog 48 #[cfgV c, vI i] [] (Ret (vI (ctlAt c i)) []) := by
  refine ctr_of (args := [cfgV c, vI i]) (fn := Tryz.f48) (body := B48) (nt := 11) Tryz.func48 (by kernel_rfl) (by kernel_rfl) ?_
  intro F
  refine go_exec (rs := [.tmp 4]) (by kernel_rfl) 4000 [.e 0, .e 1, .e 0, .z [0, 1] 5 [5, 6, 8, 9]] (o := .new fun b_1 => .new fun b_2 => .obl (b_1 = b_1) (.obl (b_2 = b_2) (.obl (b_1 = b_1) (.stop [.o [0, 1] 5, .c [1, 1]] [(5, cfgV c), (6, vI i), (8, vI c.topics), (9, .func (.func 101) #[] #[vP b_1, vP b_2])] [Efdc04 b_1 c, .pts b_2 [vI i] 3])))) (by kernel_rfl) ?_
  refine ok_new fun b_1 => ?_
  refine ok_new fun b_2 => ?_
  refine ok_obl rfl ?_
  refine ok_obl rfl ?_
  refine ok_obl rfl ?_
  refine ok_stop ?_
  refine go_call (some 10) [0, 1] Tryz.call100 (place_Ctl c i c.topics b_1 b_2 (by first | assumption | omega | (simp only [InK] at *; omega)) rfl) (by kernel_rfl) ?_
  rintro v post ⟨rfl, rfl⟩
  refine go_exec (rs := [.tmp 4]) (by kernel_rfl) 4000 [] (o := .ret (vI (if (0 : Int) ≤ i ∧ i < c.topics then ((5 + c.slots + c.topics) + i * (1 + 2 * c.small)) else -1)) [Efdc04 b_1 c, .pts b_2 [vI i] 3]) (by kernel_rfl) ?_
  exact ret_ok (post := []) [] (by kernel_rfl) ⟨rfl, (by kernel_rfl)⟩

noncomputable def B141 : Code := (Tryz.f141.body).getD .skip

theorem clo_Class (c : Cfg) (b b2 : Nat) (k : Int)  :
    Ctr Tryz.prog 141 #[vP b, vP b2] [.pts b [vI k] 3, Efdc04 b2 c] (Ret (vI (if k ≤ c.n0 then 0 else 1)) [.pts b [vI k] 3, Efdc04 b2 c]) := by
  refine ctr_of (args := [vP b, vP b2]) (fn := Tryz.f141) (body := B141) (nt := 9) Tryz.func141 (by kernel_rfl) (by kernel_rfl) ?_
  intro F
  refine go_exec (rs := [.tmp 2]) (by kernel_rfl) 4000 [.e 0, .w, .e 1, .sp [8] [] []] (o := .obl (b = b) (.obl (b2 = b2) (.br (decide (k ≤ c.n0)) (.ret (vI 0) [.pts b [vI k] 3, Efdc04 b2 c]) (.ret (vI 1) [.pts b [vI k] 3, Efdc04 b2 c])))) (by kernel_rfl) ?_
  refine ok_obl rfl ?_
  refine ok_obl rfl ?_
  refine ok_br (fun h_1 => ?_) (fun h_1 => ?_)
  · replace h_1 := decT h_1
    exact ret_ok (post := [.pts b [vI k] 3, Efdc04 b2 c]) [0, 1] (by kernel_rfl) ⟨(congrArg (Value.int .i64) (by (repeat' split) <;> omega)), (by kernel_rfl)⟩
  · replace h_1 := decF h_1
    exact ret_ok (post := [.pts b [vI k] 3, Efdc04 b2 c]) [0, 1] (by kernel_rfl) ⟨(congrArg (Value.int .i64) (by (repeat' split) <;> omega)), (by kernel_rfl)⟩


theorem place_Class (c : Cfg) (i many : Int) (b b2 : Nat) (k : Int) (hc : c.Ok) :
    Ctr Tryz.prog 100 #[cfgV c, vI i, vI many, .func (.func 141) #[] #[vP b, vP b2]] [.pts b [vI k] 3, Efdc04 b2 c] (Ret (vI (if (0 : Int) ≤ i ∧ i < many then (if k ≤ c.n0 then 0 else 1) else -1)) [.pts b [vI k] 3, Efdc04 b2 c]) := by
  refine ctr_of (args := [cfgV c, vI i, vI many, .func (.func 141) #[] #[vP b, vP b2]]) (fn := Tryz.f100) (body := B100) (nt := 23) Tryz.func100 (by kernel_rfl) (by kernel_rfl) ?_
  intro F
  refine go_exec (rs := [.tmp 8]) (by kernel_rfl) 4000 [.e 2, .z [0, 0, 1] 1 [1, 2, 3, 9]] (o := .new fun b_1 => .obl (b_1 = b_1) (.stop [.o [0, 0, 1] 1, .c [1, 0, 1], .c [1, 1]] [(1, vI i), (2, vI many), (3, .func (.func 141) #[] #[vP b, vP b2]), (9, cfgV c)] [.pts b [vI k] 3, Efdc04 b2 c, Efdc04 b_1 c])) (by kernel_rfl) ?_
  refine ok_new fun b_1 => ?_
  refine ok_obl rfl ?_
  refine ok_stop ?_
  refine go_call (some 10) [] Tryz.call127 (plan_right c (by first | assumption | omega | (simp only [InK] at *; omega))) (by kernel_rfl) ?_
  rintro v post ⟨rfl, rfl⟩
  refine go_exec (rs := [.tmp 8]) (by kernel_rfl) 4000 [.sp [16, 14, 15] [] [.sp [20, 19] [] [.z [0, 1, 1] 1 [21]]]] (o := .obl ((decide (i < 0)) = (decide (i < 0))) (.obl ((decide (i < 0)) = (decide (i < 0))) (.br (decide (i < 0)) (.ret (vI (-1)) [.pts b [vI k] 3, Efdc04 b2 c, Efdc04 b_1 c]) (.obl ((decide (i ≥ many)) = (decide (i ≥ many))) (.br (decide (i ≥ many)) (.ret (vI (-1)) [.pts b [vI k] 3, Efdc04 b2 c, Efdc04 b_1 c]) (.stop [.o [0, 1, 1] 1, .c [1, 1, 1]] [(21, .func (.func 141) #[] #[vP b, vP b2])] [.pts b [vI k] 3, Efdc04 b2 c, Efdc04 b_1 c])))))) (by kernel_rfl) ?_
  refine ok_obl rfl ?_
  refine ok_obl rfl ?_
  refine ok_br (fun h_2 => ?_) (fun h_2 => ?_)
  · replace h_2 := decT h_2
    exact ret_ok (post := [.pts b [vI k] 3, Efdc04 b2 c]) [0, 1] (by kernel_rfl) ⟨(congrArg (Value.int .i64) (by (repeat' split) <;> omega)), (by kernel_rfl)⟩
  · replace h_2 := decF h_2
    refine ok_obl rfl ?_
    refine ok_br (fun h_3 => ?_) (fun h_3 => ?_)
    · replace h_3 := decT h_3
      exact ret_ok (post := [.pts b [vI k] 3, Efdc04 b2 c]) [0, 1] (by kernel_rfl) ⟨(congrArg (Value.int .i64) (by (repeat' split) <;> omega)), (by kernel_rfl)⟩
    · replace h_3 := decF h_3
      refine ok_stop ?_
      refine go_call (some 22) [0, 1] Tryz.call141 (clo_Class c b b2 k) (by kernel_rfl) ?_
      rintro v post ⟨rfl, rfl⟩
      refine go_exec (rs := [.tmp 8]) (by kernel_rfl) 4000 [] (o := .ret (vI (if k ≤ c.n0 then 0 else 1)) [Efdc04 b_1 c, .pts b [vI k] 3, Efdc04 b2 c]) (by kernel_rfl) ?_
      exact ret_ok (post := [.pts b [vI k] 3, Efdc04 b2 c]) [1, 2] (by kernel_rfl) ⟨(congrArg (Value.int .i64) (by (repeat' split) <;> omega)), (by kernel_rfl)⟩

noncomputable def B78 : Code := (Tryz.f78.body).getD .skip

theorem plan_Class (c : Cfg) (k : Int) (hc : c.Ok) (hk : InK .i64 (k - 1)) :
    Ctr Tryz.prog 78 #[cfgV c, vI k] [] (Ret (vI (clsOf c k)) []) := by
  refine ctr_of (args := [cfgV c, vI k]) (fn := Tryz.f78) (body := B78) (nt := 12) Tryz.func78 (by kernel_rfl) (by kernel_rfl) ?_
  intro F
  refine go_exec (rs := [.tmp 4]) (by kernel_rfl) 4000 [.z [0, 1] 0 [2, 3]] (o := .new fun b_1 => .new fun b_2 => .stop [.c [0, 1], .c [1, 1]] [(2, vP b_1), (3, vP b_2)] [Efdc04 b_1 c, .pts b_2 [vI k] 3]) (by kernel_rfl) ?_
  refine ok_new fun b_1 => ?_
  refine ok_new fun b_2 => ?_
  refine ok_stop ?_
  refine go_quiet (tm' := [(4, vI (if (0 : Int) ≤ (k - 1) ∧ (k - 1) < (c.n0 + c.n1) then (if k ≤ c.n0 then 0 else 1) else -1))]) (ps := [b_1 = b_1, b_2 = b_2, InK .i64 (k - 1), b_1 = b_1]) (cs := [(121, #[cfgV c], vI (c.n0 + c.n1)), (100, #[cfgV c, vI (k - 1), vI (c.n0 + c.n1), .func (.func 141) #[] #[vP b_2, vP b_1]], vI (if (0 : Int) ≤ (k - 1) ∧ (k - 1) < (c.n0 + c.n1) then (if k ≤ c.n0 then 0 else 1) else -1))]) [(0, .h (.e 0)), (1, .h (.e 1)), (2, .h (.n)), (3, .h (.e 0)), (4, .q (vI (c.n0 + c.n1))), (5, .h .w), (6, .q (vI (if (0 : Int) ≤ (k - 1) ∧ (k - 1) < (c.n0 + c.n1) then (if k ≤ c.n0 then 0 else 1) else -1))), (7, .h .w)] [4] (by kernel_rfl) (by kernel_rfl) ⟨rfl, rfl, (by simp only [InK] at *; omega), rfl, trivial⟩ ⟨⟨Tryz.call121, quiet_of [] (plan_Blocks c (by first | assumption | omega | (simp only [InK] at *; omega))) (by kernel_rfl) (by rintro v post ⟨rfl, rfl⟩; exact ⟨rfl, rfl⟩)⟩, ⟨Tryz.call100, quiet_of [1, 0] (place_Class c (k - 1) (c.n0 + c.n1) b_2 b_1 k (by first | assumption | omega | (simp only [InK] at *; omega))) (by kernel_rfl) (by rintro v post ⟨rfl, rfl⟩; exact ⟨rfl, rfl⟩)⟩, trivial⟩ ?_
  refine go_exec (rs := [.tmp 4]) (by kernel_rfl) 4000 [] (o := .ret (vI (if (0 : Int) ≤ (k - 1) ∧ (k - 1) < (c.n0 + c.n1) then (if k ≤ c.n0 then 0 else 1) else -1)) [Efdc04 b_1 c, .pts b_2 [vI k] 3]) (by kernel_rfl) ?_
  exact ret_ok (post := []) [] (by kernel_rfl) ⟨rfl, (by kernel_rfl)⟩

noncomputable def B153 : Code := (Tryz.f153.body).getD .skip

theorem clo_Block (c : Cfg) (b b2 : Nat) (k : Int) (hc : c.Ok) (hr : 0 ≤ k - 1 ∧ k - 1 < c.n0 + c.n1) :
    Ctr Tryz.prog 153 #[vP b, vP b2] [Efdc04 b c, .pts b2 [vI k] 3] (Ret (vI (5 + c.slots + c.topics + c.topics * (1 + 2 * c.small) + bMin (k - 1) c.n0 * (1 + c.s0) + (k - 1 - bMin (k - 1) c.n0) * (1 + c.s1))) [Efdc04 b c, .pts b2 [vI k] 3]) := by
  refine ctr_of (args := [vP b, vP b2]) (fn := Tryz.f153) (body := B153) (nt := 44) Tryz.func153 (by kernel_rfl) (by kernel_rfl) ?_
  intro F
  refine go_exec (rs := [.tmp 2]) (by kernel_rfl) 4000 [.e 0, .z [0, 1] 1 [0, 1, 7]] (o := .obl (b = b) (.stop [.o [0, 1] 1, .c [1, 1]] [(0, vP b), (1, vP b2), (7, cfgV c)] [Efdc04 b c, .pts b2 [vI k] 3])) (by kernel_rfl) ?_
  refine ok_obl rfl ?_
  refine ok_stop ?_
  refine go_call (some 8) [] Tryz.call102 (plan_cells c (by first | assumption | omega | (simp only [InK] at *; omega))) (by kernel_rfl) ?_
  rintro v post ⟨rfl, rfl⟩
  refine go_exec (rs := [.tmp 2]) (by kernel_rfl) 4000 [.e 0, .n, .n, .e 1, .n, .w, .e 0, .w, .e 0, .n, .n, .n, .e 1, .n, .n, .w, .e 0, .n, .n, .n] (o := .obl (b = b) (.obl (InK .i64 (c.topics * (1 + 2 * c.small))) (.obl (InK .i64 ((5 + c.slots + c.topics) + (c.topics * (1 + 2 * c.small)))) (.obl (b2 = b2) (.obl (InK .i64 (k - 1)) (.obl (b = b) (.obl (b = b) (.obl (InK .i64 (1 + c.s0)) (.obl (InK .i64 ((bMin (k - 1) c.n0) * (1 + c.s0))) (.obl (InK .i64 (((5 + c.slots + c.topics) + (c.topics * (1 + 2 * c.small))) + ((bMin (k - 1) c.n0) * (1 + c.s0)))) (.obl (b2 = b2) (.obl (InK .i64 (k - 1)) (.obl (InK .i64 ((k - 1) - (bMin (k - 1) c.n0))) (.obl (b = b) (.obl (InK .i64 (1 + c.s1)) (.obl (InK .i64 (((k - 1) - (bMin (k - 1) c.n0)) * (1 + c.s1))) (.obl (InK .i64 ((((5 + c.slots + c.topics) + (c.topics * (1 + 2 * c.small))) + ((bMin (k - 1) c.n0) * (1 + c.s0))) + (((k - 1) - (bMin (k - 1) c.n0)) * (1 + c.s1)))) (.ret (vI ((((5 + c.slots + c.topics) + (c.topics * (1 + 2 * c.small))) + ((bMin (k - 1) c.n0) * (1 + c.s0))) + (((k - 1) - (bMin (k - 1) c.n0)) * (1 + c.s1)))) [Efdc04 b c, .pts b2 [vI k] 3])))))))))))))))))) (by kernel_rfl) ?_
  refine ok_obl rfl ?_
  refine ok_obl (by have hnl := blk_nl hc hr; simp only [Cfg.Ok, InK] at *; omega) ?_
  refine ok_obl (by have hnl := blk_nl hc hr; simp only [Cfg.Ok, InK] at *; omega) ?_
  refine ok_obl rfl ?_
  refine ok_obl (by have hnl := blk_nl hc hr; simp only [Cfg.Ok, InK] at *; omega) ?_
  refine ok_obl rfl ?_
  refine ok_obl rfl ?_
  refine ok_obl (by have hnl := blk_nl hc hr; simp only [Cfg.Ok, InK] at *; omega) ?_
  refine ok_obl (by have hnl := blk_nl hc hr; simp only [Cfg.Ok, InK] at *; omega) ?_
  refine ok_obl (by have hnl := blk_nl hc hr; simp only [Cfg.Ok, InK] at *; omega) ?_
  refine ok_obl rfl ?_
  refine ok_obl (by have hnl := blk_nl hc hr; simp only [Cfg.Ok, InK] at *; omega) ?_
  refine ok_obl (by have hnl := blk_nl hc hr; simp only [Cfg.Ok, InK] at *; omega) ?_
  refine ok_obl rfl ?_
  refine ok_obl (by have hnl := blk_nl hc hr; simp only [Cfg.Ok, InK] at *; omega) ?_
  refine ok_obl (by have hnl := blk_nl hc hr; simp only [Cfg.Ok, InK] at *; omega) ?_
  refine ok_obl (by have hnl := blk_nl hc hr; simp only [Cfg.Ok, InK] at *; omega) ?_
  exact ret_ok (post := [Efdc04 b c, .pts b2 [vI k] 3]) [0, 1] (by kernel_rfl) ⟨rfl, (by kernel_rfl)⟩


theorem place_Block (c : Cfg) (i many : Int) (b b2 : Nat) (k : Int) (hc : c.Ok) (hm : many = c.n0 + c.n1) (hi : i = k - 1) :
    Ctr Tryz.prog 100 #[cfgV c, vI i, vI many, .func (.func 153) #[] #[vP b, vP b2]] [Efdc04 b c, .pts b2 [vI k] 3] (Ret (vI (if (0 : Int) ≤ i ∧ i < many then (5 + c.slots + c.topics + c.topics * (1 + 2 * c.small) + bMin (k - 1) c.n0 * (1 + c.s0) + (k - 1 - bMin (k - 1) c.n0) * (1 + c.s1)) else -1)) [Efdc04 b c, .pts b2 [vI k] 3]) := by
  refine ctr_of (args := [cfgV c, vI i, vI many, .func (.func 153) #[] #[vP b, vP b2]]) (fn := Tryz.f100) (body := B100) (nt := 23) Tryz.func100 (by kernel_rfl) (by kernel_rfl) ?_
  intro F
  refine go_exec (rs := [.tmp 8]) (by kernel_rfl) 4000 [.e 2, .z [0, 0, 1] 1 [1, 2, 3, 9]] (o := .new fun b_1 => .obl (b_1 = b_1) (.stop [.o [0, 0, 1] 1, .c [1, 0, 1], .c [1, 1]] [(1, vI i), (2, vI many), (3, .func (.func 153) #[] #[vP b, vP b2]), (9, cfgV c)] [Efdc04 b c, .pts b2 [vI k] 3, Efdc04 b_1 c])) (by kernel_rfl) ?_
  refine ok_new fun b_1 => ?_
  refine ok_obl rfl ?_
  refine ok_stop ?_
  refine go_call (some 10) [] Tryz.call127 (plan_right c (by first | assumption | omega | (simp only [InK] at *; omega))) (by kernel_rfl) ?_
  rintro v post ⟨rfl, rfl⟩
  refine go_exec (rs := [.tmp 8]) (by kernel_rfl) 4000 [.sp [16, 14, 15] [] [.sp [20, 19] [] [.z [0, 1, 1] 1 [21]]]] (o := .obl ((decide (i < 0)) = (decide (i < 0))) (.obl ((decide (i < 0)) = (decide (i < 0))) (.br (decide (i < 0)) (.ret (vI (-1)) [Efdc04 b c, .pts b2 [vI k] 3, Efdc04 b_1 c]) (.obl ((decide (i ≥ many)) = (decide (i ≥ many))) (.br (decide (i ≥ many)) (.ret (vI (-1)) [Efdc04 b c, .pts b2 [vI k] 3, Efdc04 b_1 c]) (.stop [.o [0, 1, 1] 1, .c [1, 1, 1]] [(21, .func (.func 153) #[] #[vP b, vP b2])] [Efdc04 b c, .pts b2 [vI k] 3, Efdc04 b_1 c])))))) (by kernel_rfl) ?_
  refine ok_obl rfl ?_
  refine ok_obl rfl ?_
  refine ok_br (fun h_2 => ?_) (fun h_2 => ?_)
  · replace h_2 := decT h_2
    exact ret_ok (post := [Efdc04 b c, .pts b2 [vI k] 3]) [0, 1] (by kernel_rfl) ⟨(congrArg (Value.int .i64) (by (repeat' split) <;> omega)), (by kernel_rfl)⟩
  · replace h_2 := decF h_2
    refine ok_obl rfl ?_
    refine ok_br (fun h_3 => ?_) (fun h_3 => ?_)
    · replace h_3 := decT h_3
      exact ret_ok (post := [Efdc04 b c, .pts b2 [vI k] 3]) [0, 1] (by kernel_rfl) ⟨(congrArg (Value.int .i64) (by (repeat' split) <;> omega)), (by kernel_rfl)⟩
    · replace h_3 := decF h_3
      refine ok_stop ?_
      refine go_call (some 22) [0, 1] Tryz.call153 (clo_Block c b b2 k (by first | assumption | omega | (simp only [InK] at *; omega)) (by simp only [Cfg.Ok] at hc; omega)) (by kernel_rfl) ?_
      rintro v post ⟨rfl, rfl⟩
      refine go_exec (rs := [.tmp 8]) (by kernel_rfl) 4000 [] (o := .ret (vI (5 + c.slots + c.topics + c.topics * (1 + 2 * c.small) + bMin (k - 1) c.n0 * (1 + c.s0) + (k - 1 - bMin (k - 1) c.n0) * (1 + c.s1))) [Efdc04 b_1 c, Efdc04 b c, .pts b2 [vI k] 3]) (by kernel_rfl) ?_
      exact ret_ok (post := [Efdc04 b c, .pts b2 [vI k] 3]) [1, 2] (by kernel_rfl) ⟨(congrArg (Value.int .i64) (by (repeat' split) <;> omega)), (by kernel_rfl)⟩

noncomputable def B105 : Code := (Tryz.f105.body).getD .skip

theorem plan_Block (c : Cfg) (k : Int) (hc : c.Ok) (hk : InK .i64 (k - 1)) :
    Ctr Tryz.prog 105 #[cfgV c, vI k] [] (Ret (vI (blockAt c k)) []) := by
  refine ctr_of (args := [cfgV c, vI k]) (fn := Tryz.f105) (body := B105) (nt := 12) Tryz.func105 (by kernel_rfl) (by kernel_rfl) ?_
  intro F
  refine go_exec (rs := [.tmp 4]) (by kernel_rfl) 4000 [.z [0, 1] 0 [2, 3]] (o := .new fun b_1 => .new fun b_2 => .stop [.c [0, 1], .c [1, 1]] [(2, vP b_1), (3, vP b_2)] [Efdc04 b_1 c, .pts b_2 [vI k] 3]) (by kernel_rfl) ?_
  refine ok_new fun b_1 => ?_
  refine ok_new fun b_2 => ?_
  refine ok_stop ?_
  refine go_quiet (tm' := [(4, vI (if (0 : Int) ≤ (k - 1) ∧ (k - 1) < (c.n0 + c.n1) then (5 + c.slots + c.topics + c.topics * (1 + 2 * c.small) + bMin (k - 1) c.n0 * (1 + c.s0) + (k - 1 - bMin (k - 1) c.n0) * (1 + c.s1)) else -1))]) (ps := [b_1 = b_1, b_2 = b_2, InK .i64 (k - 1), b_1 = b_1]) (cs := [(121, #[cfgV c], vI (c.n0 + c.n1)), (100, #[cfgV c, vI (k - 1), vI (c.n0 + c.n1), .func (.func 153) #[] #[vP b_1, vP b_2]], vI (if (0 : Int) ≤ (k - 1) ∧ (k - 1) < (c.n0 + c.n1) then (5 + c.slots + c.topics + c.topics * (1 + 2 * c.small) + bMin (k - 1) c.n0 * (1 + c.s0) + (k - 1 - bMin (k - 1) c.n0) * (1 + c.s1)) else -1))]) [(0, .h (.e 0)), (1, .h (.e 1)), (2, .h (.n)), (3, .h (.e 0)), (4, .q (vI (c.n0 + c.n1))), (5, .h .w), (6, .q (vI (if (0 : Int) ≤ (k - 1) ∧ (k - 1) < (c.n0 + c.n1) then (5 + c.slots + c.topics + c.topics * (1 + 2 * c.small) + bMin (k - 1) c.n0 * (1 + c.s0) + (k - 1 - bMin (k - 1) c.n0) * (1 + c.s1)) else -1))), (7, .h .w)] [4] (by kernel_rfl) (by kernel_rfl) ⟨rfl, rfl, (by simp only [InK] at *; omega), rfl, trivial⟩ ⟨⟨Tryz.call121, quiet_of [] (plan_Blocks c (by first | assumption | omega | (simp only [InK] at *; omega))) (by kernel_rfl) (by rintro v post ⟨rfl, rfl⟩; exact ⟨rfl, rfl⟩)⟩, ⟨Tryz.call100, quiet_of [0, 1] (place_Block c (k - 1) (c.n0 + c.n1) b_1 b_2 k (by first | assumption | omega | (simp only [InK] at *; omega)) rfl rfl) (by kernel_rfl) (by rintro v post ⟨rfl, rfl⟩; exact ⟨rfl, rfl⟩)⟩, trivial⟩ ?_
  refine go_exec (rs := [.tmp 4]) (by kernel_rfl) 4000 [] (o := .ret (vI (if (0 : Int) ≤ (k - 1) ∧ (k - 1) < (c.n0 + c.n1) then (5 + c.slots + c.topics + c.topics * (1 + 2 * c.small) + bMin (k - 1) c.n0 * (1 + c.s0) + (k - 1 - bMin (k - 1) c.n0) * (1 + c.s1)) else -1)) [Efdc04 b_1 c, .pts b_2 [vI k] 3]) (by kernel_rfl) ?_
  exact ret_ok (post := []) [] (by kernel_rfl) ⟨rfl, (by kernel_rfl)⟩

noncomputable def B164 : Code := (Tryz.f164.body).getD .skip

theorem clo_Load (aw : Option Addr) (cw : Nat) (ws : List Int) (j b : Nat) (v0 : Int) (hj : j < ws.length) :
    Ctr Tryz.prog 164 #[slAt aw j 1, vP b] [E54ea0 aw cw ws, .pts b [vU v0] 60] (Ret (.bool false) [E54ea0 aw cw ws, .pts b [vU (ws.getD j 0)] 60]) := by
  refine ctr_of (args := [slAt aw j 1, vP b]) (fn := Tryz.f164) (body := B164) (nt := 7) Tryz.func164 (by kernel_rfl) (by kernel_rfl) ?_
  intro F
  refine go_exec (rs := [.tmp 3]) (by kernel_rfl) 4000 [.j 0 j, .e 1] (o := .obl (slAt aw j 1 = slAt aw j 1) (.obl (j < ws.length) (.obl (b = b) (.ret (.bool false) [E54ea0 aw cw ws, .pts b [vU (ws.getD j 0)] 60])))) (by kernel_rfl) ?_
  refine ok_obl rfl ?_
  refine ok_obl (by first | omega | (simp; done) | (simp; omega)) ?_
  refine ok_obl rfl ?_
  exact ret_ok (post := [E54ea0 aw cw ws, .pts b [vU (ws.getD j 0)] 60]) [0, 1] (by kernel_rfl) ⟨rfl, (by kernel_rfl)⟩

noncomputable def B155 : Code := (Tryz.f155.body).getD .skip

theorem clo_Store (aw : Option Addr) (cw : Nat) (ws : List Int) (j b : Nat) (v0 : Int) (hj : j < ws.length) :
    Ctr Tryz.prog 155 #[slAt aw j 1, vP b] [E54ea0 aw cw ws, .pts b [vU v0] 60] (Ret (.bool true) [E54ea0 aw cw (ws.set j v0), .pts b [vU v0] 60]) := by
  refine ctr_of (args := [slAt aw j 1, vP b]) (fn := Tryz.f155) (body := B155) (nt := 7) Tryz.func155 (by kernel_rfl) (by kernel_rfl) ?_
  intro F
  refine go_exec (rs := [.tmp 3]) (by kernel_rfl) 4000 [.e 1, .j 0 j] (o := .obl (b = b) (.obl (slAt aw j 1 = slAt aw j 1) (.obl (j < ws.length) (.ex fun x_1 : Int => .obl ([vU v0] = (encI .u64) x_1) (.ret (.bool true) [E54ea0 aw cw (ws.set j x_1), .pts b [vU v0] 60]))))) (by kernel_rfl) ?_
  refine ok_obl rfl ?_
  refine ok_obl rfl ?_
  refine ok_obl (by first | omega | (simp; done) | (simp; omega)) ?_
  refine ok_ex (v0 : Int) ?_
  refine ok_obl rfl ?_
  exact ret_ok (post := [E54ea0 aw cw (ws.set j v0), .pts b [vU v0] 60]) [0, 1] (by kernel_rfl) ⟨rfl, (by kernel_rfl)⟩

noncomputable def B179 : Code := (Tryz.f179.body).getD .skip

theorem atomic_Add (ba : Nat) (sa : Option Addr) (sn sc : Nat) (s k1 k2 k3 : Int) (k4 : Bool) (d : Int) (h : InK .i64 (s + d)) :
    Ctr Tryz.prog 179 #[.pointer (some ⟨ba, 1, none⟩), vI d] [Ef0385 ba sa sn sc s k1 k2 k3 k4] (Ret (vI (s + d)) [Ef0385 ba sa sn sc (s + d) k1 k2 k3 k4]) := by
  refine ctr_of (args := [.pointer (some ⟨ba, 1, none⟩), vI d]) (fn := Tryz.f179) (body := B179) (nt := 10) Tryz.func179 (by kernel_rfl) (by kernel_rfl) ?_
  intro F
  refine go_exec (rs := [.tmp 4]) (by kernel_rfl) 4000 [.z [0, 1] 4 [7, 8]] (o := .stop [.o [0, 1] 4, .c [1, 1]] [(7, .pointer (some ⟨ba, 1, none⟩)), (8, vI d)] [Ef0385 ba sa sn sc s k1 k2 k3 k4]) (by kernel_rfl) ?_
  refine ok_stop ?_
  refine go_extern (some 9) (f := 194) (args := #[.pointer (some ⟨ba, 1, none⟩), vI d]) (by kernel_rfl) (ext_add Tryz.func194 (by kernel_rfl) (by kernel_rfl) (by kernel_rfl) .i64 (by kernel_rfl)  (L := [Ef0385 ba sa sn sc s k1 k2 k3 k4]) (i := 0) (b := ba) (off := 1) (cs := [.slice sa sn sc, vI s, vI k1, vI k2, vU k3, .bool k4, .nilIface]) (t := 144) (x := s) (y := d) (by kernel_rfl) (by kernel_rfl) (by simp only [InK] at *; omega)) ?_
  rintro v L2 ⟨rfl, rfl⟩
  refine go_exec (rs := [.tmp 4]) (by kernel_rfl) 4000 [] (o := .ret (vI (s + d)) [Ef0385 ba sa sn sc (s + d) k1 k2 k3 k4]) (by kernel_rfl) ?_
  exact ret_ok (post := [Ef0385 ba sa sn sc (s + d) k1 k2 k3 k4]) [0] (by kernel_rfl) ⟨rfl, (by kernel_rfl)⟩

noncomputable def B154 : Code := (Tryz.f154.body).getD .skip

theorem step_Load (ba : Nat) (A : Ar) (i : Int) (b : Nat) (v0 : Int) (hn : A.ws.length = A.n) (hi : 0 ≤ i ∧ i < A.n) (hs : 0 ≤ A.steps ∧ A.steps ≤ 1000000000) :
    Ctr Tryz.prog 154 #[vP ba, vI 1, vI i, .func (.func 164) #[] #[vP b]] [E3504b ba A, E35fb1 A, .pts b [vU v0] 60] (Ret (.bool false) [E3504b ba (A.load i), E35fb1 (A.load i), .pts b [vU (A.ws.getD i.toNat 0)] 60]) := by
  refine ctr_of (args := [vP ba, vI 1, vI i, .func (.func 164) #[] #[vP b]]) (fn := Tryz.f154) (body := B154) (nt := 71) Tryz.func154 (by kernel_rfl) (by kernel_rfl) ?_
  intro F
  refine go_exec (rs := [.tmp 8]) (by kernel_rfl) 4000 [.z [0, 1, 1] 3 [0, 1, 2, 3, 13]] (o := .stop [.o [0, 1, 1] 3, .c [1, 1, 1]] [(0, vP ba), (1, vI 1), (2, vI i), (3, .func (.func 164) #[] #[vP b]), (13, .pointer (some ⟨ba, 1, none⟩))] [E3504b ba A, E35fb1 A, .pts b [vU v0] 60]) (by kernel_rfl) ?_
  refine ok_stop ?_
  refine go_call (some 14) [0] Tryz.call179 (atomic_Add ba A.aw A.n A.cw A.steps A.lk A.lw A.lv A.lc 1 (by first | assumption | omega | (simp only [InK] at *; omega))) (by kernel_rfl) ?_
  rintro v post ⟨rfl, rfl⟩
  refine go_exec (rs := [.tmp 8]) (by kernel_rfl) 4000 [.e 2, .sp [23, 22] [.dead] [.e 2, .sp [31, 30] [.dead] [.e 2, .s 0, .z [0, 1, 1, 1, 1, 1] 8 [0, 2, 43, 44, 50]]]] (o := .obl (ba = ba) (.obl ((decide (i < 0)) = (decide (i < 0))) (.br (decide (i < 0)) (.bad) (.obl (ba = ba) (.obl ((decide (i ≥ ((A.n : Nat) : Int))) = (decide (i ≥ ((A.n : Nat) : Int)))) (.br (decide (i ≥ ((A.n : Nat) : Int))) (.bad) (.obl (ba = ba) (.obl (A.aw = A.aw ∧ A.n = A.ws.length) (.obl ((0 : Int) ≤ i ∧ i < ((A.ws.length : Nat) : Int)) (.stop [.o [0, 1, 1, 1, 1, 1] 8, .c [1, 1, 1, 1, 1, 1]] [(0, vP ba), (2, vI i), (43, vP ba), (44, .func (.func 164) #[] #[vP b]), (50, slAt A.aw i.toNat 1)] [E35fb1 A, .pts b [vU v0] 60, Ea266b ba A (A.steps + 1) 1 i 0 false])))))))))) (by kernel_rfl) ?_
  refine ok_obl rfl ?_
  refine ok_obl rfl ?_
  refine ok_br (fun h => absurd (show (decide (i < 0)) = false from (by simp; omega)) (by rw [h]; simp)) (fun _ => ?_)
  refine ok_obl rfl ?_
  refine ok_obl rfl ?_
  refine ok_br (fun h => absurd (show (decide (i ≥ ((A.n : Nat) : Int))) = false from (by simp; omega)) (by rw [h]; simp)) (fun _ => ?_)
  refine ok_obl rfl ?_
  refine ok_obl ⟨rfl, (by first | rfl | omega | (simp; done) | (simp; omega))⟩ ?_
  refine ok_obl (by first | omega | (simp; omega)) ?_
  refine ok_stop ?_
  refine go_call (some 51) [0, 1] Tryz.call164 (clo_Load A.aw A.cw A.ws i.toNat b v0 (by first | assumption | omega | (simp only [InK] at *; omega))) (by kernel_rfl) ?_
  rintro v post ⟨rfl, rfl⟩
  refine go_exec (rs := [.tmp 8]) (by kernel_rfl) 4000 [.e 0, .e 0, .s 1, .j 1 i.toNat, .e 0, .e 0] (o := .obl (ba = ba) (.obl (ba = ba) (.obl (A.aw = A.aw ∧ A.n = A.ws.length) (.obl ((0 : Int) ≤ i ∧ i < ((A.ws.length : Nat) : Int)) (.obl (slAt A.aw i.toNat 1 = slAt A.aw i.toNat 1) (.obl (i.toNat < A.ws.length) (.obl (ba = ba) (.obl (ba = ba) (.ret (.bool false) [Ea266b ba A (A.steps + 1) 1 i (A.ws.getD i.toNat 0) false, E35fb1 A, .pts b [vU (A.ws.getD i.toNat 0)] 60]))))))))) (by kernel_rfl) ?_
  refine ok_obl rfl ?_
  refine ok_obl rfl ?_
  refine ok_obl ⟨rfl, (by first | rfl | omega | (simp; done) | (simp; omega))⟩ ?_
  refine ok_obl (by first | omega | (simp; omega)) ?_
  refine ok_obl rfl ?_
  refine ok_obl (by first | omega | (simp; omega)) ?_
  refine ok_obl rfl ?_
  refine ok_obl rfl ?_
  exact ret_ok (post := [Ea266b ba A (A.steps + 1) 1 i (A.ws.getD i.toNat 0) false, E35fb1 A, .pts b [vU (A.ws.getD i.toNat 0)] 60]) [0, 1, 2] (by kernel_rfl) ⟨rfl, (by kernel_rfl)⟩


theorem step_Store (ba : Nat) (A : Ar) (i : Int) (b : Nat) (v0 : Int) (hn : A.ws.length = A.n) (hi : 0 ≤ i ∧ i < A.n) (hs : 0 ≤ A.steps ∧ A.steps ≤ 1000000000) :
    Ctr Tryz.prog 154 #[vP ba, vI 2, vI i, .func (.func 155) #[] #[vP b]] [E3504b ba A, E35fb1 A, .pts b [vU v0] 60] (Ret (.bool true) [E3504b ba (A.store i v0), E35fb1 (A.store i v0), .pts b [vU v0] 60]) := by
  refine ctr_of (args := [vP ba, vI 2, vI i, .func (.func 155) #[] #[vP b]]) (fn := Tryz.f154) (body := B154) (nt := 71) Tryz.func154 (by kernel_rfl) (by kernel_rfl) ?_
  intro F
  refine go_exec (rs := [.tmp 8]) (by kernel_rfl) 4000 [.z [0, 1, 1] 3 [0, 1, 2, 3, 13]] (o := .stop [.o [0, 1, 1] 3, .c [1, 1, 1]] [(0, vP ba), (1, vI 2), (2, vI i), (3, .func (.func 155) #[] #[vP b]), (13, .pointer (some ⟨ba, 1, none⟩))] [E3504b ba A, E35fb1 A, .pts b [vU v0] 60]) (by kernel_rfl) ?_
  refine ok_stop ?_
  refine go_call (some 14) [0] Tryz.call179 (atomic_Add ba A.aw A.n A.cw A.steps A.lk A.lw A.lv A.lc 1 (by first | assumption | omega | (simp only [InK] at *; omega))) (by kernel_rfl) ?_
  rintro v post ⟨rfl, rfl⟩
  refine go_exec (rs := [.tmp 8]) (by kernel_rfl) 4000 [.e 2, .sp [23, 22] [.dead] [.e 2, .sp [31, 30] [.dead] [.e 2, .s 0, .z [0, 1, 1, 1, 1, 1] 8 [0, 2, 43, 44, 50]]]] (o := .obl (ba = ba) (.obl ((decide (i < 0)) = (decide (i < 0))) (.br (decide (i < 0)) (.bad) (.obl (ba = ba) (.obl ((decide (i ≥ ((A.n : Nat) : Int))) = (decide (i ≥ ((A.n : Nat) : Int)))) (.br (decide (i ≥ ((A.n : Nat) : Int))) (.bad) (.obl (ba = ba) (.obl (A.aw = A.aw ∧ A.n = A.ws.length) (.obl ((0 : Int) ≤ i ∧ i < ((A.ws.length : Nat) : Int)) (.stop [.o [0, 1, 1, 1, 1, 1] 8, .c [1, 1, 1, 1, 1, 1]] [(0, vP ba), (2, vI i), (43, vP ba), (44, .func (.func 155) #[] #[vP b]), (50, slAt A.aw i.toNat 1)] [E35fb1 A, .pts b [vU v0] 60, Ea266b ba A (A.steps + 1) 2 i 0 false])))))))))) (by kernel_rfl) ?_
  refine ok_obl rfl ?_
  refine ok_obl rfl ?_
  refine ok_br (fun h => absurd (show (decide (i < 0)) = false from (by simp; omega)) (by rw [h]; simp)) (fun _ => ?_)
  refine ok_obl rfl ?_
  refine ok_obl rfl ?_
  refine ok_br (fun h => absurd (show (decide (i ≥ ((A.n : Nat) : Int))) = false from (by simp; omega)) (by rw [h]; simp)) (fun _ => ?_)
  refine ok_obl rfl ?_
  refine ok_obl ⟨rfl, (by first | rfl | omega | (simp; done) | (simp; omega))⟩ ?_
  refine ok_obl (by first | omega | (simp; omega)) ?_
  refine ok_stop ?_
  refine go_call (some 51) [0, 1] Tryz.call155 (clo_Store A.aw A.cw A.ws i.toNat b v0 (by first | assumption | omega | (simp only [InK] at *; omega))) (by kernel_rfl) ?_
  rintro v post ⟨rfl, rfl⟩
  refine go_exec (rs := [.tmp 8]) (by kernel_rfl) 4000 [.e 0, .e 0, .s 1, .j 1 i.toNat, .e 0, .e 0] (o := .obl (ba = ba) (.obl (ba = ba) (.obl (A.aw = A.aw ∧ A.n = (A.ws.set i.toNat v0).length) (.obl ((0 : Int) ≤ i ∧ i < (((A.ws.set i.toNat v0).length : Nat) : Int)) (.obl (slAt A.aw i.toNat 1 = slAt A.aw i.toNat 1) (.obl (i.toNat < (A.ws.set i.toNat v0).length) (.obl (ba = ba) (.obl (ba = ba) (.ret (.bool true) [Ea266b ba A (A.steps + 1) 2 i ((A.ws.set i.toNat v0).getD i.toNat 0) true, E20910 A (A.ws.set i.toNat v0), .pts b [vU v0] 60]))))))))) (by kernel_rfl) ?_
  refine ok_obl rfl ?_
  refine ok_obl rfl ?_
  refine ok_obl ⟨rfl, (by first | rfl | omega | (simp; done) | (simp; omega))⟩ ?_
  refine ok_obl (by first | omega | (simp; omega)) ?_
  refine ok_obl rfl ?_
  refine ok_obl (by first | omega | (simp; omega)) ?_
  refine ok_obl rfl ?_
  refine ok_obl rfl ?_
  exact ret_ok (post := [Ea266b ba A (A.steps + 1) 2 i ((A.ws.set i.toNat v0).getD i.toNat 0) true, E20910 A (A.ws.set i.toNat v0), .pts b [vU v0] 60]) [0, 1, 2] (by kernel_rfl) ⟨rfl, (by kernel_rfl)⟩

noncomputable def B116 : Code := (Tryz.f116.body).getD .skip

theorem arena_Load (ba : Nat) (A : Ar) (i : Int) (hn : A.ws.length = A.n) (hi : 0 ≤ i ∧ i < A.n) (hs : 0 ≤ A.steps ∧ A.steps ≤ 1000000000) :
    Ctr Tryz.prog 116 #[vP ba, vI i] [E3504b ba A, E35fb1 A] (Ret (vU (A.ws.getD i.toNat 0)) [E3504b ba (A.load i), E35fb1 (A.load i)]) := by
  refine ctr_of (args := [vP ba, vI i]) (fn := Tryz.f116) (body := B116) (nt := 10) Tryz.func116 (by kernel_rfl) (by kernel_rfl) ?_
  intro F
  refine go_exec (rs := [.cell 4 60]) (by kernel_rfl) 4000 [.z [0, 1] 3 [4, 5, 6, 7]] (o := .new fun b_1 => .stop [.o [0, 1] 3, .c [1, 1]] [(4, vP b_1), (5, vP ba), (6, vI i), (7, .func (.func 164) #[] #[vP b_1])] [E3504b ba A, E35fb1 A, .pts b_1 [vU 0] 60]) (by kernel_rfl) ?_
  refine ok_new fun b_1 => ?_
  refine ok_stop ?_
  refine go_call (some 8) [0, 1, 2] Tryz.call154 (step_Load ba A i b_1 0 (by first | assumption | omega | (simp only [InK] at *; omega)) (by first | assumption | omega | (simp only [InK] at *; omega)) (by first | assumption | omega | (simp only [InK] at *; omega))) (by kernel_rfl) ?_
  rintro v post ⟨rfl, rfl⟩
  refine go_exec (rs := [.cell 4 60]) (by kernel_rfl) 4000 [.e 2, .e 2, .e 2] (o := .obl (b_1 = b_1) (.obl (b_1 = b_1) (.obl (b_1 = b_1) (.ret (vU (A.ws.getD i.toNat 0)) [E3504b ba (A.load i), E35fb1 (A.load i), .pts b_1 [vU (A.ws.getD i.toNat 0)] 60])))) (by kernel_rfl) ?_
  refine ok_obl rfl ?_
  refine ok_obl rfl ?_
  refine ok_obl rfl ?_
  exact ret_ok (post := [E3504b ba (A.load i), E35fb1 (A.load i)]) [0, 1] (by kernel_rfl) ⟨rfl, (by kernel_rfl)⟩

noncomputable def B107 : Code := (Tryz.f107.body).getD .skip

theorem arena_Store (ba : Nat) (A : Ar) (i v : Int) (hn : A.ws.length = A.n) (hi : 0 ≤ i ∧ i < A.n) (hs : 0 ≤ A.steps ∧ A.steps ≤ 1000000000) :
    Ctr Tryz.prog 107 #[vP ba, vI i, vU v] [E3504b ba A, E35fb1 A] (Ret (undef) [E3504b ba (A.store i v), E35fb1 (A.store i v)]) := by
  refine ctr_of (args := [vP ba, vI i, vU v]) (fn := Tryz.f107) (body := B107) (nt := 10) Tryz.func107 (by kernel_rfl) (by kernel_rfl) ?_
  intro F
  refine go_exec (rs := []) (by kernel_rfl) 4000 [.z [1] 3 [6, 7, 8]] (o := .new fun b_1 => .stop [.o [1] 3] [(6, vP ba), (7, vI i), (8, .func (.func 155) #[] #[vP b_1])] [E3504b ba A, E35fb1 A, .pts b_1 [vU v] 60]) (by kernel_rfl) ?_
  refine ok_new fun b_1 => ?_
  refine ok_stop ?_
  refine go_call (some 9) [0, 1, 2] Tryz.call154 (step_Store ba A i b_1 v (by first | assumption | omega | (simp only [InK] at *; omega)) (by first | assumption | omega | (simp only [InK] at *; omega)) (by first | assumption | omega | (simp only [InK] at *; omega))) (by kernel_rfl) ?_
  rintro v post ⟨rfl, rfl⟩
  refine go_exec (rs := []) (by kernel_rfl) 4000 [] (o := .ret (undef) [E3504b ba (A.store i v), E35fb1 (A.store i v), .pts b_1 [vU v] 60]) (by kernel_rfl) ?_
  exact ret_ok (post := [E3504b ba (A.store i v), E35fb1 (A.store i v)]) [0, 1] (by kernel_rfl) ⟨rfl, (by kernel_rfl)⟩

noncomputable def B198 : Code := (Tryz.f198.body).getD .skip

theorem clo_SwapT (aw : Option Addr) (cw : Nat) (ws : List Int) (j b b2 : Nat) (old new : Int) (hj : j < ws.length) (hw : ws.getD j 0 = old) :
    Ctr Tryz.prog 198 #[slAt aw j 1, vP b, vP b2] [E54ea0 aw cw ws, .pts b [vU old] 60, .pts b2 [vU new] 60] (Ret (.bool true) [E54ea0 aw cw (ws.set j new), .pts b [vU old] 60, .pts b2 [vU new] 60]) := by
  refine ctr_of (args := [slAt aw j 1, vP b, vP b2]) (fn := Tryz.f198) (body := B198) (nt := 13) Tryz.func198 (by kernel_rfl) (by kernel_rfl) ?_
  intro F
  refine go_exec (rs := [.tmp 4]) (by kernel_rfl) 4000 [.z [0, 0, 1] 0 [0, 1, 2]] (o := .stop [.c [0, 0, 1], .c [1, 0, 1], .c [1, 1]] [(0, slAt aw j 1), (1, vP b), (2, vP b2)] [E54ea0 aw cw ws, .pts b [vU old] 60, .pts b2 [vU new] 60]) (by kernel_rfl) ?_
  refine ok_stop ?_
  refine go_quiet (tm' := [(0, slAt aw j 1), (2, vP b2), (9, .bool false)]) (ps := [slAt aw j 1 = slAt aw j 1, j < ws.length, b = b, ((ws.getD j 0) != old) = false]) (cs := []) [(0, .h .w), (1, .h .w), (2, .h (.j 0 j)), (3, .h (.e 1)), (4, .h (.t false))] [0, 2, 9] (by kernel_rfl) (by kernel_rfl) ⟨rfl, (by first | omega | (simp; done) | (simp; omega)), rfl, (by rw [hw]; simp), trivial⟩ trivial ?_
  refine go_exec (rs := [.tmp 4]) (by kernel_rfl) 4000 [.e 2, .j 0 j] (o := .obl (b2 = b2) (.obl (slAt aw j 1 = slAt aw j 1) (.obl (j < ws.length) (.ex fun x_1 : Int => .obl ([vU new] = (encI .u64) x_1) (.ret (.bool true) [E54ea0 aw cw (ws.set j x_1), .pts b [vU old] 60, .pts b2 [vU new] 60]))))) (by kernel_rfl) ?_
  refine ok_obl rfl ?_
  refine ok_obl rfl ?_
  refine ok_obl (by first | omega | (simp; done) | (simp; omega)) ?_
  refine ok_ex (new : Int) ?_
  refine ok_obl rfl ?_
  exact ret_ok (post := [E54ea0 aw cw (ws.set j new), .pts b [vU old] 60, .pts b2 [vU new] 60]) [0, 1, 2] (by kernel_rfl) ⟨rfl, (by kernel_rfl)⟩


theorem step_SwapT (ba : Nat) (A : Ar) (i : Int) (b b2 : Nat) (old new : Int) (hn : A.ws.length = A.n) (hi : 0 ≤ i ∧ i < A.n) (hs : 0 ≤ A.steps ∧ A.steps ≤ 1000000000) (hw : A.ws.getD i.toNat 0 = old) :
    Ctr Tryz.prog 154 #[vP ba, vI 3, vI i, .func (.func 198) #[] #[vP b, vP b2]] [E3504b ba A, E35fb1 A, .pts b [vU old] 60, .pts b2 [vU new] 60] (Ret (.bool true) [E3504b ba (A.swapT i new), E35fb1 (A.swapT i new), .pts b [vU old] 60, .pts b2 [vU new] 60]) := by
  refine ctr_of (args := [vP ba, vI 3, vI i, .func (.func 198) #[] #[vP b, vP b2]]) (fn := Tryz.f154) (body := B154) (nt := 71) Tryz.func154 (by kernel_rfl) (by kernel_rfl) ?_
  intro F
  refine go_exec (rs := [.tmp 8]) (by kernel_rfl) 4000 [.z [0, 1, 1] 3 [0, 1, 2, 3, 13]] (o := .stop [.o [0, 1, 1] 3, .c [1, 1, 1]] [(0, vP ba), (1, vI 3), (2, vI i), (3, .func (.func 198) #[] #[vP b, vP b2]), (13, .pointer (some ⟨ba, 1, none⟩))] [E3504b ba A, E35fb1 A, .pts b [vU old] 60, .pts b2 [vU new] 60]) (by kernel_rfl) ?_
  refine ok_stop ?_
  refine go_call (some 14) [0] Tryz.call179 (atomic_Add ba A.aw A.n A.cw A.steps A.lk A.lw A.lv A.lc 1 (by first | assumption | omega | (simp only [InK] at *; omega))) (by kernel_rfl) ?_
  rintro v post ⟨rfl, rfl⟩
  refine go_exec (rs := [.tmp 8]) (by kernel_rfl) 4000 [.e 3, .sp [23, 22] [.dead] [.e 3, .sp [31, 30] [.dead] [.e 3, .s 0, .z [0, 1, 1, 1, 1, 1] 8 [0, 2, 43, 44, 50]]]] (o := .obl (ba = ba) (.obl ((decide (i < 0)) = (decide (i < 0))) (.br (decide (i < 0)) (.bad) (.obl (ba = ba) (.obl ((decide (i ≥ ((A.n : Nat) : Int))) = (decide (i ≥ ((A.n : Nat) : Int)))) (.br (decide (i ≥ ((A.n : Nat) : Int))) (.bad) (.obl (ba = ba) (.obl (A.aw = A.aw ∧ A.n = A.ws.length) (.obl ((0 : Int) ≤ i ∧ i < ((A.ws.length : Nat) : Int)) (.stop [.o [0, 1, 1, 1, 1, 1] 8, .c [1, 1, 1, 1, 1, 1]] [(0, vP ba), (2, vI i), (43, vP ba), (44, .func (.func 198) #[] #[vP b, vP b2]), (50, slAt A.aw i.toNat 1)] [E35fb1 A, .pts b [vU old] 60, .pts b2 [vU new] 60, Ea266b ba A (A.steps + 1) 3 i 0 false])))))))))) (by kernel_rfl) ?_
  refine ok_obl rfl ?_
  refine ok_obl rfl ?_
  refine ok_br (fun h => absurd (show (decide (i < 0)) = false from (by simp; omega)) (by rw [h]; simp)) (fun _ => ?_)
  refine ok_obl rfl ?_
  refine ok_obl rfl ?_
  refine ok_br (fun h => absurd (show (decide (i ≥ ((A.n : Nat) : Int))) = false from (by simp; omega)) (by rw [h]; simp)) (fun _ => ?_)
  refine ok_obl rfl ?_
  refine ok_obl ⟨rfl, (by first | rfl | omega | (simp; done) | (simp; omega))⟩ ?_
  refine ok_obl (by first | omega | (simp; omega)) ?_
  refine ok_stop ?_
  refine go_call (some 51) [0, 1, 2] Tryz.call198 (clo_SwapT A.aw A.cw A.ws i.toNat b b2 old new (by first | assumption | omega | (simp only [InK] at *; omega)) (by first | assumption | omega | (simp only [InK] at *; omega))) (by kernel_rfl) ?_
  rintro v post ⟨rfl, rfl⟩
  refine go_exec (rs := [.tmp 8]) (by kernel_rfl) 4000 [.e 0, .e 0, .s 1, .j 1 i.toNat, .e 0, .e 0] (o := .obl (ba = ba) (.obl (ba = ba) (.obl (A.aw = A.aw ∧ A.n = (A.ws.set i.toNat new).length) (.obl ((0 : Int) ≤ i ∧ i < (((A.ws.set i.toNat new).length : Nat) : Int)) (.obl (slAt A.aw i.toNat 1 = slAt A.aw i.toNat 1) (.obl (i.toNat < (A.ws.set i.toNat new).length) (.obl (ba = ba) (.obl (ba = ba) (.ret (.bool true) [Ea266b ba A (A.steps + 1) 3 i ((A.ws.set i.toNat new).getD i.toNat 0) true, E20910 A (A.ws.set i.toNat new), .pts b [vU old] 60, .pts b2 [vU new] 60]))))))))) (by kernel_rfl) ?_
  refine ok_obl rfl ?_
  refine ok_obl rfl ?_
  refine ok_obl ⟨rfl, (by first | rfl | omega | (simp; done) | (simp; omega))⟩ ?_
  refine ok_obl (by first | omega | (simp; omega)) ?_
  refine ok_obl rfl ?_
  refine ok_obl (by first | omega | (simp; omega)) ?_
  refine ok_obl rfl ?_
  refine ok_obl rfl ?_
  exact ret_ok (post := [Ea266b ba A (A.steps + 1) 3 i ((A.ws.set i.toNat new).getD i.toNat 0) true, E20910 A (A.ws.set i.toNat new), .pts b [vU old] 60, .pts b2 [vU new] 60]) [0, 1, 2, 3] (by kernel_rfl) ⟨rfl, (by kernel_rfl)⟩

noncomputable def B185 : Code := (Tryz.f185.body).getD .skip

theorem arena_SwapT (ba : Nat) (A : Ar) (i old new : Int) (hn : A.ws.length = A.n) (hi : 0 ≤ i ∧ i < A.n) (hs : 0 ≤ A.steps ∧ A.steps ≤ 1000000000) (hw : A.ws.getD i.toNat 0 = old) :
    Ctr Tryz.prog 185 #[vP ba, vI i, vU old, vU new] [E3504b ba A, E35fb1 A] (Ret (.bool true) [E3504b ba (A.swapT i new), E35fb1 (A.swapT i new)]) := by
  refine ctr_of (args := [vP ba, vI i, vU old, vU new]) (fn := Tryz.f185) (body := B185) (nt := 13) Tryz.func185 (by kernel_rfl) (by kernel_rfl) ?_
  intro F
  refine go_exec (rs := [.tmp 8]) (by kernel_rfl) 4000 [.z [0, 1] 3 [9, 10, 11]] (o := .new fun b_1 => .new fun b_2 => .stop [.o [0, 1] 3, .c [1, 1]] [(9, vP ba), (10, vI i), (11, .func (.func 198) #[] #[vP b_1, vP b_2])] [E3504b ba A, E35fb1 A, .pts b_1 [vU old] 60, .pts b_2 [vU new] 60]) (by kernel_rfl) ?_
  refine ok_new fun b_1 => ?_
  refine ok_new fun b_2 => ?_
  refine ok_stop ?_
  refine go_call (some 12) [0, 1, 2, 3] Tryz.call154 (step_SwapT ba A i b_1 b_2 old new (by first | assumption | omega | (simp only [InK] at *; omega)) (by first | assumption | omega | (simp only [InK] at *; omega)) (by first | assumption | omega | (simp only [InK] at *; omega)) (by first | assumption | omega | (simp only [InK] at *; omega))) (by kernel_rfl) ?_
  rintro v post ⟨rfl, rfl⟩
  refine go_exec (rs := [.tmp 8]) (by kernel_rfl) 4000 [] (o := .ret (.bool true) [E3504b ba (A.swapT i new), E35fb1 (A.swapT i new), .pts b_1 [vU old] 60, .pts b_2 [vU new] 60]) (by kernel_rfl) ?_
  exact ret_ok (post := [E3504b ba (A.swapT i new), E35fb1 (A.swapT i new)]) [0, 1] (by kernel_rfl) ⟨rfl, (by kernel_rfl)⟩


theorem clo_SwapF (aw : Option Addr) (cw : Nat) (ws : List Int) (j b b2 : Nat) (old new : Int) (hj : j < ws.length) (hw : ws.getD j 0 ≠ old) :
    Ctr Tryz.prog 198 #[slAt aw j 1, vP b, vP b2] [E54ea0 aw cw ws, .pts b [vU old] 60, .pts b2 [vU new] 60] (Ret (.bool false) [E54ea0 aw cw ws, .pts b [vU old] 60, .pts b2 [vU new] 60]) := by
  refine ctr_of (args := [slAt aw j 1, vP b, vP b2]) (fn := Tryz.f198) (body := B198) (nt := 13) Tryz.func198 (by kernel_rfl) (by kernel_rfl) ?_
  intro F
  refine go_exec (rs := [.tmp 4]) (by kernel_rfl) 4000 [.z [0, 0, 1] 0 [0, 1, 2]] (o := .stop [.c [0, 0, 1], .c [1, 0, 1], .c [1, 1]] [(0, slAt aw j 1), (1, vP b), (2, vP b2)] [E54ea0 aw cw ws, .pts b [vU old] 60, .pts b2 [vU new] 60]) (by kernel_rfl) ?_
  refine ok_stop ?_
  refine go_quiet (tm' := [(0, slAt aw j 1), (2, vP b2), (9, .bool true)]) (ps := [slAt aw j 1 = slAt aw j 1, j < ws.length, b = b, ((ws.getD j 0) != old) = true]) (cs := []) [(0, .h .w), (1, .h .w), (2, .h (.j 0 j)), (3, .h (.e 1)), (4, .h (.t true))] [0, 2, 9] (by kernel_rfl) (by kernel_rfl) ⟨rfl, (by first | omega | (simp; done) | (simp; omega)), rfl, (bne_iff_ne.2 hw), trivial⟩ trivial ?_
  refine go_exec (rs := [.tmp 4]) (by kernel_rfl) 4000 [] (o := .ret (.bool false) [E54ea0 aw cw ws, .pts b [vU old] 60, .pts b2 [vU new] 60]) (by kernel_rfl) ?_
  exact ret_ok (post := [E54ea0 aw cw ws, .pts b [vU old] 60, .pts b2 [vU new] 60]) [0, 1, 2] (by kernel_rfl) ⟨rfl, (by kernel_rfl)⟩


theorem step_SwapF (ba : Nat) (A : Ar) (i : Int) (b b2 : Nat) (old new : Int) (hn : A.ws.length = A.n) (hi : 0 ≤ i ∧ i < A.n) (hs : 0 ≤ A.steps ∧ A.steps ≤ 1000000000) (hw : A.ws.getD i.toNat 0 ≠ old) :
    Ctr Tryz.prog 154 #[vP ba, vI 3, vI i, .func (.func 198) #[] #[vP b, vP b2]] [E3504b ba A, E35fb1 A, .pts b [vU old] 60, .pts b2 [vU new] 60] (Ret (.bool false) [E3504b ba (A.swapF i), E35fb1 (A.swapF i), .pts b [vU old] 60, .pts b2 [vU new] 60]) := by
  refine ctr_of (args := [vP ba, vI 3, vI i, .func (.func 198) #[] #[vP b, vP b2]]) (fn := Tryz.f154) (body := B154) (nt := 71) Tryz.func154 (by kernel_rfl) (by kernel_rfl) ?_
  intro F
  refine go_exec (rs := [.tmp 8]) (by kernel_rfl) 4000 [.z [0, 1, 1] 3 [0, 1, 2, 3, 13]] (o := .stop [.o [0, 1, 1] 3, .c [1, 1, 1]] [(0, vP ba), (1, vI 3), (2, vI i), (3, .func (.func 198) #[] #[vP b, vP b2]), (13, .pointer (some ⟨ba, 1, none⟩))] [E3504b ba A, E35fb1 A, .pts b [vU old] 60, .pts b2 [vU new] 60]) (by kernel_rfl) ?_
  refine ok_stop ?_
  refine go_call (some 14) [0] Tryz.call179 (atomic_Add ba A.aw A.n A.cw A.steps A.lk A.lw A.lv A.lc 1 (by first | assumption | omega | (simp only [InK] at *; omega))) (by kernel_rfl) ?_
  rintro v post ⟨rfl, rfl⟩
  refine go_exec (rs := [.tmp 8]) (by kernel_rfl) 4000 [.e 3, .sp [23, 22] [.dead] [.e 3, .sp [31, 30] [.dead] [.e 3, .s 0, .z [0, 1, 1, 1, 1, 1] 8 [0, 2, 43, 44, 50]]]] (o := .obl (ba = ba) (.obl ((decide (i < 0)) = (decide (i < 0))) (.br (decide (i < 0)) (.bad) (.obl (ba = ba) (.obl ((decide (i ≥ ((A.n : Nat) : Int))) = (decide (i ≥ ((A.n : Nat) : Int)))) (.br (decide (i ≥ ((A.n : Nat) : Int))) (.bad) (.obl (ba = ba) (.obl (A.aw = A.aw ∧ A.n = A.ws.length) (.obl ((0 : Int) ≤ i ∧ i < ((A.ws.length : Nat) : Int)) (.stop [.o [0, 1, 1, 1, 1, 1] 8, .c [1, 1, 1, 1, 1, 1]] [(0, vP ba), (2, vI i), (43, vP ba), (44, .func (.func 198) #[] #[vP b, vP b2]), (50, slAt A.aw i.toNat 1)] [E35fb1 A, .pts b [vU old] 60, .pts b2 [vU new] 60, Ea266b ba A (A.steps + 1) 3 i 0 false])))))))))) (by kernel_rfl) ?_
  refine ok_obl rfl ?_
  refine ok_obl rfl ?_
  refine ok_br (fun h => absurd (show (decide (i < 0)) = false from (by simp; omega)) (by rw [h]; simp)) (fun _ => ?_)
  refine ok_obl rfl ?_
  refine ok_obl rfl ?_
  refine ok_br (fun h => absurd (show (decide (i ≥ ((A.n : Nat) : Int))) = false from (by simp; omega)) (by rw [h]; simp)) (fun _ => ?_)
  refine ok_obl rfl ?_
  refine ok_obl ⟨rfl, (by first | rfl | omega | (simp; done) | (simp; omega))⟩ ?_
  refine ok_obl (by first | omega | (simp; omega)) ?_
  refine ok_stop ?_
  refine go_call (some 51) [0, 1, 2] Tryz.call198 (clo_SwapF A.aw A.cw A.ws i.toNat b b2 old new (by first | assumption | omega | (simp only [InK] at *; omega)) (by first | assumption | omega | (simp only [InK] at *; omega))) (by kernel_rfl) ?_
  rintro v post ⟨rfl, rfl⟩
  refine go_exec (rs := [.tmp 8]) (by kernel_rfl) 4000 [.e 0, .e 0, .s 1, .j 1 i.toNat, .e 0, .e 0] (o := .obl (ba = ba) (.obl (ba = ba) (.obl (A.aw = A.aw ∧ A.n = A.ws.length) (.obl ((0 : Int) ≤ i ∧ i < ((A.ws.length : Nat) : Int)) (.obl (slAt A.aw i.toNat 1 = slAt A.aw i.toNat 1) (.obl (i.toNat < A.ws.length) (.obl (ba = ba) (.obl (ba = ba) (.ret (.bool false) [Ea266b ba A (A.steps + 1) 3 i (A.ws.getD i.toNat 0) false, E35fb1 A, .pts b [vU old] 60, .pts b2 [vU new] 60]))))))))) (by kernel_rfl) ?_
  refine ok_obl rfl ?_
  refine ok_obl rfl ?_
  refine ok_obl ⟨rfl, (by first | rfl | omega | (simp; done) | (simp; omega))⟩ ?_
  refine ok_obl (by first | omega | (simp; omega)) ?_
  refine ok_obl rfl ?_
  refine ok_obl (by first | omega | (simp; omega)) ?_
  refine ok_obl rfl ?_
  refine ok_obl rfl ?_
  exact ret_ok (post := [Ea266b ba A (A.steps + 1) 3 i (A.ws.getD i.toNat 0) false, E35fb1 A, .pts b [vU old] 60, .pts b2 [vU new] 60]) [0, 1, 2, 3] (by kernel_rfl) ⟨rfl, (by kernel_rfl)⟩


theorem arena_SwapF (ba : Nat) (A : Ar) (i old new : Int) (hn : A.ws.length = A.n) (hi : 0 ≤ i ∧ i < A.n) (hs : 0 ≤ A.steps ∧ A.steps ≤ 1000000000) (hw : A.ws.getD i.toNat 0 ≠ old) :
    Ctr Tryz.prog 185 #[vP ba, vI i, vU old, vU new] [E3504b ba A, E35fb1 A] (Ret (.bool false) [E3504b ba (A.swapF i), E35fb1 (A.swapF i)]) := by
  refine ctr_of (args := [vP ba, vI i, vU old, vU new]) (fn := Tryz.f185) (body := B185) (nt := 13) Tryz.func185 (by kernel_rfl) (by kernel_rfl) ?_
  intro F
  refine go_exec (rs := [.tmp 8]) (by kernel_rfl) 4000 [.z [0, 1] 3 [9, 10, 11]] (o := .new fun b_1 => .new fun b_2 => .stop [.o [0, 1] 3, .c [1, 1]] [(9, vP ba), (10, vI i), (11, .func (.func 198) #[] #[vP b_1, vP b_2])] [E3504b ba A, E35fb1 A, .pts b_1 [vU old] 60, .pts b_2 [vU new] 60]) (by kernel_rfl) ?_
  refine ok_new fun b_1 => ?_
  refine ok_new fun b_2 => ?_
  refine ok_stop ?_
  refine go_call (some 12) [0, 1, 2, 3] Tryz.call154 (step_SwapF ba A i b_1 b_2 old new (by first | assumption | omega | (simp only [InK] at *; omega)) (by first | assumption | omega | (simp only [InK] at *; omega)) (by first | assumption | omega | (simp only [InK] at *; omega)) (by first | assumption | omega | (simp only [InK] at *; omega))) (by kernel_rfl) ?_
  rintro v post ⟨rfl, rfl⟩
  refine go_exec (rs := [.tmp 8]) (by kernel_rfl) 4000 [] (o := .ret (.bool false) [E3504b ba (A.swapF i), E35fb1 (A.swapF i), .pts b_1 [vU old] 60, .pts b_2 [vU new] 60]) (by kernel_rfl) ?_
  exact ret_ok (post := [E3504b ba (A.swapF i), E35fb1 (A.swapF i)]) [0, 1] (by kernel_rfl) ⟨rfl, (by kernel_rfl)⟩

noncomputable def B151 : Code := (Tryz.f151.body).getD .skip

theorem heads_Block (w_ : Int) (hw : 0 ≤ w_ ∧ w_ ≤ 18446744073709551615) :
    Ctr Tryz.prog 151 #[vU w_] [] (Ret (vI (lo32 w_)) []) := by
  refine ctr_of (args := [vU w_]) (fn := Tryz.f151) (body := B151) (nt := 6) Tryz.func151 (by kernel_rfl) (by kernel_rfl) ?_
  intro F
  refine go_exec (rs := [.tmp 2]) (by kernel_rfl) 4000 [.z [0, 1] 1 [3]] (o := .stop [.o [0, 1] 1, .c [1, 1]] [(3, vU w_)] []) (by kernel_rfl) ?_
  refine ok_stop ?_
  refine go_call (some 4) [] Tryz.call172 (bits_Get w_ 0 32 (by first | assumption | omega | (simp only [InK] at *; omega))) (by kernel_rfl) ?_
  rintro v post ⟨rfl, rfl⟩
  refine go_exec (rs := [.tmp 2]) (by kernel_rfl) 4000 [.n] (o := .obl (InK .i64 (bAnd .u64 (bShr .u64 w_ 0) (bShr .u64 18446744073709551615 (64 - 32)))) (.ret (vI (bAnd .u64 (bShr .u64 w_ 0) (bShr .u64 18446744073709551615 (64 - 32)))) [])) (by kernel_rfl) ?_
  refine ok_obl (by rw [get_lo hw]; simp only [InK]; have := lo32_lt w_; omega) ?_
  exact ret_ok (post := []) [] (by kernel_rfl) ⟨(congrArg (Value.int .i64) (get_lo hw)), (by kernel_rfl)⟩

noncomputable def B206 : Code := (Tryz.f206.body).getD .skip

theorem heads_Tag (w_ : Int) (hw : 0 ≤ w_ ∧ w_ ≤ 18446744073709551615) :
    Ctr Tryz.prog 206 #[vU w_] [] (Ret (.int .u32 (hi32 w_)) []) := by
  refine ctr_of (args := [vU w_]) (fn := Tryz.f206) (body := B206) (nt := 6) Tryz.func206 (by kernel_rfl) (by kernel_rfl) ?_
  intro F
  refine go_exec (rs := [.tmp 2]) (by kernel_rfl) 4000 [.z [0, 1] 1 [3]] (o := .stop [.o [0, 1] 1, .c [1, 1]] [(3, vU w_)] []) (by kernel_rfl) ?_
  refine ok_stop ?_
  refine go_call (some 4) [] Tryz.call172 (bits_Get w_ 32 32 (by first | assumption | omega | (simp only [InK] at *; omega))) (by kernel_rfl) ?_
  rintro v post ⟨rfl, rfl⟩
  refine go_exec (rs := [.tmp 2]) (by kernel_rfl) 4000 [.w] (o := .ret (.int .u32 (IntKind.u32.wrap (bAnd .u64 (bShr .u64 w_ 32) (bShr .u64 18446744073709551615 (64 - 32))))) []) (by kernel_rfl) ?_
  exact ret_ok (post := []) [] (by kernel_rfl) ⟨(congrArg (Value.int .u32) (get_hi hw)), (by kernel_rfl)⟩

noncomputable def B205 : Code := (Tryz.f205.body).getD .skip

theorem heads_Make (t_ b_ : Int) (ht : 0 ≤ t_ ∧ t_ ≤ 4294967295) (hb : 0 ≤ b_ ∧ b_ ≤ 4294967295) :
    Ctr Tryz.prog 205 #[.int .u32 t_, vI b_] [] (Ret (vU (t_ * 4294967296 + b_)) []) := by
  refine ctr_of (args := [.int .u32 t_, vI b_]) (fn := Tryz.f205) (body := B205) (nt := 12) Tryz.func205 (by kernel_rfl) (by kernel_rfl) ?_
  intro F
  refine go_exec (rs := [.tmp 4]) (by kernel_rfl) 4000 [.w, .n, .w, .w] (o := .obl ((0 : Int) ≤ 32) (.ret (vU (bOr .u64 (bShl .u64 (IntKind.u64.wrap t_) 32) (IntKind.u64.wrap (IntKind.u32.wrap b_)))) [])) (by kernel_rfl) ?_
  refine ok_obl (by first | omega | (simp; done) | (simp; omega)) ?_
  exact ret_ok (post := []) [] (by kernel_rfl) ⟨(congrArg (Value.int .u64) (make_eq ht hb)), (by kernel_rfl)⟩

noncomputable def B202 : Code := (Tryz.f202.body).getD .skip

theorem heads_Turn (w_ b_ : Int) (hw : 0 ≤ w_ ∧ w_ ≤ 18446744073709551615) (hb : 0 ≤ b_ ∧ b_ ≤ 4294967295) :
    Ctr Tryz.prog 202 #[vU w_, vI b_] [] (Ret (vU (turnW w_ b_)) []) := by
  refine ctr_of (args := [vU w_, vI b_]) (fn := Tryz.f202) (body := B202) (nt := 10) Tryz.func202 (by kernel_rfl) (by kernel_rfl) ?_
  intro F
  refine go_exec (rs := [.tmp 4]) (by kernel_rfl) 4000 [.z [0, 1] 1 [1, 5]] (o := .stop [.o [0, 1] 1, .c [1, 1]] [(1, vI b_), (5, vU w_)] []) (by kernel_rfl) ?_
  refine ok_stop ?_
  refine go_call (some 6) [] Tryz.call206 (heads_Tag w_ (by first | assumption | omega | (simp only [InK] at *; omega))) (by kernel_rfl) ?_
  rintro v post ⟨rfl, rfl⟩
  refine go_exec (rs := [.tmp 4]) (by kernel_rfl) 4000 [.w, .z [0, 1] 4 [7, 8]] (o := .stop [.o [0, 1] 4, .c [1, 1]] [(7, .int .u32 (IntKind.u32.wrap ((hi32 w_) + 1))), (8, vI b_)] []) (by kernel_rfl) ?_
  refine ok_stop ?_
  refine go_call (some 9) [] Tryz.call205 (heads_Make (IntKind.u32.wrap ((hi32 w_) + 1)) b_ (by have := wrap32_rng (hi32 w_ + 1); omega) (by first | assumption | omega | (simp only [InK] at *; omega))) (by kernel_rfl) ?_
  rintro v post ⟨rfl, rfl⟩
  refine go_exec (rs := [.tmp 4]) (by kernel_rfl) 4000 [] (o := .ret (vU ((IntKind.u32.wrap ((hi32 w_) + 1)) * 4294967296 + b_)) []) (by kernel_rfl) ?_
  exact ret_ok (post := []) [] (by kernel_rfl) ⟨(congrArg (Value.int .u64) (turn_eq w_ b_)), (by kernel_rfl)⟩

end Go.Proofs.YtgajfjeffamnkaaGreatDoor


namespace Go.Proofs.YtgajfjeffamnkaaGreatDoor
open Go.Sx
noncomputable def B158 : Code := (Tryz.f158.body).getD .skip

noncomputable def B150 : Code := (Tryz.f150.body).getD .skip

noncomputable def B193 : Code := (Tryz.f193.body).getD .skip

noncomputable def B174 : Code := (Tryz.f174.body).getD .skip

end Go.Proofs.YtgajfjeffamnkaaGreatDoor


namespace Go.Proofs.YtgajfjeffamnkaaGreatDoor
open Go.Sx
noncomputable def B47 : Code := (Tryz.f47.body).getD .skip

theorem clone_some_u64 (ad : Addr) (c : Nat) (xs : List Int) (hl : xs.length ≤ 1000000) :
    Ctr Tryz.prog 47 #[.slice (some ad) xs.length c] [E54ea0 (some ad) c xs] (fun v L => ∃ (a2 : Option Addr) (c2 : Nat), v = .slice a2 xs.length c2 ∧ L = [E54ea0 (some ad) c xs, E54ea0 a2 c2 xs]) := by
  refine ctr_of (args := [.slice (some ad) xs.length c]) (fn := Tryz.f47) (body := B47) (nt := 8) Tryz.func47 (by kernel_rfl) (by kernel_rfl) ?_
  intro F
  refine go_exec (rs := [.tmp 2]) (by kernel_rfl) 4000 [.z [0, 1, 1] 2 [5, 6]] (o := .new fun b_1 => .stop [.o [0, 1, 1] 2, .c [1, 1, 1]] [(5, .slice (some ⟨b_1, 0, none⟩) 0 0), (6, .slice (some ad) xs.length c)] [E54ea0 (some ad) c xs, .pts b_1 [] 60]) (by kernel_rfl) ?_
  refine ok_new fun b_1 => ?_
  refine ok_stop ?_
  refine go_view (L' := [E54ea0 (some ad) c xs, E54ea0 (some ⟨b_1, 0, none⟩) 0 []]) (view_empty 1 (b := b_1) (encI .u64) 0 1 60 (sizedI _) (by kernel_rfl)) ?_
  refine go_by (some 7) (appO Tryz.prog _) (some (.slice (some ⟨b_1, 0, none⟩) ([]).length 0, .slice (some ad) xs.length c, (60, 1, 8))) (R_append 1 (a := (some ⟨b_1, 0, none⟩)) (c := 0) (enc := encI .u64) (d := 0) (sz := 1) (xs := []) (te := 60) (by kernel_rfl) (.slice (some ad) xs.length c) xs (src_sl (i := 0) (d := 0) (sz := 1) (t := 60) (by kernel_rfl)) (oneI _) 8 (by first | omega | (simp; done) | (simp; omega)) (by first | omega | (simp; done) | (simp; omega))) (by kernel_rfl) ?_
  rintro v L2 ⟨a_2, c_3, rfl, rfl⟩
  refine go_exec (rs := [.tmp 2]) (by kernel_rfl) 4000 [] (o := .ret (.slice a_2 (([] ++ xs).length) c_3) [E54ea0 (some ad) c xs, E54ea0 a_2 c_3 ([] ++ xs)]) (by kernel_rfl) ?_
  exact ret_ok (post := [E54ea0 (some ad) c xs, E54ea0 a_2 c_3 ([] ++ xs)]) [0, 1] (by kernel_rfl) ⟨a_2, c_3, rfl, (by kernel_rfl)⟩


theorem clone_nil_u64   :
    Ctr Tryz.prog 47 #[.slice none 0 0] [] (Ret (.slice none 0 0) []) := by
  refine ctr_of (args := [.slice none 0 0]) (fn := Tryz.f47) (body := B47) (nt := 8) Tryz.func47 (by kernel_rfl) (by kernel_rfl) ?_
  intro F
  refine go_exec (rs := [.tmp 2]) (by kernel_rfl) 4000 [] (o := .ret (.slice none 0 0) []) (by kernel_rfl) ?_
  exact ret_ok (post := []) [] (by kernel_rfl) ⟨rfl, (by kernel_rfl)⟩


theorem clone_u64 (a : Option Addr) (c : Nat) (xs : List Int) (hl : xs.length ≤ 1000000) :
    Ctr Tryz.prog 47 #[.slice a xs.length c] [E54ea0 a c xs] (fun v L => ∃ (a2 : Option Addr) (c2 : Nat), v = .slice a2 xs.length c2 ∧ L = [E54ea0 a c xs, E54ea0 a2 c2 xs]) := by
  cases a with
  | some ad => exact clone_some_u64 ad c xs hl
  | none =>
    refine ctr_sl_nil (i := 0) rfl ?_
    rintro rfl rfl
    exact ctr_post (ctr_pre [] (by kernel_rfl) clone_nil_u64) fun v L h => ⟨_, (view_nil2 _ _ _ _ (sizedI _) _ _ _ _ (sizedI _) h.2), none, 0, h.1, rfl⟩


theorem clone_n (a : Option Addr) (c n : Nat) (xs : List Int) (hn : xs.length = n) (hl : xs.length ≤ 1000000) :
    Ctr Tryz.prog 47 #[.slice a n c] [E54ea0 a c xs] (fun v L => ∃ (a2 : Option Addr) (c2 : Nat), v = .slice a2 xs.length c2 ∧ L = [E54ea0 a c xs, E54ea0 a2 c2 xs]) := by
  subst hn; exact clone_u64 a c xs hl

end Go.Proofs.YtgajfjeffamnkaaGreatDoor


namespace Go.Proofs.YtgajfjeffamnkaaGreatDoor
open Go.Sx
abbrev q7_0 : List Nat := [1, 0, 0, 1, 1, 0, 0, 1, 0, 1, 1, 1]
abbrev q7_1 : List Nat := [1, 1, 1, 0, 0, 1, 0, 1, 1, 1]
abbrev q7_2 : List Nat := [0, 1, 0, 1, 0, 0, 1, 1, 0, 0, 1, 0, 1, 1, 1, 1, 1, 1, 1]
abbrev q7_3 : List Nat := [0, 1, 0, 1, 1, 1, 1, 1, 1, 1, 1]
abbrev q7_4 : List Nat := [1, 1, 0, 0, 1, 1, 0, 0, 1, 0, 1, 1, 1, 1, 1, 1, 1]
abbrev q7_5 : List Nat := [1, 1, 1, 0, 0, 1, 0, 1, 1, 1, 1, 1, 1, 1]
abbrev q7_6 : List Nat := [0, 1, 0, 1, 1, 1, 1, 1, 1, 1]
abbrev q7_7 : List Nat := [1, 1, 1, 1, 1, 1, 1, 1]
abbrev q7_8 : List Nat := [1, 1, 1, 1, 1, 1, 1, 1, 1]
abbrev q7_9 : List Nat := [0, 0, 0, 0, 1, 0, 1, 1, 1, 1, 1, 1, 1, 1]
abbrev q7_10 : List Nat := [1, 0, 0, 0, 1, 0, 1, 1, 1, 1, 1, 1, 1, 1]
abbrev q7_11 : List Nat := [1, 0, 0, 1, 0, 1, 1, 1, 1, 1, 1, 1, 1]
abbrev q7_12 : List Nat := [0, 0, 0, 1, 0, 0, 1, 0, 1, 1, 1, 1, 1, 1, 1, 1]
abbrev q7_13 : List Nat := [1, 0, 0, 1, 0, 0, 1, 0, 1, 1, 1, 1, 1, 1, 1, 1]
abbrev q7_14 : List Nat := [1, 1, 0, 0, 1, 0, 1, 1, 1, 1, 1, 1, 1, 1]
abbrev q7_15 : List Nat := [0, 1, 0, 0, 1, 0, 0, 1, 0, 1, 1, 1, 1, 1, 1, 1, 1]
noncomputable def B166 : Code := (Tryz.f166.body).getD .skip

theorem bits_Set (w_ at_ n v_ : Int) (h : 1 ≤ n ∧ n ≤ 64 ∧ 0 ≤ at_ ∧ at_ + n ≤ 64) (hv : bAndNot .u64 v_ (bShr .u64 18446744073709551615 (64 - n)) = 0) :
    Ctr Tryz.prog 166 #[vU w_, vI at_, vI n, vU v_] [] (Ret (.tuple #[vU (setW w_ at_ n v_), .bool true]) []) := by
  refine ctr_of (args := [vU w_, vI at_, vI n, vU v_]) (fn := Tryz.f166) (body := B166) (nt := 32) Tryz.func166 (by kernel_rfl) (by kernel_rfl) ?_
  intro F
  refine go_exec (rs := [.tmp 8, .tmp 9]) (by kernel_rfl) 4000 [.z [0, 0, 1] 2 [0, 1, 2, 3, 10, 11]] (o := .stop [.o [0, 0, 1] 2, .c [1, 0, 1], .c [1, 1]] [(0, vU w_), (1, vI at_), (2, vI n), (3, vU v_), (10, vI at_), (11, vI n)] []) (by kernel_rfl) ?_
  refine ok_stop ?_
  refine go_call (some 12) [] Tryz.call190 (bits_may at_ n (by first | assumption | omega | (simp only [InK] at *; omega))) (by kernel_rfl) ?_
  rintro v post ⟨rfl, rfl⟩
  refine go_exec (rs := [.tmp 8, .tmp 9]) (by kernel_rfl) 4000 [.z [0, 0, 1] 7 [0, 1, 2, 3, 14, 15, 16]] (o := .stop [.o [0, 0, 1] 7, .c [1, 0, 1], .c [1, 1]] [(0, vU w_), (1, vI at_), (2, vI n), (3, vU v_), (14, .bool false), (15, vU v_), (16, vI n)] []) (by kernel_rfl) ?_
  refine ok_stop ?_
  refine go_call (some 17) [] Tryz.call191 (bits_all n (by omega)) (by kernel_rfl) ?_
  rintro v post ⟨rfl, rfl⟩
  refine go_exec (rs := [.tmp 8, .tmp 9]) (by kernel_rfl) 4000 [.sp [20, 19] [.dead] [.z [0, 1, 1] 0 [0, 1, 2, 3]]] (o := .obl (((bAndNot .u64 v_ (bShr .u64 18446744073709551615 (64 - n))) != 0) = ((bAndNot .u64 v_ (bShr .u64 18446744073709551615 (64 - n))) != 0)) (.br ((bAndNot .u64 v_ (bShr .u64 18446744073709551615 (64 - n))) != 0) (.bad) (.stop [.c [0, 1, 1], .c [1, 1, 1]] [(0, vU w_), (1, vI at_), (2, vI n), (3, vU v_)] []))) (by kernel_rfl) ?_
  refine ok_obl rfl ?_
  refine ok_br (fun h => absurd (show ((bAndNot .u64 v_ (bShr .u64 18446744073709551615 (64 - n))) != 0) = false from (by rw [hv]; rfl)) (by rw [h]; simp)) (fun _ => ?_)
  refine ok_stop ?_
  refine go_quiet (tm' := [(8, vU (bOr .u64 (bAndNot .u64 w_ (bShl .u64 (bShr .u64 18446744073709551615 (64 - n)) at_)) (bShl .u64 v_ at_))), (9, .bool true)]) (ps := [(0 : Int) ≤ at_, (0 : Int) ≤ at_]) (cs := [(191, #[vI n], vU (bShr .u64 18446744073709551615 (64 - n)))]) [(0, .h .w), (1, .h .w), (2, .q (vU (bShr .u64 18446744073709551615 (64 - n)))), (3, .h .w), (4, .h (.n)), (5, .h .w), (6, .h .w), (7, .h .w), (8, .h (.n)), (9, .h .w), (10, .h .w), (11, .h .w)] [8, 9] (by kernel_rfl) (by kernel_rfl) ⟨(by first | omega | (simp; done) | (simp; omega)), (by first | omega | (simp; done) | (simp; omega)), trivial⟩ ⟨⟨Tryz.call191, quiet_of [] (bits_all n (by omega)) (by kernel_rfl) (by rintro v post ⟨rfl, rfl⟩; exact ⟨rfl, rfl⟩)⟩, trivial⟩ ?_
  refine go_exec (rs := [.tmp 8, .tmp 9]) (by kernel_rfl) 4000 [] (o := .ret (.tuple #[vU (bOr .u64 (bAndNot .u64 w_ (bShl .u64 (bShr .u64 18446744073709551615 (64 - n)) at_)) (bShl .u64 v_ at_)), .bool true]) []) (by kernel_rfl) ?_
  exact ret_ok (post := []) [] (by kernel_rfl) ⟨rfl, (by kernel_rfl)⟩

noncomputable def B120 : Code := (Tryz.f120.body).getD .skip

theorem plan_Pack (c : Cfg) (hc : c.Ok) :
    Ctr Tryz.prog 120 #[cfgV c] [] (Ret (vU (packW c)) []) := by
  refine ctr_of (args := [cfgV c]) (fn := Tryz.f120) (body := B120) (nt := 27) Tryz.func120 (by kernel_rfl) (by kernel_rfl) ?_
  intro F
  refine go_exec (rs := [.tmp 2]) (by kernel_rfl) 4000 [.e 0, .z [0, 0, 1, 1] 1 [1, 3, 6]] (o := .new fun b_1 => .obl (b_1 = b_1) (.stop [.o [0, 0, 1, 1] 1, .c [1, 0, 1, 1], .c [1, 1, 1]] [(1, vP b_1), (3, vU 0), (6, cfgV c)] [Efdc04 b_1 c])) (by kernel_rfl) ?_
  refine ok_new fun b_1 => ?_
  refine ok_obl rfl ?_
  refine ok_stop ?_
  refine go_call (some 7) [] Tryz.call127 (plan_right c (by first | assumption | omega | (simp only [InK] at *; omega))) (by kernel_rfl) ?_
  rintro v post ⟨rfl, rfl⟩
  refine go_exec (rs := [.tmp 2]) (by kernel_rfl) 4000 [.e 0, .z [0, 0, 1, 1, 1] 1 [3, 10]] (o := .obl (b_1 = b_1) (.stop [.o [0, 0, 1, 1, 1] 1, .c [1, 0, 1, 1, 1], .c [1, 1, 1, 1]] [(3, vU 0), (10, cfgV c)] [Efdc04 b_1 c])) (by kernel_rfl) ?_
  refine ok_obl rfl ?_
  refine ok_stop ?_
  refine go_call (some 11) [] Tryz.call165 (plan_parts c) (by kernel_rfl) ?_
  rintro v post ⟨rfl, rfl⟩
  refine go_exec (rs := [.tmp 2]) (by kernel_rfl) 4000 [.u, .w, .w, .z q7_0 5 [11, 12, 17, 19, 21]] (o := .stop [.o q7_0 5, .b 1, .c q7_1, .r [0, 1, 0, 1, 1, 1], .b 0, .c [1, 1, 1, 1]] [(11, .agg #[vI c.topics, vI c.small, vI c.slots, vI c.clients, vI c.retry, vI c.s0, vI c.n0, vI c.s1, vI c.n1]), (12, vI 0), (17, vU 0), (19, vI 0), (21, vU (IntKind.u64.wrap c.topics))] [Efdc04 b_1 c]) (by kernel_rfl) ?_
  refine ok_stop ?_
  refine go_call (some 22) [] Tryz.call166 (bits_Set 0 0 7 (IntKind.u64.wrap c.topics) (by omega) (part_fits (by simp only [Cfg.Ok] at hc; omega))) (by kernel_rfl) ?_
  rintro v post ⟨rfl, rfl⟩
  refine go_exec (rs := [.tmp 2]) (by kernel_rfl) 4000 [.w, .u, .w, .w, .z q7_0 5 [11, 12, 17, 19, 21]] (o := .stop [.o q7_0 5, .b 1, .c q7_1, .r [0, 1, 0, 1, 1, 1], .b 0, .c [1, 1, 1, 1]] [(11, .agg #[vI c.topics, vI c.small, vI c.slots, vI c.clients, vI c.retry, vI c.s0, vI c.n0, vI c.s1, vI c.n1]), (12, vI 1), (17, vU (setW 0 0 7 (IntKind.u64.wrap c.topics))), (19, vI 7), (21, vU (IntKind.u64.wrap c.small))] [Efdc04 b_1 c]) (by kernel_rfl) ?_
  refine ok_stop ?_
  refine go_call (some 22) [] Tryz.call166 (bits_Set (setW 0 0 7 (IntKind.u64.wrap c.topics)) 7 7 (IntKind.u64.wrap c.small) (by omega) (part_fits (by simp only [Cfg.Ok] at hc; omega))) (by kernel_rfl) ?_
  rintro v post ⟨rfl, rfl⟩
  refine go_exec (rs := [.tmp 2]) (by kernel_rfl) 4000 [.w, .u, .w, .w, .z q7_0 5 [11, 12, 17, 19, 21]] (o := .stop [.o q7_0 5, .b 1, .c q7_1, .r [0, 1, 0, 1, 1, 1], .b 0, .c [1, 1, 1, 1]] [(11, .agg #[vI c.topics, vI c.small, vI c.slots, vI c.clients, vI c.retry, vI c.s0, vI c.n0, vI c.s1, vI c.n1]), (12, vI 2), (17, vU (setW (setW 0 0 7 (IntKind.u64.wrap c.topics)) 7 7 (IntKind.u64.wrap c.small))), (19, vI 14), (21, vU (IntKind.u64.wrap c.slots))] [Efdc04 b_1 c]) (by kernel_rfl) ?_
  refine ok_stop ?_
  refine go_call (some 22) [] Tryz.call166 (bits_Set (setW (setW 0 0 7 (IntKind.u64.wrap c.topics)) 7 7 (IntKind.u64.wrap c.small)) 14 7 (IntKind.u64.wrap c.slots) (by omega) (part_fits (by simp only [Cfg.Ok] at hc; omega))) (by kernel_rfl) ?_
  rintro v post ⟨rfl, rfl⟩
  refine go_exec (rs := [.tmp 2]) (by kernel_rfl) 4000 [.w, .u, .w, .w, .z q7_0 5 [11, 12, 17, 19, 21]] (o := .stop [.o q7_0 5, .b 1, .c q7_1, .r [0, 1, 0, 1, 1, 1], .b 0, .c [1, 1, 1, 1]] [(11, .agg #[vI c.topics, vI c.small, vI c.slots, vI c.clients, vI c.retry, vI c.s0, vI c.n0, vI c.s1, vI c.n1]), (12, vI 3), (17, vU (setW (setW (setW 0 0 7 (IntKind.u64.wrap c.topics)) 7 7 (IntKind.u64.wrap c.small)) 14 7 (IntKind.u64.wrap c.slots))), (19, vI 21), (21, vU (IntKind.u64.wrap c.clients))] [Efdc04 b_1 c]) (by kernel_rfl) ?_
  refine ok_stop ?_
  refine go_call (some 22) [] Tryz.call166 (bits_Set (setW (setW (setW 0 0 7 (IntKind.u64.wrap c.topics)) 7 7 (IntKind.u64.wrap c.small)) 14 7 (IntKind.u64.wrap c.slots)) 21 7 (IntKind.u64.wrap c.clients) (by omega) (part_fits (by simp only [Cfg.Ok] at hc; omega))) (by kernel_rfl) ?_
  rintro v post ⟨rfl, rfl⟩
  refine go_exec (rs := [.tmp 2]) (by kernel_rfl) 4000 [.w, .u, .w, .w, .z q7_0 5 [11, 12, 17, 19, 21]] (o := .stop [.o q7_0 5, .b 1, .c q7_1, .r [0, 1, 0, 1, 1, 1], .b 0, .c [1, 1, 1, 1]] [(11, .agg #[vI c.topics, vI c.small, vI c.slots, vI c.clients, vI c.retry, vI c.s0, vI c.n0, vI c.s1, vI c.n1]), (12, vI 4), (17, vU (setW (setW (setW (setW 0 0 7 (IntKind.u64.wrap c.topics)) 7 7 (IntKind.u64.wrap c.small)) 14 7 (IntKind.u64.wrap c.slots)) 21 7 (IntKind.u64.wrap c.clients))), (19, vI 28), (21, vU (IntKind.u64.wrap c.retry))] [Efdc04 b_1 c]) (by kernel_rfl) ?_
  refine ok_stop ?_
  refine go_call (some 22) [] Tryz.call166 (bits_Set (setW (setW (setW (setW 0 0 7 (IntKind.u64.wrap c.topics)) 7 7 (IntKind.u64.wrap c.small)) 14 7 (IntKind.u64.wrap c.slots)) 21 7 (IntKind.u64.wrap c.clients)) 28 7 (IntKind.u64.wrap c.retry) (by omega) (part_fits (by simp only [Cfg.Ok] at hc; omega))) (by kernel_rfl) ?_
  rintro v post ⟨rfl, rfl⟩
  refine go_exec (rs := [.tmp 2]) (by kernel_rfl) 4000 [.w, .u, .w, .w, .z q7_0 5 [11, 12, 17, 19, 21]] (o := .stop [.o q7_0 5, .b 1, .c q7_1, .r [0, 1, 0, 1, 1, 1], .b 0, .c [1, 1, 1, 1]] [(11, .agg #[vI c.topics, vI c.small, vI c.slots, vI c.clients, vI c.retry, vI c.s0, vI c.n0, vI c.s1, vI c.n1]), (12, vI 5), (17, vU (setW (setW (setW (setW (setW 0 0 7 (IntKind.u64.wrap c.topics)) 7 7 (IntKind.u64.wrap c.small)) 14 7 (IntKind.u64.wrap c.slots)) 21 7 (IntKind.u64.wrap c.clients)) 28 7 (IntKind.u64.wrap c.retry))), (19, vI 35), (21, vU (IntKind.u64.wrap c.s0))] [Efdc04 b_1 c]) (by kernel_rfl) ?_
  refine ok_stop ?_
  refine go_call (some 22) [] Tryz.call166 (bits_Set (setW (setW (setW (setW (setW 0 0 7 (IntKind.u64.wrap c.topics)) 7 7 (IntKind.u64.wrap c.small)) 14 7 (IntKind.u64.wrap c.slots)) 21 7 (IntKind.u64.wrap c.clients)) 28 7 (IntKind.u64.wrap c.retry)) 35 7 (IntKind.u64.wrap c.s0) (by omega) (part_fits (by simp only [Cfg.Ok] at hc; omega))) (by kernel_rfl) ?_
  rintro v post ⟨rfl, rfl⟩
  refine go_exec (rs := [.tmp 2]) (by kernel_rfl) 4000 [.w, .u, .w, .w, .z q7_0 5 [11, 12, 17, 19, 21]] (o := .stop [.o q7_0 5, .b 1, .c q7_1, .r [0, 1, 0, 1, 1, 1], .b 0, .c [1, 1, 1, 1]] [(11, .agg #[vI c.topics, vI c.small, vI c.slots, vI c.clients, vI c.retry, vI c.s0, vI c.n0, vI c.s1, vI c.n1]), (12, vI 6), (17, vU (setW (setW (setW (setW (setW (setW 0 0 7 (IntKind.u64.wrap c.topics)) 7 7 (IntKind.u64.wrap c.small)) 14 7 (IntKind.u64.wrap c.slots)) 21 7 (IntKind.u64.wrap c.clients)) 28 7 (IntKind.u64.wrap c.retry)) 35 7 (IntKind.u64.wrap c.s0))), (19, vI 42), (21, vU (IntKind.u64.wrap c.n0))] [Efdc04 b_1 c]) (by kernel_rfl) ?_
  refine ok_stop ?_
  refine go_call (some 22) [] Tryz.call166 (bits_Set (setW (setW (setW (setW (setW (setW 0 0 7 (IntKind.u64.wrap c.topics)) 7 7 (IntKind.u64.wrap c.small)) 14 7 (IntKind.u64.wrap c.slots)) 21 7 (IntKind.u64.wrap c.clients)) 28 7 (IntKind.u64.wrap c.retry)) 35 7 (IntKind.u64.wrap c.s0)) 42 7 (IntKind.u64.wrap c.n0) (by omega) (part_fits (by simp only [Cfg.Ok] at hc; omega))) (by kernel_rfl) ?_
  rintro v post ⟨rfl, rfl⟩
  refine go_exec (rs := [.tmp 2]) (by kernel_rfl) 4000 [.w, .u, .w, .w, .z q7_0 5 [11, 12, 17, 19, 21]] (o := .stop [.o q7_0 5, .b 1, .c q7_1, .r [0, 1, 0, 1, 1, 1], .b 0, .c [1, 1, 1, 1]] [(11, .agg #[vI c.topics, vI c.small, vI c.slots, vI c.clients, vI c.retry, vI c.s0, vI c.n0, vI c.s1, vI c.n1]), (12, vI 7), (17, vU (setW (setW (setW (setW (setW (setW (setW 0 0 7 (IntKind.u64.wrap c.topics)) 7 7 (IntKind.u64.wrap c.small)) 14 7 (IntKind.u64.wrap c.slots)) 21 7 (IntKind.u64.wrap c.clients)) 28 7 (IntKind.u64.wrap c.retry)) 35 7 (IntKind.u64.wrap c.s0)) 42 7 (IntKind.u64.wrap c.n0))), (19, vI 49), (21, vU (IntKind.u64.wrap c.s1))] [Efdc04 b_1 c]) (by kernel_rfl) ?_
  refine ok_stop ?_
  refine go_call (some 22) [] Tryz.call166 (bits_Set (setW (setW (setW (setW (setW (setW (setW 0 0 7 (IntKind.u64.wrap c.topics)) 7 7 (IntKind.u64.wrap c.small)) 14 7 (IntKind.u64.wrap c.slots)) 21 7 (IntKind.u64.wrap c.clients)) 28 7 (IntKind.u64.wrap c.retry)) 35 7 (IntKind.u64.wrap c.s0)) 42 7 (IntKind.u64.wrap c.n0)) 49 7 (IntKind.u64.wrap c.s1) (by omega) (part_fits (by simp only [Cfg.Ok] at hc; omega))) (by kernel_rfl) ?_
  rintro v post ⟨rfl, rfl⟩
  refine go_exec (rs := [.tmp 2]) (by kernel_rfl) 4000 [.w, .u, .w, .w, .z q7_0 5 [11, 12, 17, 19, 21]] (o := .stop [.o q7_0 5, .b 1, .c q7_1, .r [0, 1, 0, 1, 1, 1], .b 0, .c [1, 1, 1, 1]] [(11, .agg #[vI c.topics, vI c.small, vI c.slots, vI c.clients, vI c.retry, vI c.s0, vI c.n0, vI c.s1, vI c.n1]), (12, vI 8), (17, vU (setW (setW (setW (setW (setW (setW (setW (setW 0 0 7 (IntKind.u64.wrap c.topics)) 7 7 (IntKind.u64.wrap c.small)) 14 7 (IntKind.u64.wrap c.slots)) 21 7 (IntKind.u64.wrap c.clients)) 28 7 (IntKind.u64.wrap c.retry)) 35 7 (IntKind.u64.wrap c.s0)) 42 7 (IntKind.u64.wrap c.n0)) 49 7 (IntKind.u64.wrap c.s1))), (19, vI 56), (21, vU (IntKind.u64.wrap c.n1))] [Efdc04 b_1 c]) (by kernel_rfl) ?_
  refine ok_stop ?_
  refine go_call (some 22) [] Tryz.call166 (bits_Set (setW (setW (setW (setW (setW (setW (setW (setW 0 0 7 (IntKind.u64.wrap c.topics)) 7 7 (IntKind.u64.wrap c.small)) 14 7 (IntKind.u64.wrap c.slots)) 21 7 (IntKind.u64.wrap c.clients)) 28 7 (IntKind.u64.wrap c.retry)) 35 7 (IntKind.u64.wrap c.s0)) 42 7 (IntKind.u64.wrap c.n0)) 49 7 (IntKind.u64.wrap c.s1)) 56 7 (IntKind.u64.wrap c.n1) (by omega) (part_fits (by simp only [Cfg.Ok] at hc; omega))) (by kernel_rfl) ?_
  rintro v post ⟨rfl, rfl⟩
  refine go_exec (rs := [.tmp 2]) (by kernel_rfl) 4000 [.w, .u] (o := .ret (vU (setW (setW (setW (setW (setW (setW (setW (setW (setW 0 0 7 (IntKind.u64.wrap c.topics)) 7 7 (IntKind.u64.wrap c.small)) 14 7 (IntKind.u64.wrap c.slots)) 21 7 (IntKind.u64.wrap c.clients)) 28 7 (IntKind.u64.wrap c.retry)) 35 7 (IntKind.u64.wrap c.s0)) 42 7 (IntKind.u64.wrap c.n0)) 49 7 (IntKind.u64.wrap c.s1)) 56 7 (IntKind.u64.wrap c.n1))) [Efdc04 b_1 c]) (by kernel_rfl) ?_
  exact ret_ok (post := []) [] (by kernel_rfl) ⟨rfl, (by kernel_rfl)⟩

noncomputable def B119 : Code := (Tryz.f119.body).getD .skip

theorem plan_Size (c : Cfg) (hc : c.Ok) :
    Ctr Tryz.prog 119 #[cfgV c] [] (Ret (vI (sizeOfC c)) []) := by
  refine ctr_of (args := [cfgV c]) (fn := Tryz.f119) (body := B119) (nt := 36) Tryz.func119 (by kernel_rfl) (by kernel_rfl) ?_
  intro F
  refine go_exec (rs := [.tmp 2]) (by kernel_rfl) 4000 [.e 0, .z [0, 0, 1] 1 [1, 7]] (o := .new fun b_1 => .obl (b_1 = b_1) (.stop [.o [0, 0, 1] 1, .c [1, 0, 1], .c [1, 1]] [(1, vP b_1), (7, cfgV c)] [Efdc04 b_1 c])) (by kernel_rfl) ?_
  refine ok_new fun b_1 => ?_
  refine ok_obl rfl ?_
  refine ok_stop ?_
  refine go_call (some 8) [] Tryz.call127 (plan_right c (by first | assumption | omega | (simp only [InK] at *; omega))) (by kernel_rfl) ?_
  rintro v post ⟨rfl, rfl⟩
  refine go_exec (rs := [.tmp 2]) (by kernel_rfl) 4000 [.e 0, .z [0, 1, 1] 1 [1, 11]] (o := .obl (b_1 = b_1) (.stop [.o [0, 1, 1] 1, .c [1, 1, 1]] [(1, vP b_1), (11, cfgV c)] [Efdc04 b_1 c])) (by kernel_rfl) ?_
  refine ok_obl rfl ?_
  refine ok_stop ?_
  refine go_call (some 12) [] Tryz.call102 (plan_cells c (by first | assumption | omega | (simp only [InK] at *; omega))) (by kernel_rfl) ?_
  rintro v post ⟨rfl, rfl⟩
  refine go_exec (rs := [.tmp 2]) (by kernel_rfl) 4000 [.e 0, .n, .n, .e 0, .u, .e 1, .e 1, .e 1, .n, .n, .n, .w, .u, .e 2, .e 2, .e 2, .n, .n, .n, .w, .u] (o := .obl (b_1 = b_1) (.obl (InK .i64 (c.topics * (1 + 2 * c.small))) (.obl (InK .i64 ((5 + c.slots + c.topics) + (c.topics * (1 + 2 * c.small)))) (.obl (b_1 = b_1) (.new fun b_2 => .obl (b_2 = b_2) (.obl (b_2 = b_2) (.obl (b_2 = b_2) (.obl (InK .i64 (1 + c.s0)) (.obl (InK .i64 (c.n0 * (1 + c.s0))) (.obl (InK .i64 (((5 + c.slots + c.topics) + (c.topics * (1 + 2 * c.small))) + (c.n0 * (1 + c.s0)))) (.new fun b_3 => .obl (b_3 = b_3) (.obl (b_3 = b_3) (.obl (b_3 = b_3) (.obl (InK .i64 (1 + c.s1)) (.obl (InK .i64 (c.n1 * (1 + c.s1))) (.obl (InK .i64 ((((5 + c.slots + c.topics) + (c.topics * (1 + 2 * c.small))) + (c.n0 * (1 + c.s0))) + (c.n1 * (1 + c.s1)))) (.ret (vI ((((5 + c.slots + c.topics) + (c.topics * (1 + 2 * c.small))) + (c.n0 * (1 + c.s0))) + (c.n1 * (1 + c.s1)))) [Efdc04 b_1 c, .pts b_2 [vI c.s0, vI c.n0] 26, .pts b_3 [vI c.s1, vI c.n1] 26]))))))))))))))))) (by kernel_rfl) ?_
  refine ok_obl rfl ?_
  refine ok_obl (by have hb := size_nl hc; simp only [Cfg.Ok, InK] at *; omega) ?_
  refine ok_obl (by have hb := size_nl hc; simp only [Cfg.Ok, InK] at *; omega) ?_
  refine ok_obl rfl ?_
  refine ok_new fun b_2 => ?_
  refine ok_obl rfl ?_
  refine ok_obl rfl ?_
  refine ok_obl rfl ?_
  refine ok_obl (by have hb := size_nl hc; simp only [Cfg.Ok, InK] at *; omega) ?_
  refine ok_obl (by have hb := size_nl hc; simp only [Cfg.Ok, InK] at *; omega) ?_
  refine ok_obl (by have hb := size_nl hc; simp only [Cfg.Ok, InK] at *; omega) ?_
  refine ok_new fun b_3 => ?_
  refine ok_obl rfl ?_
  refine ok_obl rfl ?_
  refine ok_obl rfl ?_
  refine ok_obl (by have hb := size_nl hc; simp only [Cfg.Ok, InK] at *; omega) ?_
  refine ok_obl (by have hb := size_nl hc; simp only [Cfg.Ok, InK] at *; omega) ?_
  refine ok_obl (by have hb := size_nl hc; simp only [Cfg.Ok, InK] at *; omega) ?_
  exact ret_ok (post := []) [] (by kernel_rfl) ⟨rfl, (by kernel_rfl)⟩

noncomputable def B118 : Code := (Tryz.f118.body).getD .skip

theorem arena_New (n : Int) (h : 1 ≤ n ∧ n ≤ 4096) :
    Ctr Tryz.prog 118 #[vI n] [] (fun v L => ∃ (ba : Nat) (aw : Option Addr) (cw : Nat), v = vP ba ∧ L = [Ef0385 ba aw ((List.replicate n.toNat (0 : Int)).length) cw 0 0 0 0 false, E54ea0 aw cw (List.replicate n.toNat (0 : Int))]) := by
  refine ctr_of (args := [vI n]) (fn := Tryz.f118) (body := B118) (nt := 13) Tryz.func118 (by kernel_rfl) (by kernel_rfl) ?_
  intro F
  refine go_exec (rs := [.tmp 2]) (by kernel_rfl) 4000 [.sp [5, 4] [.dead] [.sp [8, 7] [.dead] [.z [0, 1, 1] 1 [9]]]] (o := .obl ((decide (n < 1)) = (decide (n < 1))) (.br (decide (n < 1)) (.bad) (.obl ((decide (n > 4096)) = (decide (n > 4096))) (.br (decide (n > 4096)) (.bad) (.stop [.o [0, 1, 1] 1, .c [1, 1, 1]] [(9, vI n)] []))))) (by kernel_rfl) ?_
  refine ok_obl rfl ?_
  refine ok_br (fun h => absurd (show (decide (n < 1)) = false from (by first | (simp; done) | (simp; omega))) (by rw [h]; simp)) (fun _ => ?_)
  refine ok_obl rfl ?_
  refine ok_br (fun h => absurd (show (decide (n > 4096)) = false from (by first | (simp; done) | (simp; omega))) (by rw [h]; simp)) (fun _ => ?_)
  refine ok_stop ?_
  refine go_make (kl := .i64) (kc := .i64) (encI .u64) 0 (0 : Int) 1 (sizedI _) 60 8 (some 10) n n (by kernel_rfl) (by omega) (by omega) (by omega) (by omega) ?_
  intro a_1 c_2
  refine go_exec (rs := [.tmp 2]) (by kernel_rfl) 4000 [] (o := .new fun b_3 => .ret (vP b_3) [E54ea0 a_1 c_2 (List.replicate n.toNat (0 : Int)), Ef0385 b_3 a_1 ((List.replicate n.toNat (0 : Int)).length) c_2 0 0 0 0 false]) (by kernel_rfl) ?_
  refine ok_new fun b_3 => ?_
  exact ret_ok (post := [Ef0385 b_3 a_1 ((List.replicate n.toNat (0 : Int)).length) c_2 0 0 0 0 false, E54ea0 a_1 c_2 (List.replicate n.toNat (0 : Int))]) [1, 0] (by kernel_rfl) ⟨b_3, a_1, c_2, rfl, (by kernel_rfl)⟩

noncomputable def B60 : Code := (Tryz.f60.body).getD .skip

theorem plan_Make (c : Cfg) (hc : c.Ok) :
    Ctr Tryz.prog 60 #[cfgV c] [] (fun v L => ∃ (ba : Nat) (aw : Option Addr) (cw : Nat), v = .tuple #[vP ba, .nilIface] ∧ L = [E3504b ba (mkAr c aw cw), E35fb1 (mkAr c aw cw)]) := by
  refine ctr_of (args := [cfgV c]) (fn := Tryz.f60) (body := B60) (nt := 67) Tryz.func60 (by kernel_rfl) (by kernel_rfl) ?_
  intro F
  refine go_exec (rs := [.tmp 2, .tmp 3]) (by kernel_rfl) 4000 [.e 0, .z [0, 1] 1 [1, 10]] (o := .new fun b_1 => .obl (b_1 = b_1) (.stop [.o [0, 1] 1, .c [1, 1]] [(1, vP b_1), (10, cfgV c)] [Efdc04 b_1 c])) (by kernel_rfl) ?_
  refine ok_new fun b_1 => ?_
  refine ok_obl rfl ?_
  refine ok_stop ?_
  refine go_call (some 11) [] Tryz.call64 (plan_Check c (by first | assumption | omega | (simp only [InK] at *; omega))) (by kernel_rfl) ?_
  rintro v post ⟨rfl, rfl⟩
  refine go_exec (rs := [.tmp 2, .tmp 3]) (by kernel_rfl) 4000 [.e 0, .z [0, 1, 1, 1] 1 [1, 15]] (o := .obl (b_1 = b_1) (.stop [.o [0, 1, 1, 1] 1, .c [1, 1, 1, 1]] [(1, vP b_1), (15, cfgV c)] [Efdc04 b_1 c])) (by kernel_rfl) ?_
  refine ok_obl rfl ?_
  refine ok_stop ?_
  refine go_call (some 16) [] Tryz.call119 (plan_Size c (by first | assumption | omega | (simp only [InK] at *; omega))) (by kernel_rfl) ?_
  rintro v post ⟨rfl, rfl⟩
  refine go_call (some 17) [] Tryz.call118 (arena_New (sizeOfC c) (by have := sizeOfC_ok hc; omega)) (by kernel_rfl) ?_
  rintro v post ⟨ba_2, aw_3, cw_4, rfl, rfl⟩
  refine go_exec (rs := [.tmp 2, .tmp 3]) (by kernel_rfl) 4000 [.z [0, 1, 1, 1, 1] 1 [1, 5, 18]] (o := .stop [.o [0, 1, 1, 1, 1] 1, .c [1, 1, 1, 1, 1]] [(1, vP b_1), (5, vP ba_2), (18, vP ba_2)] [Efdc04 b_1 c, Ef0385 ba_2 aw_3 ((List.replicate (sizeOfC c).toNat (0 : Int)).length) cw_4 0 0 0 0 false, E54ea0 aw_3 cw_4 (List.replicate (sizeOfC c).toNat (0 : Int))]) (by kernel_rfl) ?_
  refine ok_stop ?_
  refine go_call (some 19) [1, 2] Tryz.call107 (arena_Store ba_2 (⟨aw_3, cw_4, (List.replicate (sizeOfC c).toNat (0 : Int)).length, (List.replicate (sizeOfC c).toNat (0 : Int)), 0, 0, 0, 0, false⟩ : Ar) 0 7597137583116413295 (by first | exact hx.2.1 | (simp [Ar.store]; done)) (by have := sizeOfC_ok hc; first | omega | (simp [Ar.store]; omega) | (have hq := blockAt_ok hc (clsOf_pos (c := c) (b := i.1) (by omega)); have := hx.2.2.1; omega)) (by simp only [Cfg.Ok] at hc; first | omega | (simp [Ar.store]; done) | (simp [Ar.store]; omega))) (by kernel_rfl) ?_
  rintro v post ⟨rfl, rfl⟩
  refine go_exec (rs := [.tmp 2, .tmp 3]) (by kernel_rfl) 4000 [.e 0, .z [0, 1, 1, 1, 1, 1] 2 [1, 5, 20, 21]] (o := .obl (b_1 = b_1) (.stop [.o [0, 1, 1, 1, 1, 1] 2, .c [1, 1, 1, 1, 1, 1]] [(1, vP b_1), (5, vP ba_2), (20, vP ba_2), (21, cfgV c)] [Efdc04 b_1 c, E3504b ba_2 ((⟨aw_3, cw_4, (List.replicate (sizeOfC c).toNat (0 : Int)).length, (List.replicate (sizeOfC c).toNat (0 : Int)), 0, 0, 0, 0, false⟩ : Ar).store 0 7597137583116413295), E35fb1 ((⟨aw_3, cw_4, (List.replicate (sizeOfC c).toNat (0 : Int)).length, (List.replicate (sizeOfC c).toNat (0 : Int)), 0, 0, 0, 0, false⟩ : Ar).store 0 7597137583116413295)])) (by kernel_rfl) ?_
  refine ok_obl rfl ?_
  refine ok_stop ?_
  refine go_call (some 22) [] Tryz.call120 (plan_Pack c (by first | assumption | omega | (simp only [InK] at *; omega))) (by kernel_rfl) ?_
  rintro v post ⟨rfl, rfl⟩
  refine go_call (some 23) [1, 2] Tryz.call107 (arena_Store ba_2 ((⟨aw_3, cw_4, (List.replicate (sizeOfC c).toNat (0 : Int)).length, (List.replicate (sizeOfC c).toNat (0 : Int)), 0, 0, 0, 0, false⟩ : Ar).store 0 7597137583116413295) 1 (packW c) (by first | exact hx.2.1 | (simp [Ar.store]; done)) (by have := sizeOfC_ok hc; first | omega | (simp [Ar.store]; omega) | (have hq := blockAt_ok hc (clsOf_pos (c := c) (b := i.1) (by omega)); have := hx.2.2.1; omega)) (by simp only [Cfg.Ok] at hc; first | omega | (simp [Ar.store]; done) | (simp [Ar.store]; omega))) (by kernel_rfl) ?_
  rintro v post ⟨rfl, rfl⟩
  refine go_exec (rs := [.tmp 2, .tmp 3]) (by kernel_rfl) 4000 [.e 0, .u, .e 3, .e 3, .sp [32] [.z q7_2 2 [1, 5, 6, 8, 25, 26, 33, 34]] [.e 3, .n, .w, .u, .e 4, .e 4, .sp [32] [.z q7_2 2 [1, 5, 6, 8, 25, 26, 33, 34]] [.e 4, .n, .w, .u, .z q7_3 0 [1, 5, 9]]]] (o := .obl (b_1 = b_1) (.new fun b_5 => .obl (b_5 = b_5) (.obl (b_5 = b_5) (.br (decide (c.n0 > 0)) (.stop [.o q7_2 2, .c q7_4, .b 1, .c q7_5, .r q7_6, .b 0, .c q7_7] [(1, vP b_1), (5, vP ba_2), (6, vI 1), (8, vP b_5), (25, .agg #[vI c.s0, vI c.n0, vI c.s1, vI c.n1]), (26, vI 0), (33, vP ba_2), (34, vI 0)] [Efdc04 b_1 c, E3504b ba_2 (((⟨aw_3, cw_4, (List.replicate (sizeOfC c).toNat (0 : Int)).length, (List.replicate (sizeOfC c).toNat (0 : Int)), 0, 0, 0, 0, false⟩ : Ar).store 0 7597137583116413295).store 1 (packW c)), E35fb1 (((⟨aw_3, cw_4, (List.replicate (sizeOfC c).toNat (0 : Int)).length, (List.replicate (sizeOfC c).toNat (0 : Int)), 0, 0, 0, 0, false⟩ : Ar).store 0 7597137583116413295).store 1 (packW c)), .pts b_5 [vI c.s0, vI c.n0] 26]) (.obl (b_5 = b_5) (.obl (InK .i64 (1 + c.n0)) (.new fun b_6 => .obl (b_6 = b_6) (.obl (b_6 = b_6) (.br (decide (c.n1 > 0)) (.stop [.o q7_2 2, .c q7_4, .b 1, .c q7_5, .r q7_6, .b 0, .c q7_7] [(1, vP b_1), (5, vP ba_2), (6, vI (1 + c.n0)), (8, vP b_6), (25, .agg #[vI c.s0, vI c.n0, vI c.s1, vI c.n1]), (26, vI 1), (33, vP ba_2), (34, vI 1)] [Efdc04 b_1 c, E3504b ba_2 (((⟨aw_3, cw_4, (List.replicate (sizeOfC c).toNat (0 : Int)).length, (List.replicate (sizeOfC c).toNat (0 : Int)), 0, 0, 0, 0, false⟩ : Ar).store 0 7597137583116413295).store 1 (packW c)), E35fb1 (((⟨aw_3, cw_4, (List.replicate (sizeOfC c).toNat (0 : Int)).length, (List.replicate (sizeOfC c).toNat (0 : Int)), 0, 0, 0, 0, false⟩ : Ar).store 0 7597137583116413295).store 1 (packW c)), .pts b_5 [vI c.s0, vI c.n0] 26, .pts b_6 [vI c.s1, vI c.n1] 26]) (.obl (b_6 = b_6) (.obl (InK .i64 ((1 + c.n0) + c.n1)) (.stop [.c q7_3, .b 2, .c q7_8] [(1, vP b_1), (5, vP ba_2), (9, vI 1)] [Efdc04 b_1 c, E3504b ba_2 (((⟨aw_3, cw_4, (List.replicate (sizeOfC c).toNat (0 : Int)).length, (List.replicate (sizeOfC c).toNat (0 : Int)), 0, 0, 0, 0, false⟩ : Ar).store 0 7597137583116413295).store 1 (packW c)), E35fb1 (((⟨aw_3, cw_4, (List.replicate (sizeOfC c).toNat (0 : Int)).length, (List.replicate (sizeOfC c).toNat (0 : Int)), 0, 0, 0, 0, false⟩ : Ar).store 0 7597137583116413295).store 1 (packW c)), .pts b_5 [vI c.s0, vI c.n0] 26, .pts b_6 [vI c.s1, vI c.n1] 26])))))))))))) (by kernel_rfl) ?_
  refine ok_obl rfl ?_
  refine ok_new fun b_5 => ?_
  refine ok_obl rfl ?_
  refine ok_obl rfl ?_
  refine ok_br (fun h_7 => ?_) (fun h_7 => ?_)
  · replace h_7 := decT h_7
    refine ok_stop ?_
    refine go_call (some 35) [] Tryz.call103 (plan_Head 0 (by first | assumption | omega | (simp only [InK] at *; omega))) (by kernel_rfl) ?_
    rintro v post ⟨rfl, rfl⟩
    refine go_exec (rs := [.tmp 2, .tmp 3]) (by kernel_rfl) 4000 [.w, .z q7_2 5 [1, 5, 6, 8, 25, 26, 33, 35, 37]] (o := .stop [.o q7_2 5, .c q7_4, .b 1, .c q7_5, .r q7_6, .b 0, .c q7_7] [(1, vP b_1), (5, vP ba_2), (6, vI 1), (8, vP b_5), (25, .agg #[vI c.s0, vI c.n0, vI c.s1, vI c.n1]), (26, vI 0), (33, vP ba_2), (35, vI (3 + 0)), (37, vU 1)] [Efdc04 b_1 c, E3504b ba_2 (((⟨aw_3, cw_4, (List.replicate (sizeOfC c).toNat (0 : Int)).length, (List.replicate (sizeOfC c).toNat (0 : Int)), 0, 0, 0, 0, false⟩ : Ar).store 0 7597137583116413295).store 1 (packW c)), E35fb1 (((⟨aw_3, cw_4, (List.replicate (sizeOfC c).toNat (0 : Int)).length, (List.replicate (sizeOfC c).toNat (0 : Int)), 0, 0, 0, 0, false⟩ : Ar).store 0 7597137583116413295).store 1 (packW c)), .pts b_5 [vI c.s0, vI c.n0] 26]) (by kernel_rfl) ?_
    refine ok_stop ?_
    refine go_call (some 38) [1, 2] Tryz.call107 (arena_Store ba_2 (((⟨aw_3, cw_4, (List.replicate (sizeOfC c).toNat (0 : Int)).length, (List.replicate (sizeOfC c).toNat (0 : Int)), 0, 0, 0, 0, false⟩ : Ar).store 0 7597137583116413295).store 1 (packW c)) (3 + 0) 1 (by first | exact hx.2.1 | (simp [Ar.store]; done)) (by have := sizeOfC_ok hc; first | omega | (simp [Ar.store]; omega) | (have hq := blockAt_ok hc (clsOf_pos (c := c) (b := i.1) (by omega)); have := hx.2.2.1; omega)) (by simp only [Cfg.Ok] at hc; first | omega | (simp [Ar.store]; done) | (simp [Ar.store]; omega))) (by kernel_rfl) ?_
    rintro v post ⟨rfl, rfl⟩
    refine go_exec (rs := [.tmp 2, .tmp 3]) (by kernel_rfl) 4000 [.e 1, .n, .w, .u, .e 4, .e 4, .sp [32] [.z q7_2 2 [1, 5, 6, 8, 25, 26, 33, 34]] [.e 4, .n, .w, .u, .z q7_3 0 [1, 5, 9]]] (o := .obl (b_5 = b_5) (.obl (InK .i64 (1 + c.n0)) (.new fun b_8 => .obl (b_8 = b_8) (.obl (b_8 = b_8) (.br (decide (c.n1 > 0)) (.stop [.o q7_2 2, .c q7_4, .b 1, .c q7_5, .r q7_6, .b 0, .c q7_7] [(1, vP b_1), (5, vP ba_2), (6, vI (1 + c.n0)), (8, vP b_8), (25, .agg #[vI c.s0, vI c.n0, vI c.s1, vI c.n1]), (26, vI 1), (33, vP ba_2), (34, vI 1)] [Efdc04 b_1 c, .pts b_5 [vI c.s0, vI c.n0] 26, E3504b ba_2 ((((⟨aw_3, cw_4, (List.replicate (sizeOfC c).toNat (0 : Int)).length, (List.replicate (sizeOfC c).toNat (0 : Int)), 0, 0, 0, 0, false⟩ : Ar).store 0 7597137583116413295).store 1 (packW c)).store (3 + 0) 1), E35fb1 ((((⟨aw_3, cw_4, (List.replicate (sizeOfC c).toNat (0 : Int)).length, (List.replicate (sizeOfC c).toNat (0 : Int)), 0, 0, 0, 0, false⟩ : Ar).store 0 7597137583116413295).store 1 (packW c)).store (3 + 0) 1), .pts b_8 [vI c.s1, vI c.n1] 26]) (.obl (b_8 = b_8) (.obl (InK .i64 ((1 + c.n0) + c.n1)) (.stop [.c q7_3, .b 2, .c q7_8] [(1, vP b_1), (5, vP ba_2), (9, vI 1)] [Efdc04 b_1 c, .pts b_5 [vI c.s0, vI c.n0] 26, E3504b ba_2 ((((⟨aw_3, cw_4, (List.replicate (sizeOfC c).toNat (0 : Int)).length, (List.replicate (sizeOfC c).toNat (0 : Int)), 0, 0, 0, 0, false⟩ : Ar).store 0 7597137583116413295).store 1 (packW c)).store (3 + 0) 1), E35fb1 ((((⟨aw_3, cw_4, (List.replicate (sizeOfC c).toNat (0 : Int)).length, (List.replicate (sizeOfC c).toNat (0 : Int)), 0, 0, 0, 0, false⟩ : Ar).store 0 7597137583116413295).store 1 (packW c)).store (3 + 0) 1), .pts b_8 [vI c.s1, vI c.n1] 26])))))))) (by kernel_rfl) ?_
    refine ok_obl rfl ?_
    refine ok_obl (by simp only [Cfg.Ok, InK] at *; omega) ?_
    refine ok_new fun b_8 => ?_
    refine ok_obl rfl ?_
    refine ok_obl rfl ?_
    refine ok_br (fun h_9 => ?_) (fun h_9 => ?_)
    · replace h_9 := decT h_9
      refine ok_stop ?_
      refine go_call (some 35) [] Tryz.call103 (plan_Head 1 (by first | assumption | omega | (simp only [InK] at *; omega))) (by kernel_rfl) ?_
      rintro v post ⟨rfl, rfl⟩
      refine go_exec (rs := [.tmp 2, .tmp 3]) (by kernel_rfl) 4000 [.n, .z q7_2 5 [1, 5, 6, 8, 25, 26, 33, 35, 37]] (o := .obl (InK .u64 (1 + c.n0)) (.stop [.o q7_2 5, .c q7_4, .b 1, .c q7_5, .r q7_6, .b 0, .c q7_7] [(1, vP b_1), (5, vP ba_2), (6, vI (1 + c.n0)), (8, vP b_8), (25, .agg #[vI c.s0, vI c.n0, vI c.s1, vI c.n1]), (26, vI 1), (33, vP ba_2), (35, vI (3 + 1)), (37, vU (1 + c.n0))] [Efdc04 b_1 c, .pts b_5 [vI c.s0, vI c.n0] 26, E3504b ba_2 ((((⟨aw_3, cw_4, (List.replicate (sizeOfC c).toNat (0 : Int)).length, (List.replicate (sizeOfC c).toNat (0 : Int)), 0, 0, 0, 0, false⟩ : Ar).store 0 7597137583116413295).store 1 (packW c)).store (3 + 0) 1), E35fb1 ((((⟨aw_3, cw_4, (List.replicate (sizeOfC c).toNat (0 : Int)).length, (List.replicate (sizeOfC c).toNat (0 : Int)), 0, 0, 0, 0, false⟩ : Ar).store 0 7597137583116413295).store 1 (packW c)).store (3 + 0) 1), .pts b_8 [vI c.s1, vI c.n1] 26])) (by kernel_rfl) ?_
      refine ok_obl (by simp only [Cfg.Ok, InK] at *; omega) ?_
      refine ok_stop ?_
      refine go_call (some 38) [2, 3] Tryz.call107 (arena_Store ba_2 ((((⟨aw_3, cw_4, (List.replicate (sizeOfC c).toNat (0 : Int)).length, (List.replicate (sizeOfC c).toNat (0 : Int)), 0, 0, 0, 0, false⟩ : Ar).store 0 7597137583116413295).store 1 (packW c)).store (3 + 0) 1) (3 + 1) (1 + c.n0) (by first | exact hx.2.1 | (simp [Ar.store]; done)) (by have := sizeOfC_ok hc; first | omega | (simp [Ar.store]; omega) | (have hq := blockAt_ok hc (clsOf_pos (c := c) (b := i.1) (by omega)); have := hx.2.2.1; omega)) (by simp only [Cfg.Ok] at hc; first | omega | (simp [Ar.store]; done) | (simp [Ar.store]; omega))) (by kernel_rfl) ?_
      rintro v post ⟨rfl, rfl⟩
      refine go_exec (rs := [.tmp 2, .tmp 3]) (by kernel_rfl) 4000 [.e 2, .n, .w, .u, .z q7_3 0 [1, 5, 9]] (o := .obl (b_8 = b_8) (.obl (InK .i64 ((1 + c.n0) + c.n1)) (.stop [.c q7_3, .b 2, .c q7_8] [(1, vP b_1), (5, vP ba_2), (9, vI 1)] [Efdc04 b_1 c, .pts b_5 [vI c.s0, vI c.n0] 26, .pts b_8 [vI c.s1, vI c.n1] 26, E3504b ba_2 (((((⟨aw_3, cw_4, (List.replicate (sizeOfC c).toNat (0 : Int)).length, (List.replicate (sizeOfC c).toNat (0 : Int)), 0, 0, 0, 0, false⟩ : Ar).store 0 7597137583116413295).store 1 (packW c)).store (3 + 0) 1).store (3 + 1) (1 + c.n0)), E35fb1 (((((⟨aw_3, cw_4, (List.replicate (sizeOfC c).toNat (0 : Int)).length, (List.replicate (sizeOfC c).toNat (0 : Int)), 0, 0, 0, 0, false⟩ : Ar).store 0 7597137583116413295).store 1 (packW c)).store (3 + 0) 1).store (3 + 1) (1 + c.n0))]))) (by kernel_rfl) ?_
      refine ok_obl rfl ?_
      refine ok_obl (by simp only [Cfg.Ok, InK] at *; omega) ?_
      refine ok_stop ?_
      have hA0 : (((((⟨aw_3, cw_4, (List.replicate (sizeOfC c).toNat (0 : Int)).length, (List.replicate (sizeOfC c).toNat (0 : Int)), 0, 0, 0, 0, false⟩ : Ar).store 0 7597137583116413295).store 1 (packW c)).store (3 + 0) 1).store (3 + 1) (1 + c.n0)).ws.length = (((((⟨aw_3, cw_4, (List.replicate (sizeOfC c).toNat (0 : Int)).length, (List.replicate (sizeOfC c).toNat (0 : Int)), 0, 0, 0, 0, false⟩ : Ar).store 0 7597137583116413295).store 1 (packW c)).store (3 + 0) 1).store (3 + 1) (1 + c.n0)).n ∧ ((((((⟨aw_3, cw_4, (List.replicate (sizeOfC c).toNat (0 : Int)).length, (List.replicate (sizeOfC c).toNat (0 : Int)), 0, 0, 0, 0, false⟩ : Ar).store 0 7597137583116413295).store 1 (packW c)).store (3 + 0) 1).store (3 + 1) (1 + c.n0)).n : Int) = sizeOfC c ∧ 0 ≤ (((((⟨aw_3, cw_4, (List.replicate (sizeOfC c).toNat (0 : Int)).length, (List.replicate (sizeOfC c).toNat (0 : Int)), 0, 0, 0, 0, false⟩ : Ar).store 0 7597137583116413295).store 1 (packW c)).store (3 + 0) 1).store (3 + 1) (1 + c.n0)).steps ∧ (((((⟨aw_3, cw_4, (List.replicate (sizeOfC c).toNat (0 : Int)).length, (List.replicate (sizeOfC c).toNat (0 : Int)), 0, 0, 0, 0, false⟩ : Ar).store 0 7597137583116413295).store 1 (packW c)).store (3 + 0) 1).store (3 + 1) (1 + c.n0)).steps ≤ 4 := by have := sizeOfC_ok hc; simp [Ar.store]; omega
      refine go_loop (ι := Int × Ar) (fun i => [(1, vP b_1), (5, vP ba_2), (9, vI i.1)]) (fun i => [Efdc04 b_1 c, E3504b ba_2 i.2, E35fb1 i.2]) (fun i => mkLink c (c.n0 + c.n1 - i.1).toNat i.1 i.2 = mkAr c aw_3 cw_4 ∧ i.2.ws.length = i.2.n ∧ (i.2.n : Int) = sizeOfC c ∧ (0 ≤ i.2.steps ∧ i.2.steps ≤ 4 + i.1) ∧ 1 ≤ i.1) (fun i => (c.n0 + c.n1 - i.1).toNat) (1, (((((⟨aw_3, cw_4, (List.replicate (sizeOfC c).toNat (0 : Int)).length, (List.replicate (sizeOfC c).toNat (0 : Int)), 0, 0, 0, 0, false⟩ : Ar).store 0 7597137583116413295).store 1 (packW c)).store (3 + 0) 1).store (3 + 1) (1 + c.n0))) [1, 5, 9] [0, 3, 4] (by kernel_rfl) rfl (by kernel_rfl) (by kernel_rfl) ⟨(by unfold mkAr mkHead; (repeat' (first | rw [if_pos (show 0 < c.n1 by omega)] | rw [if_pos (show 0 < c.n0 by omega)] | rw [if_neg (show ¬ 0 < c.n1 by omega)] | rw [if_neg (show ¬ 0 < c.n0 by omega)])); first | done | kernel_rfl), hA0.1, hA0.2.1, (by dsimp only; omega), (by dsimp only; omega)⟩ ?_
      intro i J_10 hIJ_10 hJ_10
      have hx := hIJ_10
      refine go_exec (rs := [.tmp 2, .tmp 3]) (by kernel_rfl) 4000 [.e 0, .z q7_9 2 [1, 5, 9, 44, 45]] (o := .obl (b_1 = b_1) (.stop [.o q7_9 2, .c q7_10, .c q7_11, .j J_10, .b 2, .c q7_8] [(1, vP b_1), (5, vP ba_2), (9, vI i.1), (44, vI i.1), (45, cfgV c)] [Efdc04 b_1 c, E3504b ba_2 i.2, E35fb1 i.2])) (by kernel_rfl) ?_
      refine ok_obl rfl ?_
      refine ok_stop ?_
      refine go_call (some 46) [] Tryz.call121 (plan_Blocks c (by first | assumption | omega | (simp only [InK] at *; omega))) (by kernel_rfl) ?_
      rintro v post ⟨rfl, rfl⟩
      refine go_exec (rs := [.tmp 2, .tmp 3]) (by kernel_rfl) 4000 [.sp [47] [.z q7_12 0 [1, 5, 9]] []] (o := .br (decide (i.1 < (c.n0 + c.n1))) (.stop [.c q7_12, .c q7_13, .b 3, .c q7_14, .j J_10, .b 2, .c q7_8] [(1, vP b_1), (5, vP ba_2), (9, vI i.1)] [Efdc04 b_1 c, E3504b ba_2 i.2, E35fb1 i.2]) (.ret (.tuple #[vP ba_2, .nilIface]) [Efdc04 b_1 c, E3504b ba_2 i.2, E35fb1 i.2])) (by kernel_rfl) ?_
      refine ok_br (fun h_11 => ?_) (fun h_11 => ?_)
      · replace h_11 := decT h_11
        refine ok_stop ?_
        refine go_quiet (tm' := [(1, vP b_1), (5, vP ba_2), (9, vI i.1), (57, .bool ((clsOf c i.1) == (clsOf c (i.1 + 1))))]) (ps := [b_1 = b_1, b_1 = b_1, InK .i64 (i.1 + 1)]) (cs := [(78, #[cfgV c, vI i.1], vI (clsOf c i.1)), (78, #[cfgV c, vI (i.1 + 1)], vI (clsOf c (i.1 + 1)))]) [(0, .h (.e 0)), (1, .h .w), (2, .q (vI (clsOf c i.1))), (3, .h (.e 0)), (4, .h .w), (5, .h (.n)), (6, .q (vI (clsOf c (i.1 + 1)))), (7, .h .w)] [1, 5, 9, 57] (by kernel_rfl) (by kernel_rfl) ⟨rfl, rfl, (by simp only [Cfg.Ok, InK] at *; omega), trivial⟩ ⟨⟨Tryz.call78, quiet_of [] (plan_Class c i.1 (by first | assumption | omega | (simp only [InK] at *; omega)) (by simp only [Cfg.Ok, InK] at *; omega)) (by kernel_rfl) (by rintro v post ⟨rfl, rfl⟩; exact ⟨rfl, rfl⟩)⟩, ⟨Tryz.call78, quiet_of [] (plan_Class c (i.1 + 1) (by first | assumption | omega | (simp only [InK] at *; omega)) (by simp only [Cfg.Ok, InK] at *; omega)) (by kernel_rfl) (by rintro v post ⟨rfl, rfl⟩; exact ⟨rfl, rfl⟩)⟩, trivial⟩ ?_
        refine go_exec (rs := [.tmp 2, .tmp 3]) (by kernel_rfl) 4000 [.sp [57] [.e 0, .z q7_15 3 [1, 5, 9, 58, 59, 60]] [.n, .z [] 0 [1, 5, 9]]] (o := .br ((clsOf c i.1) == (clsOf c (i.1 + 1))) (.obl (b_1 = b_1) (.stop [.o q7_15 3, .b 3, .c q7_14, .j J_10, .b 2, .c q7_8] [(1, vP b_1), (5, vP ba_2), (9, vI i.1), (58, vP ba_2), (59, cfgV c), (60, vI i.1)] [Efdc04 b_1 c, E3504b ba_2 i.2, E35fb1 i.2])) (.obl (InK .i64 (i.1 + 1)) (.stop [.j J_10, .b 2, .c q7_8] [(1, vP b_1), (5, vP ba_2), (9, vI (i.1 + 1))] [Efdc04 b_1 c, E3504b ba_2 i.2, E35fb1 i.2]))) (by kernel_rfl) ?_
        refine ok_br (fun h_12 => ?_) (fun h_12 => ?_)
        · replace h_12 := beqT h_12
          refine ok_obl rfl ?_
          refine ok_stop ?_
          refine go_call (some 61) [] Tryz.call105 (plan_Block c i.1 (by first | assumption | omega | (simp only [InK] at *; omega)) (by simp only [Cfg.Ok, InK] at *; omega)) (by kernel_rfl) ?_
          rintro v post ⟨rfl, rfl⟩
          refine go_exec (rs := [.tmp 2, .tmp 3]) (by kernel_rfl) 4000 [.n, .n, .z q7_15 7 [1, 5, 9, 58, 61, 64]] (o := .obl (InK .i64 (i.1 + 1)) (.obl (InK .u64 (i.1 + 1)) (.stop [.o q7_15 7, .b 3, .c q7_14, .j J_10, .b 2, .c q7_8] [(1, vP b_1), (5, vP ba_2), (9, vI i.1), (58, vP ba_2), (61, vI (blockAt c i.1)), (64, vU (i.1 + 1))] [Efdc04 b_1 c, E3504b ba_2 i.2, E35fb1 i.2]))) (by kernel_rfl) ?_
          refine ok_obl (by simp only [Cfg.Ok, InK] at *; omega) ?_
          refine ok_obl (by simp only [Cfg.Ok, InK] at *; omega) ?_
          refine ok_stop ?_
          refine go_call (some 65) [1, 2] Tryz.call107 (arena_Store ba_2 i.2 (blockAt c i.1) (i.1 + 1) (by first | exact hx.2.1 | (simp [Ar.store]; done)) (by have := sizeOfC_ok hc; first | omega | (simp [Ar.store]; omega) | (have hq := blockAt_ok hc (clsOf_pos (c := c) (b := i.1) (by omega)); have := hx.2.2.1; omega)) (by simp only [Cfg.Ok] at hc; first | omega | (simp [Ar.store]; done) | (simp [Ar.store]; omega))) (by kernel_rfl) ?_
          rintro v post ⟨rfl, rfl⟩
          refine go_exec (rs := [.tmp 2, .tmp 3]) (by kernel_rfl) 4000 [.n, .z [] 0 [1, 5, 9]] (o := .obl (InK .i64 (i.1 + 1)) (.stop [.j J_10, .b 2, .c q7_8] [(1, vP b_1), (5, vP ba_2), (9, vI (i.1 + 1))] [Efdc04 b_1 c, E3504b ba_2 (i.2.store (blockAt c i.1) (i.1 + 1)), E35fb1 (i.2.store (blockAt c i.1) (i.1 + 1))])) (by kernel_rfl) ?_
          refine ok_obl (by simp only [Cfg.Ok, InK] at *; omega) ?_
          refine ok_stop ?_
          exact go_back hJ_10 ((i.1 + 1), (i.2.store (blockAt c i.1) (i.1 + 1))) [0, 1, 2] (by kernel_rfl) rfl (by kernel_rfl) ⟨(by rw [← hx.1, mkLink_next (c := c) (b := i.1) (A := i.2) (by omega), if_pos (by assumption)]), (by first | exact hx.2.1 | (simp only [Ar.store, List.length_set]; exact hx.2.1)), hx.2.2.1, (by simp only [Ar.store] at *; omega), (by omega)⟩ (by simp; omega)
        · replace h_12 := beqF h_12
          refine ok_obl (by simp only [Cfg.Ok, InK] at *; omega) ?_
          refine ok_stop ?_
          exact go_back hJ_10 ((i.1 + 1), i.2) [0, 1, 2] (by kernel_rfl) rfl (by kernel_rfl) ⟨(by rw [← hx.1, mkLink_next (c := c) (b := i.1) (A := i.2) (by omega), if_neg (by assumption)]), (by first | exact hx.2.1 | (simp only [Ar.store, List.length_set]; exact hx.2.1)), hx.2.2.1, (by simp only [Ar.store] at *; omega), (by omega)⟩ (by simp; omega)
      · replace h_11 := decF h_11
        exact ret_ok (post := [E3504b ba_2 i.2, E35fb1 i.2]) [1, 2] (by kernel_rfl) ⟨ba_2, aw_3, cw_4, rfl, (by rw [← hx.1, mkLink_end (c := c) (b := i.1) (A := i.2) (by omega)])⟩
    · replace h_9 := decF h_9
      refine ok_obl rfl ?_
      refine ok_obl (by simp only [Cfg.Ok, InK] at *; omega) ?_
      refine ok_stop ?_
      have hA0 : ((((⟨aw_3, cw_4, (List.replicate (sizeOfC c).toNat (0 : Int)).length, (List.replicate (sizeOfC c).toNat (0 : Int)), 0, 0, 0, 0, false⟩ : Ar).store 0 7597137583116413295).store 1 (packW c)).store (3 + 0) 1).ws.length = ((((⟨aw_3, cw_4, (List.replicate (sizeOfC c).toNat (0 : Int)).length, (List.replicate (sizeOfC c).toNat (0 : Int)), 0, 0, 0, 0, false⟩ : Ar).store 0 7597137583116413295).store 1 (packW c)).store (3 + 0) 1).n ∧ (((((⟨aw_3, cw_4, (List.replicate (sizeOfC c).toNat (0 : Int)).length, (List.replicate (sizeOfC c).toNat (0 : Int)), 0, 0, 0, 0, false⟩ : Ar).store 0 7597137583116413295).store 1 (packW c)).store (3 + 0) 1).n : Int) = sizeOfC c ∧ 0 ≤ ((((⟨aw_3, cw_4, (List.replicate (sizeOfC c).toNat (0 : Int)).length, (List.replicate (sizeOfC c).toNat (0 : Int)), 0, 0, 0, 0, false⟩ : Ar).store 0 7597137583116413295).store 1 (packW c)).store (3 + 0) 1).steps ∧ ((((⟨aw_3, cw_4, (List.replicate (sizeOfC c).toNat (0 : Int)).length, (List.replicate (sizeOfC c).toNat (0 : Int)), 0, 0, 0, 0, false⟩ : Ar).store 0 7597137583116413295).store 1 (packW c)).store (3 + 0) 1).steps ≤ 4 := by have := sizeOfC_ok hc; simp [Ar.store]; omega
      refine go_loop (ι := Int × Ar) (fun i => [(1, vP b_1), (5, vP ba_2), (9, vI i.1)]) (fun i => [Efdc04 b_1 c, E3504b ba_2 i.2, E35fb1 i.2]) (fun i => mkLink c (c.n0 + c.n1 - i.1).toNat i.1 i.2 = mkAr c aw_3 cw_4 ∧ i.2.ws.length = i.2.n ∧ (i.2.n : Int) = sizeOfC c ∧ (0 ≤ i.2.steps ∧ i.2.steps ≤ 4 + i.1) ∧ 1 ≤ i.1) (fun i => (c.n0 + c.n1 - i.1).toNat) (1, ((((⟨aw_3, cw_4, (List.replicate (sizeOfC c).toNat (0 : Int)).length, (List.replicate (sizeOfC c).toNat (0 : Int)), 0, 0, 0, 0, false⟩ : Ar).store 0 7597137583116413295).store 1 (packW c)).store (3 + 0) 1)) [1, 5, 9] [0, 2, 3] (by kernel_rfl) rfl (by kernel_rfl) (by kernel_rfl) ⟨(by unfold mkAr mkHead; (repeat' (first | rw [if_pos (show 0 < c.n1 by omega)] | rw [if_pos (show 0 < c.n0 by omega)] | rw [if_neg (show ¬ 0 < c.n1 by omega)] | rw [if_neg (show ¬ 0 < c.n0 by omega)])); first | done | kernel_rfl), hA0.1, hA0.2.1, (by dsimp only; omega), (by dsimp only; omega)⟩ ?_
      intro i J_13 hIJ_13 hJ_13
      have hx := hIJ_13
      refine go_exec (rs := [.tmp 2, .tmp 3]) (by kernel_rfl) 4000 [.e 0, .z q7_9 2 [1, 5, 9, 44, 45]] (o := .obl (b_1 = b_1) (.stop [.o q7_9 2, .c q7_10, .c q7_11, .j J_13, .b 2, .c q7_8] [(1, vP b_1), (5, vP ba_2), (9, vI i.1), (44, vI i.1), (45, cfgV c)] [Efdc04 b_1 c, E3504b ba_2 i.2, E35fb1 i.2])) (by kernel_rfl) ?_
      refine ok_obl rfl ?_
      refine ok_stop ?_
      refine go_call (some 46) [] Tryz.call121 (plan_Blocks c (by first | assumption | omega | (simp only [InK] at *; omega))) (by kernel_rfl) ?_
      rintro v post ⟨rfl, rfl⟩
      refine go_exec (rs := [.tmp 2, .tmp 3]) (by kernel_rfl) 4000 [.sp [47] [.z q7_12 0 [1, 5, 9]] []] (o := .br (decide (i.1 < (c.n0 + c.n1))) (.stop [.c q7_12, .c q7_13, .b 3, .c q7_14, .j J_13, .b 2, .c q7_8] [(1, vP b_1), (5, vP ba_2), (9, vI i.1)] [Efdc04 b_1 c, E3504b ba_2 i.2, E35fb1 i.2]) (.ret (.tuple #[vP ba_2, .nilIface]) [Efdc04 b_1 c, E3504b ba_2 i.2, E35fb1 i.2])) (by kernel_rfl) ?_
      refine ok_br (fun h_14 => ?_) (fun h_14 => ?_)
      · replace h_14 := decT h_14
        refine ok_stop ?_
        refine go_quiet (tm' := [(1, vP b_1), (5, vP ba_2), (9, vI i.1), (57, .bool ((clsOf c i.1) == (clsOf c (i.1 + 1))))]) (ps := [b_1 = b_1, b_1 = b_1, InK .i64 (i.1 + 1)]) (cs := [(78, #[cfgV c, vI i.1], vI (clsOf c i.1)), (78, #[cfgV c, vI (i.1 + 1)], vI (clsOf c (i.1 + 1)))]) [(0, .h (.e 0)), (1, .h .w), (2, .q (vI (clsOf c i.1))), (3, .h (.e 0)), (4, .h .w), (5, .h (.n)), (6, .q (vI (clsOf c (i.1 + 1)))), (7, .h .w)] [1, 5, 9, 57] (by kernel_rfl) (by kernel_rfl) ⟨rfl, rfl, (by simp only [Cfg.Ok, InK] at *; omega), trivial⟩ ⟨⟨Tryz.call78, quiet_of [] (plan_Class c i.1 (by first | assumption | omega | (simp only [InK] at *; omega)) (by simp only [Cfg.Ok, InK] at *; omega)) (by kernel_rfl) (by rintro v post ⟨rfl, rfl⟩; exact ⟨rfl, rfl⟩)⟩, ⟨Tryz.call78, quiet_of [] (plan_Class c (i.1 + 1) (by first | assumption | omega | (simp only [InK] at *; omega)) (by simp only [Cfg.Ok, InK] at *; omega)) (by kernel_rfl) (by rintro v post ⟨rfl, rfl⟩; exact ⟨rfl, rfl⟩)⟩, trivial⟩ ?_
        refine go_exec (rs := [.tmp 2, .tmp 3]) (by kernel_rfl) 4000 [.sp [57] [.e 0, .z q7_15 3 [1, 5, 9, 58, 59, 60]] [.n, .z [] 0 [1, 5, 9]]] (o := .br ((clsOf c i.1) == (clsOf c (i.1 + 1))) (.obl (b_1 = b_1) (.stop [.o q7_15 3, .b 3, .c q7_14, .j J_13, .b 2, .c q7_8] [(1, vP b_1), (5, vP ba_2), (9, vI i.1), (58, vP ba_2), (59, cfgV c), (60, vI i.1)] [Efdc04 b_1 c, E3504b ba_2 i.2, E35fb1 i.2])) (.obl (InK .i64 (i.1 + 1)) (.stop [.j J_13, .b 2, .c q7_8] [(1, vP b_1), (5, vP ba_2), (9, vI (i.1 + 1))] [Efdc04 b_1 c, E3504b ba_2 i.2, E35fb1 i.2]))) (by kernel_rfl) ?_
        refine ok_br (fun h_15 => ?_) (fun h_15 => ?_)
        · replace h_15 := beqT h_15
          refine ok_obl rfl ?_
          refine ok_stop ?_
          refine go_call (some 61) [] Tryz.call105 (plan_Block c i.1 (by first | assumption | omega | (simp only [InK] at *; omega)) (by simp only [Cfg.Ok, InK] at *; omega)) (by kernel_rfl) ?_
          rintro v post ⟨rfl, rfl⟩
          refine go_exec (rs := [.tmp 2, .tmp 3]) (by kernel_rfl) 4000 [.n, .n, .z q7_15 7 [1, 5, 9, 58, 61, 64]] (o := .obl (InK .i64 (i.1 + 1)) (.obl (InK .u64 (i.1 + 1)) (.stop [.o q7_15 7, .b 3, .c q7_14, .j J_13, .b 2, .c q7_8] [(1, vP b_1), (5, vP ba_2), (9, vI i.1), (58, vP ba_2), (61, vI (blockAt c i.1)), (64, vU (i.1 + 1))] [Efdc04 b_1 c, E3504b ba_2 i.2, E35fb1 i.2]))) (by kernel_rfl) ?_
          refine ok_obl (by simp only [Cfg.Ok, InK] at *; omega) ?_
          refine ok_obl (by simp only [Cfg.Ok, InK] at *; omega) ?_
          refine ok_stop ?_
          refine go_call (some 65) [1, 2] Tryz.call107 (arena_Store ba_2 i.2 (blockAt c i.1) (i.1 + 1) (by first | exact hx.2.1 | (simp [Ar.store]; done)) (by have := sizeOfC_ok hc; first | omega | (simp [Ar.store]; omega) | (have hq := blockAt_ok hc (clsOf_pos (c := c) (b := i.1) (by omega)); have := hx.2.2.1; omega)) (by simp only [Cfg.Ok] at hc; first | omega | (simp [Ar.store]; done) | (simp [Ar.store]; omega))) (by kernel_rfl) ?_
          rintro v post ⟨rfl, rfl⟩
          refine go_exec (rs := [.tmp 2, .tmp 3]) (by kernel_rfl) 4000 [.n, .z [] 0 [1, 5, 9]] (o := .obl (InK .i64 (i.1 + 1)) (.stop [.j J_13, .b 2, .c q7_8] [(1, vP b_1), (5, vP ba_2), (9, vI (i.1 + 1))] [Efdc04 b_1 c, E3504b ba_2 (i.2.store (blockAt c i.1) (i.1 + 1)), E35fb1 (i.2.store (blockAt c i.1) (i.1 + 1))])) (by kernel_rfl) ?_
          refine ok_obl (by simp only [Cfg.Ok, InK] at *; omega) ?_
          refine ok_stop ?_
          exact go_back hJ_13 ((i.1 + 1), (i.2.store (blockAt c i.1) (i.1 + 1))) [0, 1, 2] (by kernel_rfl) rfl (by kernel_rfl) ⟨(by rw [← hx.1, mkLink_next (c := c) (b := i.1) (A := i.2) (by omega), if_pos (by assumption)]), (by first | exact hx.2.1 | (simp only [Ar.store, List.length_set]; exact hx.2.1)), hx.2.2.1, (by simp only [Ar.store] at *; omega), (by omega)⟩ (by simp; omega)
        · replace h_15 := beqF h_15
          refine ok_obl (by simp only [Cfg.Ok, InK] at *; omega) ?_
          refine ok_stop ?_
          exact go_back hJ_13 ((i.1 + 1), i.2) [0, 1, 2] (by kernel_rfl) rfl (by kernel_rfl) ⟨(by rw [← hx.1, mkLink_next (c := c) (b := i.1) (A := i.2) (by omega), if_neg (by assumption)]), (by first | exact hx.2.1 | (simp only [Ar.store, List.length_set]; exact hx.2.1)), hx.2.2.1, (by simp only [Ar.store] at *; omega), (by omega)⟩ (by simp; omega)
      · replace h_14 := decF h_14
        exact ret_ok (post := [E3504b ba_2 i.2, E35fb1 i.2]) [1, 2] (by kernel_rfl) ⟨ba_2, aw_3, cw_4, rfl, (by rw [← hx.1, mkLink_end (c := c) (b := i.1) (A := i.2) (by omega)])⟩
  · replace h_7 := decF h_7
    refine ok_obl rfl ?_
    refine ok_obl (by simp only [Cfg.Ok, InK] at *; omega) ?_
    refine ok_new fun b_6 => ?_
    refine ok_obl rfl ?_
    refine ok_obl rfl ?_
    refine ok_br (fun h_16 => ?_) (fun h_16 => ?_)
    · replace h_16 := decT h_16
      refine ok_stop ?_
      refine go_call (some 35) [] Tryz.call103 (plan_Head 1 (by first | assumption | omega | (simp only [InK] at *; omega))) (by kernel_rfl) ?_
      rintro v post ⟨rfl, rfl⟩
      refine go_exec (rs := [.tmp 2, .tmp 3]) (by kernel_rfl) 4000 [.n, .z q7_2 5 [1, 5, 6, 8, 25, 26, 33, 35, 37]] (o := .obl (InK .u64 (1 + c.n0)) (.stop [.o q7_2 5, .c q7_4, .b 1, .c q7_5, .r q7_6, .b 0, .c q7_7] [(1, vP b_1), (5, vP ba_2), (6, vI (1 + c.n0)), (8, vP b_6), (25, .agg #[vI c.s0, vI c.n0, vI c.s1, vI c.n1]), (26, vI 1), (33, vP ba_2), (35, vI (3 + 1)), (37, vU (1 + c.n0))] [Efdc04 b_1 c, E3504b ba_2 (((⟨aw_3, cw_4, (List.replicate (sizeOfC c).toNat (0 : Int)).length, (List.replicate (sizeOfC c).toNat (0 : Int)), 0, 0, 0, 0, false⟩ : Ar).store 0 7597137583116413295).store 1 (packW c)), E35fb1 (((⟨aw_3, cw_4, (List.replicate (sizeOfC c).toNat (0 : Int)).length, (List.replicate (sizeOfC c).toNat (0 : Int)), 0, 0, 0, 0, false⟩ : Ar).store 0 7597137583116413295).store 1 (packW c)), .pts b_5 [vI c.s0, vI c.n0] 26, .pts b_6 [vI c.s1, vI c.n1] 26])) (by kernel_rfl) ?_
      refine ok_obl (by simp only [Cfg.Ok, InK] at *; omega) ?_
      refine ok_stop ?_
      refine go_call (some 38) [1, 2] Tryz.call107 (arena_Store ba_2 (((⟨aw_3, cw_4, (List.replicate (sizeOfC c).toNat (0 : Int)).length, (List.replicate (sizeOfC c).toNat (0 : Int)), 0, 0, 0, 0, false⟩ : Ar).store 0 7597137583116413295).store 1 (packW c)) (3 + 1) (1 + c.n0) (by first | exact hx.2.1 | (simp [Ar.store]; done)) (by have := sizeOfC_ok hc; first | omega | (simp [Ar.store]; omega) | (have hq := blockAt_ok hc (clsOf_pos (c := c) (b := i.1) (by omega)); have := hx.2.2.1; omega)) (by simp only [Cfg.Ok] at hc; first | omega | (simp [Ar.store]; done) | (simp [Ar.store]; omega))) (by kernel_rfl) ?_
      rintro v post ⟨rfl, rfl⟩
      refine go_exec (rs := [.tmp 2, .tmp 3]) (by kernel_rfl) 4000 [.e 2, .n, .w, .u, .z q7_3 0 [1, 5, 9]] (o := .obl (b_6 = b_6) (.obl (InK .i64 ((1 + c.n0) + c.n1)) (.stop [.c q7_3, .b 2, .c q7_8] [(1, vP b_1), (5, vP ba_2), (9, vI 1)] [Efdc04 b_1 c, .pts b_5 [vI c.s0, vI c.n0] 26, .pts b_6 [vI c.s1, vI c.n1] 26, E3504b ba_2 ((((⟨aw_3, cw_4, (List.replicate (sizeOfC c).toNat (0 : Int)).length, (List.replicate (sizeOfC c).toNat (0 : Int)), 0, 0, 0, 0, false⟩ : Ar).store 0 7597137583116413295).store 1 (packW c)).store (3 + 1) (1 + c.n0)), E35fb1 ((((⟨aw_3, cw_4, (List.replicate (sizeOfC c).toNat (0 : Int)).length, (List.replicate (sizeOfC c).toNat (0 : Int)), 0, 0, 0, 0, false⟩ : Ar).store 0 7597137583116413295).store 1 (packW c)).store (3 + 1) (1 + c.n0))]))) (by kernel_rfl) ?_
      refine ok_obl rfl ?_
      refine ok_obl (by simp only [Cfg.Ok, InK] at *; omega) ?_
      refine ok_stop ?_
      have hA0 : ((((⟨aw_3, cw_4, (List.replicate (sizeOfC c).toNat (0 : Int)).length, (List.replicate (sizeOfC c).toNat (0 : Int)), 0, 0, 0, 0, false⟩ : Ar).store 0 7597137583116413295).store 1 (packW c)).store (3 + 1) (1 + c.n0)).ws.length = ((((⟨aw_3, cw_4, (List.replicate (sizeOfC c).toNat (0 : Int)).length, (List.replicate (sizeOfC c).toNat (0 : Int)), 0, 0, 0, 0, false⟩ : Ar).store 0 7597137583116413295).store 1 (packW c)).store (3 + 1) (1 + c.n0)).n ∧ (((((⟨aw_3, cw_4, (List.replicate (sizeOfC c).toNat (0 : Int)).length, (List.replicate (sizeOfC c).toNat (0 : Int)), 0, 0, 0, 0, false⟩ : Ar).store 0 7597137583116413295).store 1 (packW c)).store (3 + 1) (1 + c.n0)).n : Int) = sizeOfC c ∧ 0 ≤ ((((⟨aw_3, cw_4, (List.replicate (sizeOfC c).toNat (0 : Int)).length, (List.replicate (sizeOfC c).toNat (0 : Int)), 0, 0, 0, 0, false⟩ : Ar).store 0 7597137583116413295).store 1 (packW c)).store (3 + 1) (1 + c.n0)).steps ∧ ((((⟨aw_3, cw_4, (List.replicate (sizeOfC c).toNat (0 : Int)).length, (List.replicate (sizeOfC c).toNat (0 : Int)), 0, 0, 0, 0, false⟩ : Ar).store 0 7597137583116413295).store 1 (packW c)).store (3 + 1) (1 + c.n0)).steps ≤ 4 := by have := sizeOfC_ok hc; simp [Ar.store]; omega
      refine go_loop (ι := Int × Ar) (fun i => [(1, vP b_1), (5, vP ba_2), (9, vI i.1)]) (fun i => [Efdc04 b_1 c, E3504b ba_2 i.2, E35fb1 i.2]) (fun i => mkLink c (c.n0 + c.n1 - i.1).toNat i.1 i.2 = mkAr c aw_3 cw_4 ∧ i.2.ws.length = i.2.n ∧ (i.2.n : Int) = sizeOfC c ∧ (0 ≤ i.2.steps ∧ i.2.steps ≤ 4 + i.1) ∧ 1 ≤ i.1) (fun i => (c.n0 + c.n1 - i.1).toNat) (1, ((((⟨aw_3, cw_4, (List.replicate (sizeOfC c).toNat (0 : Int)).length, (List.replicate (sizeOfC c).toNat (0 : Int)), 0, 0, 0, 0, false⟩ : Ar).store 0 7597137583116413295).store 1 (packW c)).store (3 + 1) (1 + c.n0))) [1, 5, 9] [0, 3, 4] (by kernel_rfl) rfl (by kernel_rfl) (by kernel_rfl) ⟨(by unfold mkAr mkHead; (repeat' (first | rw [if_pos (show 0 < c.n1 by omega)] | rw [if_pos (show 0 < c.n0 by omega)] | rw [if_neg (show ¬ 0 < c.n1 by omega)] | rw [if_neg (show ¬ 0 < c.n0 by omega)])); first | done | kernel_rfl), hA0.1, hA0.2.1, (by dsimp only; omega), (by dsimp only; omega)⟩ ?_
      intro i J_17 hIJ_17 hJ_17
      have hx := hIJ_17
      refine go_exec (rs := [.tmp 2, .tmp 3]) (by kernel_rfl) 4000 [.e 0, .z q7_9 2 [1, 5, 9, 44, 45]] (o := .obl (b_1 = b_1) (.stop [.o q7_9 2, .c q7_10, .c q7_11, .j J_17, .b 2, .c q7_8] [(1, vP b_1), (5, vP ba_2), (9, vI i.1), (44, vI i.1), (45, cfgV c)] [Efdc04 b_1 c, E3504b ba_2 i.2, E35fb1 i.2])) (by kernel_rfl) ?_
      refine ok_obl rfl ?_
      refine ok_stop ?_
      refine go_call (some 46) [] Tryz.call121 (plan_Blocks c (by first | assumption | omega | (simp only [InK] at *; omega))) (by kernel_rfl) ?_
      rintro v post ⟨rfl, rfl⟩
      refine go_exec (rs := [.tmp 2, .tmp 3]) (by kernel_rfl) 4000 [.sp [47] [.z q7_12 0 [1, 5, 9]] []] (o := .br (decide (i.1 < (c.n0 + c.n1))) (.stop [.c q7_12, .c q7_13, .b 3, .c q7_14, .j J_17, .b 2, .c q7_8] [(1, vP b_1), (5, vP ba_2), (9, vI i.1)] [Efdc04 b_1 c, E3504b ba_2 i.2, E35fb1 i.2]) (.ret (.tuple #[vP ba_2, .nilIface]) [Efdc04 b_1 c, E3504b ba_2 i.2, E35fb1 i.2])) (by kernel_rfl) ?_
      refine ok_br (fun h_18 => ?_) (fun h_18 => ?_)
      · replace h_18 := decT h_18
        refine ok_stop ?_
        refine go_quiet (tm' := [(1, vP b_1), (5, vP ba_2), (9, vI i.1), (57, .bool ((clsOf c i.1) == (clsOf c (i.1 + 1))))]) (ps := [b_1 = b_1, b_1 = b_1, InK .i64 (i.1 + 1)]) (cs := [(78, #[cfgV c, vI i.1], vI (clsOf c i.1)), (78, #[cfgV c, vI (i.1 + 1)], vI (clsOf c (i.1 + 1)))]) [(0, .h (.e 0)), (1, .h .w), (2, .q (vI (clsOf c i.1))), (3, .h (.e 0)), (4, .h .w), (5, .h (.n)), (6, .q (vI (clsOf c (i.1 + 1)))), (7, .h .w)] [1, 5, 9, 57] (by kernel_rfl) (by kernel_rfl) ⟨rfl, rfl, (by simp only [Cfg.Ok, InK] at *; omega), trivial⟩ ⟨⟨Tryz.call78, quiet_of [] (plan_Class c i.1 (by first | assumption | omega | (simp only [InK] at *; omega)) (by simp only [Cfg.Ok, InK] at *; omega)) (by kernel_rfl) (by rintro v post ⟨rfl, rfl⟩; exact ⟨rfl, rfl⟩)⟩, ⟨Tryz.call78, quiet_of [] (plan_Class c (i.1 + 1) (by first | assumption | omega | (simp only [InK] at *; omega)) (by simp only [Cfg.Ok, InK] at *; omega)) (by kernel_rfl) (by rintro v post ⟨rfl, rfl⟩; exact ⟨rfl, rfl⟩)⟩, trivial⟩ ?_
        refine go_exec (rs := [.tmp 2, .tmp 3]) (by kernel_rfl) 4000 [.sp [57] [.e 0, .z q7_15 3 [1, 5, 9, 58, 59, 60]] [.n, .z [] 0 [1, 5, 9]]] (o := .br ((clsOf c i.1) == (clsOf c (i.1 + 1))) (.obl (b_1 = b_1) (.stop [.o q7_15 3, .b 3, .c q7_14, .j J_17, .b 2, .c q7_8] [(1, vP b_1), (5, vP ba_2), (9, vI i.1), (58, vP ba_2), (59, cfgV c), (60, vI i.1)] [Efdc04 b_1 c, E3504b ba_2 i.2, E35fb1 i.2])) (.obl (InK .i64 (i.1 + 1)) (.stop [.j J_17, .b 2, .c q7_8] [(1, vP b_1), (5, vP ba_2), (9, vI (i.1 + 1))] [Efdc04 b_1 c, E3504b ba_2 i.2, E35fb1 i.2]))) (by kernel_rfl) ?_
        refine ok_br (fun h_19 => ?_) (fun h_19 => ?_)
        · replace h_19 := beqT h_19
          refine ok_obl rfl ?_
          refine ok_stop ?_
          refine go_call (some 61) [] Tryz.call105 (plan_Block c i.1 (by first | assumption | omega | (simp only [InK] at *; omega)) (by simp only [Cfg.Ok, InK] at *; omega)) (by kernel_rfl) ?_
          rintro v post ⟨rfl, rfl⟩
          refine go_exec (rs := [.tmp 2, .tmp 3]) (by kernel_rfl) 4000 [.n, .n, .z q7_15 7 [1, 5, 9, 58, 61, 64]] (o := .obl (InK .i64 (i.1 + 1)) (.obl (InK .u64 (i.1 + 1)) (.stop [.o q7_15 7, .b 3, .c q7_14, .j J_17, .b 2, .c q7_8] [(1, vP b_1), (5, vP ba_2), (9, vI i.1), (58, vP ba_2), (61, vI (blockAt c i.1)), (64, vU (i.1 + 1))] [Efdc04 b_1 c, E3504b ba_2 i.2, E35fb1 i.2]))) (by kernel_rfl) ?_
          refine ok_obl (by simp only [Cfg.Ok, InK] at *; omega) ?_
          refine ok_obl (by simp only [Cfg.Ok, InK] at *; omega) ?_
          refine ok_stop ?_
          refine go_call (some 65) [1, 2] Tryz.call107 (arena_Store ba_2 i.2 (blockAt c i.1) (i.1 + 1) (by first | exact hx.2.1 | (simp [Ar.store]; done)) (by have := sizeOfC_ok hc; first | omega | (simp [Ar.store]; omega) | (have hq := blockAt_ok hc (clsOf_pos (c := c) (b := i.1) (by omega)); have := hx.2.2.1; omega)) (by simp only [Cfg.Ok] at hc; first | omega | (simp [Ar.store]; done) | (simp [Ar.store]; omega))) (by kernel_rfl) ?_
          rintro v post ⟨rfl, rfl⟩
          refine go_exec (rs := [.tmp 2, .tmp 3]) (by kernel_rfl) 4000 [.n, .z [] 0 [1, 5, 9]] (o := .obl (InK .i64 (i.1 + 1)) (.stop [.j J_17, .b 2, .c q7_8] [(1, vP b_1), (5, vP ba_2), (9, vI (i.1 + 1))] [Efdc04 b_1 c, E3504b ba_2 (i.2.store (blockAt c i.1) (i.1 + 1)), E35fb1 (i.2.store (blockAt c i.1) (i.1 + 1))])) (by kernel_rfl) ?_
          refine ok_obl (by simp only [Cfg.Ok, InK] at *; omega) ?_
          refine ok_stop ?_
          exact go_back hJ_17 ((i.1 + 1), (i.2.store (blockAt c i.1) (i.1 + 1))) [0, 1, 2] (by kernel_rfl) rfl (by kernel_rfl) ⟨(by rw [← hx.1, mkLink_next (c := c) (b := i.1) (A := i.2) (by omega), if_pos (by assumption)]), (by first | exact hx.2.1 | (simp only [Ar.store, List.length_set]; exact hx.2.1)), hx.2.2.1, (by simp only [Ar.store] at *; omega), (by omega)⟩ (by simp; omega)
        · replace h_19 := beqF h_19
          refine ok_obl (by simp only [Cfg.Ok, InK] at *; omega) ?_
          refine ok_stop ?_
          exact go_back hJ_17 ((i.1 + 1), i.2) [0, 1, 2] (by kernel_rfl) rfl (by kernel_rfl) ⟨(by rw [← hx.1, mkLink_next (c := c) (b := i.1) (A := i.2) (by omega), if_neg (by assumption)]), (by first | exact hx.2.1 | (simp only [Ar.store, List.length_set]; exact hx.2.1)), hx.2.2.1, (by simp only [Ar.store] at *; omega), (by omega)⟩ (by simp; omega)
      · replace h_18 := decF h_18
        exact ret_ok (post := [E3504b ba_2 i.2, E35fb1 i.2]) [1, 2] (by kernel_rfl) ⟨ba_2, aw_3, cw_4, rfl, (by rw [← hx.1, mkLink_end (c := c) (b := i.1) (A := i.2) (by omega)])⟩
    · replace h_16 := decF h_16
      refine ok_obl rfl ?_
      refine ok_obl (by simp only [Cfg.Ok, InK] at *; omega) ?_
      refine ok_stop ?_
      have hA0 : (((⟨aw_3, cw_4, (List.replicate (sizeOfC c).toNat (0 : Int)).length, (List.replicate (sizeOfC c).toNat (0 : Int)), 0, 0, 0, 0, false⟩ : Ar).store 0 7597137583116413295).store 1 (packW c)).ws.length = (((⟨aw_3, cw_4, (List.replicate (sizeOfC c).toNat (0 : Int)).length, (List.replicate (sizeOfC c).toNat (0 : Int)), 0, 0, 0, 0, false⟩ : Ar).store 0 7597137583116413295).store 1 (packW c)).n ∧ ((((⟨aw_3, cw_4, (List.replicate (sizeOfC c).toNat (0 : Int)).length, (List.replicate (sizeOfC c).toNat (0 : Int)), 0, 0, 0, 0, false⟩ : Ar).store 0 7597137583116413295).store 1 (packW c)).n : Int) = sizeOfC c ∧ 0 ≤ (((⟨aw_3, cw_4, (List.replicate (sizeOfC c).toNat (0 : Int)).length, (List.replicate (sizeOfC c).toNat (0 : Int)), 0, 0, 0, 0, false⟩ : Ar).store 0 7597137583116413295).store 1 (packW c)).steps ∧ (((⟨aw_3, cw_4, (List.replicate (sizeOfC c).toNat (0 : Int)).length, (List.replicate (sizeOfC c).toNat (0 : Int)), 0, 0, 0, 0, false⟩ : Ar).store 0 7597137583116413295).store 1 (packW c)).steps ≤ 4 := by have := sizeOfC_ok hc; simp [Ar.store]; omega
      refine go_loop (ι := Int × Ar) (fun i => [(1, vP b_1), (5, vP ba_2), (9, vI i.1)]) (fun i => [Efdc04 b_1 c, E3504b ba_2 i.2, E35fb1 i.2]) (fun i => mkLink c (c.n0 + c.n1 - i.1).toNat i.1 i.2 = mkAr c aw_3 cw_4 ∧ i.2.ws.length = i.2.n ∧ (i.2.n : Int) = sizeOfC c ∧ (0 ≤ i.2.steps ∧ i.2.steps ≤ 4 + i.1) ∧ 1 ≤ i.1) (fun i => (c.n0 + c.n1 - i.1).toNat) (1, (((⟨aw_3, cw_4, (List.replicate (sizeOfC c).toNat (0 : Int)).length, (List.replicate (sizeOfC c).toNat (0 : Int)), 0, 0, 0, 0, false⟩ : Ar).store 0 7597137583116413295).store 1 (packW c))) [1, 5, 9] [0, 1, 2] (by kernel_rfl) rfl (by kernel_rfl) (by kernel_rfl) ⟨(by unfold mkAr mkHead; (repeat' (first | rw [if_pos (show 0 < c.n1 by omega)] | rw [if_pos (show 0 < c.n0 by omega)] | rw [if_neg (show ¬ 0 < c.n1 by omega)] | rw [if_neg (show ¬ 0 < c.n0 by omega)])); first | done | kernel_rfl), hA0.1, hA0.2.1, (by dsimp only; omega), (by dsimp only; omega)⟩ ?_
      intro i J_20 hIJ_20 hJ_20
      have hx := hIJ_20
      refine go_exec (rs := [.tmp 2, .tmp 3]) (by kernel_rfl) 4000 [.e 0, .z q7_9 2 [1, 5, 9, 44, 45]] (o := .obl (b_1 = b_1) (.stop [.o q7_9 2, .c q7_10, .c q7_11, .j J_20, .b 2, .c q7_8] [(1, vP b_1), (5, vP ba_2), (9, vI i.1), (44, vI i.1), (45, cfgV c)] [Efdc04 b_1 c, E3504b ba_2 i.2, E35fb1 i.2])) (by kernel_rfl) ?_
      refine ok_obl rfl ?_
      refine ok_stop ?_
      refine go_call (some 46) [] Tryz.call121 (plan_Blocks c (by first | assumption | omega | (simp only [InK] at *; omega))) (by kernel_rfl) ?_
      rintro v post ⟨rfl, rfl⟩
      refine go_exec (rs := [.tmp 2, .tmp 3]) (by kernel_rfl) 4000 [.sp [47] [.z q7_12 0 [1, 5, 9]] []] (o := .br (decide (i.1 < (c.n0 + c.n1))) (.stop [.c q7_12, .c q7_13, .b 3, .c q7_14, .j J_20, .b 2, .c q7_8] [(1, vP b_1), (5, vP ba_2), (9, vI i.1)] [Efdc04 b_1 c, E3504b ba_2 i.2, E35fb1 i.2]) (.ret (.tuple #[vP ba_2, .nilIface]) [Efdc04 b_1 c, E3504b ba_2 i.2, E35fb1 i.2])) (by kernel_rfl) ?_
      refine ok_br (fun h_21 => ?_) (fun h_21 => ?_)
      · replace h_21 := decT h_21
        refine ok_stop ?_
        refine go_quiet (tm' := [(1, vP b_1), (5, vP ba_2), (9, vI i.1), (57, .bool ((clsOf c i.1) == (clsOf c (i.1 + 1))))]) (ps := [b_1 = b_1, b_1 = b_1, InK .i64 (i.1 + 1)]) (cs := [(78, #[cfgV c, vI i.1], vI (clsOf c i.1)), (78, #[cfgV c, vI (i.1 + 1)], vI (clsOf c (i.1 + 1)))]) [(0, .h (.e 0)), (1, .h .w), (2, .q (vI (clsOf c i.1))), (3, .h (.e 0)), (4, .h .w), (5, .h (.n)), (6, .q (vI (clsOf c (i.1 + 1)))), (7, .h .w)] [1, 5, 9, 57] (by kernel_rfl) (by kernel_rfl) ⟨rfl, rfl, (by simp only [Cfg.Ok, InK] at *; omega), trivial⟩ ⟨⟨Tryz.call78, quiet_of [] (plan_Class c i.1 (by first | assumption | omega | (simp only [InK] at *; omega)) (by simp only [Cfg.Ok, InK] at *; omega)) (by kernel_rfl) (by rintro v post ⟨rfl, rfl⟩; exact ⟨rfl, rfl⟩)⟩, ⟨Tryz.call78, quiet_of [] (plan_Class c (i.1 + 1) (by first | assumption | omega | (simp only [InK] at *; omega)) (by simp only [Cfg.Ok, InK] at *; omega)) (by kernel_rfl) (by rintro v post ⟨rfl, rfl⟩; exact ⟨rfl, rfl⟩)⟩, trivial⟩ ?_
        refine go_exec (rs := [.tmp 2, .tmp 3]) (by kernel_rfl) 4000 [.sp [57] [.e 0, .z q7_15 3 [1, 5, 9, 58, 59, 60]] [.n, .z [] 0 [1, 5, 9]]] (o := .br ((clsOf c i.1) == (clsOf c (i.1 + 1))) (.obl (b_1 = b_1) (.stop [.o q7_15 3, .b 3, .c q7_14, .j J_20, .b 2, .c q7_8] [(1, vP b_1), (5, vP ba_2), (9, vI i.1), (58, vP ba_2), (59, cfgV c), (60, vI i.1)] [Efdc04 b_1 c, E3504b ba_2 i.2, E35fb1 i.2])) (.obl (InK .i64 (i.1 + 1)) (.stop [.j J_20, .b 2, .c q7_8] [(1, vP b_1), (5, vP ba_2), (9, vI (i.1 + 1))] [Efdc04 b_1 c, E3504b ba_2 i.2, E35fb1 i.2]))) (by kernel_rfl) ?_
        refine ok_br (fun h_22 => ?_) (fun h_22 => ?_)
        · replace h_22 := beqT h_22
          refine ok_obl rfl ?_
          refine ok_stop ?_
          refine go_call (some 61) [] Tryz.call105 (plan_Block c i.1 (by first | assumption | omega | (simp only [InK] at *; omega)) (by simp only [Cfg.Ok, InK] at *; omega)) (by kernel_rfl) ?_
          rintro v post ⟨rfl, rfl⟩
          refine go_exec (rs := [.tmp 2, .tmp 3]) (by kernel_rfl) 4000 [.n, .n, .z q7_15 7 [1, 5, 9, 58, 61, 64]] (o := .obl (InK .i64 (i.1 + 1)) (.obl (InK .u64 (i.1 + 1)) (.stop [.o q7_15 7, .b 3, .c q7_14, .j J_20, .b 2, .c q7_8] [(1, vP b_1), (5, vP ba_2), (9, vI i.1), (58, vP ba_2), (61, vI (blockAt c i.1)), (64, vU (i.1 + 1))] [Efdc04 b_1 c, E3504b ba_2 i.2, E35fb1 i.2]))) (by kernel_rfl) ?_
          refine ok_obl (by simp only [Cfg.Ok, InK] at *; omega) ?_
          refine ok_obl (by simp only [Cfg.Ok, InK] at *; omega) ?_
          refine ok_stop ?_
          refine go_call (some 65) [1, 2] Tryz.call107 (arena_Store ba_2 i.2 (blockAt c i.1) (i.1 + 1) (by first | exact hx.2.1 | (simp [Ar.store]; done)) (by have := sizeOfC_ok hc; first | omega | (simp [Ar.store]; omega) | (have hq := blockAt_ok hc (clsOf_pos (c := c) (b := i.1) (by omega)); have := hx.2.2.1; omega)) (by simp only [Cfg.Ok] at hc; first | omega | (simp [Ar.store]; done) | (simp [Ar.store]; omega))) (by kernel_rfl) ?_
          rintro v post ⟨rfl, rfl⟩
          refine go_exec (rs := [.tmp 2, .tmp 3]) (by kernel_rfl) 4000 [.n, .z [] 0 [1, 5, 9]] (o := .obl (InK .i64 (i.1 + 1)) (.stop [.j J_20, .b 2, .c q7_8] [(1, vP b_1), (5, vP ba_2), (9, vI (i.1 + 1))] [Efdc04 b_1 c, E3504b ba_2 (i.2.store (blockAt c i.1) (i.1 + 1)), E35fb1 (i.2.store (blockAt c i.1) (i.1 + 1))])) (by kernel_rfl) ?_
          refine ok_obl (by simp only [Cfg.Ok, InK] at *; omega) ?_
          refine ok_stop ?_
          exact go_back hJ_20 ((i.1 + 1), (i.2.store (blockAt c i.1) (i.1 + 1))) [0, 1, 2] (by kernel_rfl) rfl (by kernel_rfl) ⟨(by rw [← hx.1, mkLink_next (c := c) (b := i.1) (A := i.2) (by omega), if_pos (by assumption)]), (by first | exact hx.2.1 | (simp only [Ar.store, List.length_set]; exact hx.2.1)), hx.2.2.1, (by simp only [Ar.store] at *; omega), (by omega)⟩ (by simp; omega)
        · replace h_22 := beqF h_22
          refine ok_obl (by simp only [Cfg.Ok, InK] at *; omega) ?_
          refine ok_stop ?_
          exact go_back hJ_20 ((i.1 + 1), i.2) [0, 1, 2] (by kernel_rfl) rfl (by kernel_rfl) ⟨(by rw [← hx.1, mkLink_next (c := c) (b := i.1) (A := i.2) (by omega), if_neg (by assumption)]), (by first | exact hx.2.1 | (simp only [Ar.store, List.length_set]; exact hx.2.1)), hx.2.2.1, (by simp only [Ar.store] at *; omega), (by omega)⟩ (by simp; omega)
      · replace h_21 := decF h_21
        exact ret_ok (post := [E3504b ba_2 i.2, E35fb1 i.2]) [1, 2] (by kernel_rfl) ⟨ba_2, aw_3, cw_4, rfl, (by rw [← hx.1, mkLink_end (c := c) (b := i.1) (A := i.2) (by omega)])⟩

end Go.Proofs.YtgajfjeffamnkaaGreatDoor


namespace Go.Proofs.YtgajfjeffamnkaaGreatDoor
open Go.Sx

theorem plan_Class_min (c : Cfg) (hc : c.Ok) :
    Ctr Tryz.prog 78 #[cfgV c, vI (-9223372036854775808)] [] (Ret (vI (clsOf c (-9223372036854775808))) []) := by
  refine ctr_of (args := [cfgV c, vI (-9223372036854775808)]) (fn := Tryz.f78) (body := B78) (nt := 12) Tryz.func78 (by kernel_rfl) (by kernel_rfl) ?_
  intro F
  refine go_exec (rs := [.tmp 4]) (by kernel_rfl) 4000 [.z [0, 1] 0 [2, 3]] (o := .new fun b_1 => .new fun b_2 => .stop [.c [0, 1], .c [1, 1]] [(2, vP b_1), (3, vP b_2)] [Efdc04 b_1 c, .pts b_2 [vI (-9223372036854775808)] 3]) (by kernel_rfl) ?_
  refine ok_new fun b_1 => ?_
  refine ok_new fun b_2 => ?_
  refine ok_stop ?_
  refine go_quiet (tm' := [(4, vI (if (0 : Int) ≤ 9223372036854775807 ∧ 9223372036854775807 < (c.n0 + c.n1) then (if (-9223372036854775808) ≤ c.n0 then 0 else 1) else -1))]) (ps := [b_1 = b_1, b_2 = b_2, b_1 = b_1]) (cs := [(121, #[cfgV c], vI (c.n0 + c.n1)), (100, #[cfgV c, vI 9223372036854775807, vI (c.n0 + c.n1), .func (.func 141) #[] #[vP b_2, vP b_1]], vI (if (0 : Int) ≤ 9223372036854775807 ∧ 9223372036854775807 < (c.n0 + c.n1) then (if (-9223372036854775808) ≤ c.n0 then 0 else 1) else -1))]) [(0, .h (.e 0)), (1, .h (.e 1)), (2, .h (.w)), (3, .h (.e 0)), (4, .q (vI (c.n0 + c.n1))), (5, .h .w), (6, .q (vI (if (0 : Int) ≤ 9223372036854775807 ∧ 9223372036854775807 < (c.n0 + c.n1) then (if (-9223372036854775808) ≤ c.n0 then 0 else 1) else -1))), (7, .h .w)] [4] (by kernel_rfl) (by kernel_rfl) ⟨rfl, rfl, rfl, trivial⟩ ⟨⟨Tryz.call121, quiet_of [] (plan_Blocks c (by first | assumption | omega | (simp only [InK] at *; omega))) (by kernel_rfl) (by rintro v post ⟨rfl, rfl⟩; exact ⟨rfl, rfl⟩)⟩, ⟨Tryz.call100, quiet_of [1, 0] (place_Class c 9223372036854775807 (c.n0 + c.n1) b_2 b_1 (-9223372036854775808) (by first | assumption | omega | (simp only [InK] at *; omega))) (by kernel_rfl) (by rintro v post ⟨rfl, rfl⟩; exact ⟨rfl, rfl⟩)⟩, trivial⟩ ?_
  refine go_exec (rs := [.tmp 4]) (by kernel_rfl) 4000 [] (o := .ret (vI (if (0 : Int) ≤ 9223372036854775807 ∧ 9223372036854775807 < (c.n0 + c.n1) then (if (-9223372036854775808) ≤ c.n0 then 0 else 1) else -1)) [Efdc04 b_1 c, .pts b_2 [vI (-9223372036854775808)] 3]) (by kernel_rfl) ?_
  exact ret_ok (post := []) [] (by kernel_rfl) ⟨(congrArg (Value.int .i64) (by simp only [Cfg.Ok] at hc; unfold clsOf; (repeat' split) <;> omega)), (by kernel_rfl)⟩


theorem plan_Class_all (c : Cfg) (k : Int) (hc : c.Ok) (hk : InK .i64 k) :
    Ctr Tryz.prog 78 #[cfgV c, vI k] [] (Ret (vI (clsOf c k)) []) := by
  by_cases h : k = -9223372036854775808
  · subst h; exact plan_Class_min c hc
  · exact plan_Class c k hc (by simp only [InK] at *; omega)

end Go.Proofs.YtgajfjeffamnkaaGreatDoor


namespace Go.Proofs.YtgajfjeffamnkaaGreatDoor
open Go.Sx
noncomputable def B128 : Code := (Tryz.f128.body).getD .skip

theorem ref_inT (n a b : Int) (h : a ≤ n ∧ n ≤ b) :
    Ctr Tryz.prog 128 #[vI n, vI a, vI b] [] (Ret (.bool true) []) := by
  refine ctr_of (args := [vI n, vI a, vI b]) (fn := Tryz.f128) (body := B128) (nt := 15) Tryz.func128 (by kernel_rfl) (by kernel_rfl) ?_
  intro F
  refine go_exec (rs := [.tmp 6]) (by kernel_rfl) 4000 [.sp [10, 9] [] [.dead]] (o := .obl ((decide (n ≥ a)) = (decide (n ≥ a))) (.br (decide (n ≥ a)) (.ret (.bool (decide (n ≤ b))) []) (.bad))) (by kernel_rfl) ?_
  refine ok_obl rfl ?_
  refine ok_br (fun _ => ?_) (fun h => absurd (show (decide (n ≥ a)) = true from (by first | (simp; done) | (simp; omega))) (by rw [h]; simp))
  exact ret_ok (post := []) [] (by kernel_rfl) ⟨(congrArg Value.bool (by first | rfl | (simp; done) | (simp; omega))), (by kernel_rfl)⟩

noncomputable def B67 : Code := (Tryz.f67.body).getD .skip

theorem ref_right (c : Cfg) (hc : c.Ok) :
    Ctr Tryz.prog 67 #[cfgV c] [] (Ret (.bool true) []) := by
  refine ctr_of (args := [cfgV c]) (fn := Tryz.f67) (body := B67) (nt := 57) Tryz.func67 (by kernel_rfl) (by kernel_rfl) ?_
  intro F
  refine go_exec (rs := [.tmp 2]) (by kernel_rfl) 4000 [.w, .e 0, .e 1, .w, .e 0, .e 2, .e 0, .z [0, 1, 1, 1] 2 [1, 3, 4, 12]] (o := .new fun b_1 => .obl (b_1 = b_1) (.new fun b_2 => .obl (b_2 = b_2) (.obl (b_1 = b_1) (.new fun b_3 => .obl (b_3 = b_3) (.obl (b_1 = b_1) (.stop [.o [0, 1, 1, 1] 2, .c [1, 1, 1, 1]] [(1, vP b_1), (3, vP b_2), (4, vP b_3), (12, vI c.topics)] [Efdc04 b_1 c, .pts b_2 [vI c.s0, vI c.n0] 26, .pts b_3 [vI c.s1, vI c.n1] 26])))))) (by kernel_rfl) ?_
  refine ok_new fun b_1 => ?_
  refine ok_obl rfl ?_
  refine ok_new fun b_2 => ?_
  refine ok_obl rfl ?_
  refine ok_obl rfl ?_
  refine ok_new fun b_3 => ?_
  refine ok_obl rfl ?_
  refine ok_obl rfl ?_
  refine ok_stop ?_
  refine go_call (some 13) [] Tryz.call128 (ref_inT c.topics 1 8 (by simp only [Cfg.Ok] at hc; omega)) (by kernel_rfl) ?_
  rintro v post ⟨rfl, rfl⟩
  refine go_exec (rs := [.tmp 2]) (by kernel_rfl) 4000 [.e 0, .z [0, 1, 1, 1] 6 [1, 3, 4, 14, 16]] (o := .obl (b_1 = b_1) (.stop [.o [0, 1, 1, 1] 6, .c [1, 1, 1, 1]] [(1, vP b_1), (3, vP b_2), (4, vP b_3), (14, .bool true), (16, vI c.small)] [Efdc04 b_1 c, .pts b_2 [vI c.s0, vI c.n0] 26, .pts b_3 [vI c.s1, vI c.n1] 26])) (by kernel_rfl) ?_
  refine ok_obl rfl ?_
  refine ok_stop ?_
  refine go_call (some 17) [] Tryz.call128 (ref_inT c.small 4 32 (by simp only [Cfg.Ok] at hc; omega)) (by kernel_rfl) ?_
  rintro v post ⟨rfl, rfl⟩
  refine go_exec (rs := [.tmp 2]) (by kernel_rfl) 4000 [.e 0, .z [0, 1, 1, 1] 11 [1, 3, 4, 19, 21]] (o := .obl (b_1 = b_1) (.stop [.o [0, 1, 1, 1] 11, .c [1, 1, 1, 1]] [(1, vP b_1), (3, vP b_2), (4, vP b_3), (19, .bool true), (21, vI c.slots)] [Efdc04 b_1 c, .pts b_2 [vI c.s0, vI c.n0] 26, .pts b_3 [vI c.s1, vI c.n1] 26])) (by kernel_rfl) ?_
  refine ok_obl rfl ?_
  refine ok_stop ?_
  refine go_call (some 22) [] Tryz.call128 (ref_inT c.slots 1 8 (by simp only [Cfg.Ok] at hc; omega)) (by kernel_rfl) ?_
  rintro v post ⟨rfl, rfl⟩
  refine go_exec (rs := [.tmp 2]) (by kernel_rfl) 4000 [.e 0, .z [0, 1, 1, 1] 16 [1, 3, 4, 24, 26]] (o := .obl (b_1 = b_1) (.stop [.o [0, 1, 1, 1] 16, .c [1, 1, 1, 1]] [(1, vP b_1), (3, vP b_2), (4, vP b_3), (24, .bool true), (26, vI c.clients)] [Efdc04 b_1 c, .pts b_2 [vI c.s0, vI c.n0] 26, .pts b_3 [vI c.s1, vI c.n1] 26])) (by kernel_rfl) ?_
  refine ok_obl rfl ?_
  refine ok_stop ?_
  refine go_call (some 27) [] Tryz.call128 (ref_inT c.clients 1 8 (by simp only [Cfg.Ok] at hc; omega)) (by kernel_rfl) ?_
  rintro v post ⟨rfl, rfl⟩
  refine go_exec (rs := [.tmp 2]) (by kernel_rfl) 4000 [.e 0, .z [0, 1, 1, 1] 21 [3, 4, 29, 31]] (o := .obl (b_1 = b_1) (.stop [.o [0, 1, 1, 1] 21, .c [1, 1, 1, 1]] [(3, vP b_2), (4, vP b_3), (29, .bool true), (31, vI c.retry)] [Efdc04 b_1 c, .pts b_2 [vI c.s0, vI c.n0] 26, .pts b_3 [vI c.s1, vI c.n1] 26])) (by kernel_rfl) ?_
  refine ok_obl rfl ?_
  refine ok_stop ?_
  refine go_call (some 32) [] Tryz.call128 (ref_inT c.retry 1 8 (by simp only [Cfg.Ok] at hc; omega)) (by kernel_rfl) ?_
  rintro v post ⟨rfl, rfl⟩
  refine go_exec (rs := [.tmp 2]) (by kernel_rfl) 4000 [.e 1, .z [0, 1, 1, 1] 26 [3, 4, 34, 36]] (o := .obl (b_2 = b_2) (.stop [.o [0, 1, 1, 1] 26, .c [1, 1, 1, 1]] [(3, vP b_2), (4, vP b_3), (34, .bool true), (36, vI c.s0)] [Efdc04 b_1 c, .pts b_2 [vI c.s0, vI c.n0] 26, .pts b_3 [vI c.s1, vI c.n1] 26])) (by kernel_rfl) ?_
  refine ok_obl rfl ?_
  refine ok_stop ?_
  refine go_call (some 37) [] Tryz.call128 (ref_inT c.s0 4 96 (by simp only [Cfg.Ok] at hc; omega)) (by kernel_rfl) ?_
  rintro v post ⟨rfl, rfl⟩
  refine go_exec (rs := [.tmp 2]) (by kernel_rfl) 4000 [.e 2, .e 1, .n, .z [0, 1, 1, 1] 34 [3, 4, 39, 41, 44]] (o := .obl (b_3 = b_3) (.obl (b_2 = b_2) (.obl (InK .i64 (c.s0 + 1)) (.stop [.o [0, 1, 1, 1] 34, .c [1, 1, 1, 1]] [(3, vP b_2), (4, vP b_3), (39, .bool true), (41, vI c.s1), (44, vI (c.s0 + 1))] [Efdc04 b_1 c, .pts b_2 [vI c.s0, vI c.n0] 26, .pts b_3 [vI c.s1, vI c.n1] 26])))) (by kernel_rfl) ?_
  refine ok_obl rfl ?_
  refine ok_obl rfl ?_
  refine ok_obl (by simp only [Cfg.Ok, InK] at *; omega) ?_
  refine ok_stop ?_
  refine go_call (some 45) [] Tryz.call128 (ref_inT c.s1 (c.s0 + 1) 96 (by simp only [Cfg.Ok] at hc; omega)) (by kernel_rfl) ?_
  rintro v post ⟨rfl, rfl⟩
  refine go_exec (rs := [.tmp 2]) (by kernel_rfl) 4000 [.e 1, .z [0, 1, 1, 1] 39 [4, 47, 49]] (o := .obl (b_2 = b_2) (.stop [.o [0, 1, 1, 1] 39, .c [1, 1, 1, 1]] [(4, vP b_3), (47, .bool true), (49, vI c.n0)] [Efdc04 b_1 c, .pts b_2 [vI c.s0, vI c.n0] 26, .pts b_3 [vI c.s1, vI c.n1] 26])) (by kernel_rfl) ?_
  refine ok_obl rfl ?_
  refine ok_stop ?_
  refine go_call (some 50) [] Tryz.call128 (ref_inT c.n0 0 12 (by simp only [Cfg.Ok] at hc; omega)) (by kernel_rfl) ?_
  rintro v post ⟨rfl, rfl⟩
  refine go_exec (rs := [.tmp 2]) (by kernel_rfl) 4000 [.e 2, .z [0, 1, 1, 1] 44 [52, 54]] (o := .obl (b_3 = b_3) (.stop [.o [0, 1, 1, 1] 44, .c [1, 1, 1, 1]] [(52, .bool true), (54, vI c.n1)] [Efdc04 b_1 c, .pts b_2 [vI c.s0, vI c.n0] 26, .pts b_3 [vI c.s1, vI c.n1] 26])) (by kernel_rfl) ?_
  refine ok_obl rfl ?_
  refine ok_stop ?_
  refine go_call (some 55) [] Tryz.call128 (ref_inT c.n1 0 12 (by simp only [Cfg.Ok] at hc; omega)) (by kernel_rfl) ?_
  rintro v post ⟨rfl, rfl⟩
  refine go_exec (rs := [.tmp 2]) (by kernel_rfl) 4000 [] (o := .ret (.bool true) [Efdc04 b_1 c, .pts b_2 [vI c.s0, vI c.n0] 26, .pts b_3 [vI c.s1, vI c.n1] 26]) (by kernel_rfl) ?_
  exact ret_ok (post := []) [] (by kernel_rfl) ⟨rfl, (by kernel_rfl)⟩


end Go.Proofs.YtgajfjeffamnkaaGreatDoor


namespace Go.Proofs.YtgajfjeffamnkaaGreatDoor
open Go.Sx
abbrev Ed155d (x0 : Nat) (x1 : Int) (x2 : Int) (x3 : Int) (x4 : Int) (x5 : Int) (x6 : Int) (x7 : Int) (x8 : Int) (x9 : Int) : Ent := .pts x0 [.int .i64 x1, .int .i64 x2, .int .i64 x3, .int .i64 x4, .int .i64 x5, .int .i64 x6, .int .i64 x7, .int .i64 x8, .int .i64 x9] 3
noncomputable def B45 : Code := (Tryz.f45.body).getD .skip

set_option maxHeartbeats 4000000 in
theorem ref_Of (b : Nat) (x0 x1 x2 x3 x4 x5 x6 x7 x8 : Int)  :
    Ctr Tryz.prog 45 #[.slice (some ⟨b, 0, none⟩) 9 9] [Ed155d b x0 x1 x2 x3 x4 x5 x6 x7 x8] (Ret (.agg #[vI x0, vI x1, vI x2, vI x3, vI x5, vI x6, vI x7, vI x8, vI x4]) [Ed155d b x0 x1 x2 x3 x4 x5 x6 x7 x8]) := by
  refine ctr_of (args := [.slice (some ⟨b, 0, none⟩) 9 9]) (fn := Tryz.f45) (body := B45) (nt := 39) Tryz.func45 (by kernel_rfl) (by kernel_rfl) ?_
  intro F
  refine go_exec (rs := [.cell 2 29]) (by kernel_rfl) 4000 [.z [0, 1] 0 [0, 2]] (o := .new fun b_1 => .stop [.c [0, 1], .c [1, 1]] [(0, .slice (some ⟨b, 0, none⟩) 9 9), (2, vP b_1)] [Ed155d b x0 x1 x2 x3 x4 x5 x6 x7 x8, Ed975e b_1 0 0 0 0 0 0 0 0 0]) (by kernel_rfl) ?_
  refine ok_new fun b_1 => ?_
  refine ok_stop ?_
  refine go_lz (by kernel_rfl) (by kernel_rfl) ?_
  refine lz_node (l' := (mk 18 [0, 1, 2, 3, 4, 5, 6, 7, 8, 9, 10, 11, 12, 13, 14, 15])) (V' := [0, 1, 2, 3, 4, 5, 6, 7, 8, 9, 10, 11, 12, 13, 14, 15]) (T1 := [(0, .slice (some ⟨b, 0, none⟩) 9 9), (2, vP b_1), (4, .slice (some ⟨b, 0, none⟩) 9 9), (5, vP b), (6, vI x0), (7, .slice (some ⟨b, 0, none⟩) 9 9), (8, .pointer (some ⟨b, 1, none⟩)), (9, vI x1), (10, .slice (some ⟨b, 0, none⟩) 9 9), (11, .pointer (some ⟨b, 2, none⟩)), (12, vI x2), (13, .slice (some ⟨b, 0, none⟩) 9 9), (14, .pointer (some ⟨b, 3, none⟩)), (15, vI x3), (16, .slice (some ⟨b, 0, none⟩) 9 9), (17, .pointer (some ⟨b, 4, none⟩)), (18, vI x4), (19, .agg #[vI x0, vI x1, vI x2, vI x3, vI 0, vI 0, vI 0, vI 0, vI x4])]) (ps := [b = b, b = b, b = b, b = b, b = b]) [0, 1, 2, 3, 4, 5, 6, 7, 8, 9, 10, 11, 12, 13, 14, 15] [(0, .h .w), (1, .h (.w)), (2, .h (.e 0)), (3, .h .w), (4, .h (.w)), (5, .h (.e 0)), (6, .h .w), (7, .h (.w)), (8, .h (.e 0)), (9, .h .w), (10, .h (.w)), (11, .h (.e 0)), (12, .h .w), (13, .h (.w)), (14, .h (.e 0)), (15, .h .w)] [0, 2, 4, 5, 6, 7, 8, 9, 10, 11, 12, 13, 14, 15, 16, 17, 18, 19] [16] (by kernel_rfl) ⟨rfl, rfl, rfl, rfl, rfl, trivial⟩ ⟨?_, trivial⟩
  refine lz_op (l' := (mk 18 [0, 1, 2, 3, 4, 5, 6, 7, 8, 9, 10, 11, 12, 13, 14, 15, 16])) (V' := [0, 1, 2, 3, 4, 5, 6, 7, 8, 9, 10, 11, 12, 13, 14, 15]) (so := .new fun b_16_1 => .ok (.value (vP b_16_1)) [Ed155d b x0 x1 x2 x3 x4 x5 x6 x7 x8, Ed975e b_1 0 0 0 0 0 0 0 0 0, Ed975e b_16_1 0 0 0 0 0 0 0 0 0]) (dst := (some 3)) .w (by kernel_rfl) ?_
  refine sat_new fun b_16_1 => ?_
  refine sat_value ?_
  refine lz_node (l' := (mk 18 [0, 1, 2, 3, 4, 5, 6, 7, 8, 9, 10, 11, 12, 13, 14, 15, 16])) (V' := [0, 1, 2, 3, 4, 5, 6, 7, 8, 9, 10, 11, 12, 13, 14, 15]) (T1 := [(3, vP b_16_1), (0, .slice (some ⟨b, 0, none⟩) 9 9), (2, vP b_1), (4, .slice (some ⟨b, 0, none⟩) 9 9), (5, vP b), (6, vI x0), (7, .slice (some ⟨b, 0, none⟩) 9 9), (8, .pointer (some ⟨b, 1, none⟩)), (9, vI x1), (10, .slice (some ⟨b, 0, none⟩) 9 9), (11, .pointer (some ⟨b, 2, none⟩)), (12, vI x2), (13, .slice (some ⟨b, 0, none⟩) 9 9), (14, .pointer (some ⟨b, 3, none⟩)), (15, vI x3), (16, .slice (some ⟨b, 0, none⟩) 9 9), (17, .pointer (some ⟨b, 4, none⟩)), (18, vI x4), (19, .agg #[vI x0, vI x1, vI x2, vI x3, vI 0, vI 0, vI 0, vI 0, vI x4])]) (ps := [b = b, b = b, b = b, b = b, b = b]) [] [(0, .h .w), (1, .h (.w)), (2, .h (.e 0)), (3, .h .w), (4, .h (.w)), (5, .h (.e 0)), (6, .h .w), (7, .h (.w)), (8, .h (.e 0)), (9, .h .w), (10, .h (.w)), (11, .h (.e 0)), (12, .h .w), (13, .h (.w)), (14, .h (.e 0)), (15, .h .w)] [3, 0, 2, 4, 5, 6, 7, 8, 9, 10, 11, 12, 13, 14, 15, 16, 17, 18, 19] [17] (by kernel_rfl) ⟨rfl, rfl, rfl, rfl, rfl, trivial⟩ ⟨?_, trivial⟩
  refine lz_op (l' := (mk 18 [0, 1, 2, 3, 4, 5, 6, 7, 8, 9, 10, 11, 12, 13, 14, 15, 16, 17])) (V' := []) (so := .obl (b_16_1 = b_16_1) (.ok .skip [Ed155d b x0 x1 x2 x3 x4 x5 x6 x7 x8, Ed975e b_1 0 0 0 0 0 0 0 0 0, Ed975e b_16_1 x0 x1 x2 x3 0 0 0 0 x4])) (dst := none) (.e 2) (by kernel_rfl) ?_
  refine sat_obl rfl ?_
  refine sat_skip ?_
  refine lz_end (T1 := [(3, vP b_16_1), (0, .slice (some ⟨b, 0, none⟩) 9 9), (2, vP b_1)]) (ps := []) [] [] [3, 0, 2] (by kernel_rfl) trivial ?_
  refine go_exec (rs := [.cell 2 29]) (by kernel_rfl) 4000 [.z [0, 1, 1] 0 [0, 2, 3]] (o := .stop [.c [0, 1, 1], .c [1, 1, 1]] [(0, .slice (some ⟨b, 0, none⟩) 9 9), (2, vP b_1), (3, vP b_16_1)] [Ed155d b x0 x1 x2 x3 x4 x5 x6 x7 x8, Ed975e b_1 0 0 0 0 0 0 0 0 0, Ed975e b_16_1 x0 x1 x2 x3 0 0 0 0 x4]) (by kernel_rfl) ?_
  refine ok_stop ?_
  refine go_tail_op (so := .obl (b_16_1 = b_16_1) (.ok .skip [Ed155d b x0 x1 x2 x3 x4 x5 x6 x7 x8, Ed975e b_1 0 0 0 0 0 0 0 0 0, Ed975e b_16_1 x0 x1 x2 x3 x5 x6 0 0 x4])) (dst := none) (ps := [b = b, b = b]) (cs := []) [(0, .h .w), (1, .h (.w)), (2, .h (.e 0)), (3, .h .w), (4, .h (.w)), (5, .h (.e 0)), (6, .h .w), (7, .h .w), (8, .h (.w))] 9 [] (.e 2) [0, 2, 3] (by kernel_rfl) (by kernel_rfl) ⟨rfl, rfl, trivial⟩ trivial ?_
  refine sat_obl rfl ?_
  refine sat_skip ?_
  refine tail_next (tm' := [(0, .slice (some ⟨b, 0, none⟩) 9 9), (2, vP b_1), (3, vP b_16_1)]) (ps2 := []) (by kernel_rfl) trivial ?_
  refine go_exec (rs := [.cell 2 29]) (by kernel_rfl) 4000 [.z [0, 1, 1, 1] 0 [0, 2, 3]] (o := .stop [.c [0, 1, 1, 1], .c [1, 1, 1, 1]] [(0, .slice (some ⟨b, 0, none⟩) 9 9), (2, vP b_1), (3, vP b_16_1)] [Ed155d b x0 x1 x2 x3 x4 x5 x6 x7 x8, Ed975e b_1 0 0 0 0 0 0 0 0 0, Ed975e b_16_1 x0 x1 x2 x3 x5 x6 0 0 x4]) (by kernel_rfl) ?_
  refine ok_stop ?_
  refine go_tail_op (so := .obl (b_16_1 = b_16_1) (.ok .skip [Ed155d b x0 x1 x2 x3 x4 x5 x6 x7 x8, Ed975e b_1 0 0 0 0 0 0 0 0 0, Ed975e b_16_1 x0 x1 x2 x3 x5 x6 x7 x8 x4])) (dst := none) (ps := [b = b, b = b]) (cs := []) [(0, .h .w), (1, .h (.w)), (2, .h (.e 0)), (3, .h .w), (4, .h (.w)), (5, .h (.e 0)), (6, .h .w), (7, .h .w), (8, .h (.w))] 9 [] (.e 2) [2, 3] (by kernel_rfl) (by kernel_rfl) ⟨rfl, rfl, trivial⟩ trivial ?_
  refine sat_obl rfl ?_
  refine sat_skip ?_
  refine tail_next (tm' := [(2, vP b_1), (3, vP b_16_1)]) (ps2 := []) (by kernel_rfl) trivial ?_
  refine go_exec (rs := [.cell 2 29]) (by kernel_rfl) 4000 [.e 2, .e 1, .e 1] (o := .obl (b_16_1 = b_16_1) (.obl (b_1 = b_1) (.obl (b_1 = b_1) (.ret (.agg #[vI x0, vI x1, vI x2, vI x3, vI x5, vI x6, vI x7, vI x8, vI x4]) [Ed155d b x0 x1 x2 x3 x4 x5 x6 x7 x8, Ed975e b_1 x0 x1 x2 x3 x5 x6 x7 x8 x4, Ed975e b_16_1 x0 x1 x2 x3 x5 x6 x7 x8 x4])))) (by kernel_rfl) ?_
  refine ok_obl rfl ?_
  refine ok_obl rfl ?_
  refine ok_obl rfl ?_
  exact ret_ok (post := [Ed155d b x0 x1 x2 x3 x4 x5 x6 x7 x8]) [0] (by kernel_rfl) ⟨rfl, (by kernel_rfl)⟩

end Go.Proofs.YtgajfjeffamnkaaGreatDoor


namespace Go.Proofs.YtgajfjeffamnkaaGreatDoor
open Go.Sx
end Go.Proofs.YtgajfjeffamnkaaGreatDoor


namespace Go.Proofs.YtgajfjeffamnkaaGreatDoor
open Go.Sx
end Go.Proofs.YtgajfjeffamnkaaGreatDoor


namespace Go.Proofs.YtgajfjeffamnkaaGreatDoor
open Go.RowKit Go.Extern.Stop Go.Stop Go.Extern
theorem Tryz.valueOfP (t : Addr) (w : World) : (ReflectliteValue.unpack (.iface 125 (.pointer (some t)))).run Tryz.prog w
    = .ok (.agg #[.pointer (some ⟨1, 125, none⟩), .pointer (some ⟨w.heap.size, 0, none⟩), .int .u64 150]) (w.alloc (.cells #[.pointer (some t)] 125)) := by kernel_rfl
theorem Tryz.typeP (a : Addr) (w : World) : (ReflectliteValue.methodAny (ReflectliteValue.valueError "reflectlite.Value.Type" 0) (fun t _ _ _ => ReflectliteType.toType t) #[.agg #[.pointer (some ⟨1, 125, none⟩), .pointer (some a), .int .u64 150]]).run Tryz.prog w
    = .ok (.iface 229 (.agg #[.pointer (some ⟨1, 125, none⟩)])) w := by kernel_rfl
theorem Tryz.methodKind (h : Value) (w : World) : (Go.method 398 229 (.agg #[h]) "Kind").run Tryz.prog w = .ok (222, h) w := by kernel_rfl
theorem Tryz.kindP (w : World) : ((ReflectliteType.abiMethod fun t => Functor.map (fun a : Nat => Value.int IntKind.u8 (a : Int)) (Rtype.kind t)) #[.pointer (some ⟨1, 125, none⟩)]).run Tryz.prog w = .ok (.int .u8 22) w := by kernel_rfl
theorem Tryz.kindE (w : World) : ((ReflectliteType.abiMethod fun t => Functor.map (fun a : Nat => Value.int IntKind.u8 (a : Int)) (Rtype.kind t)) #[.pointer (some ⟨1, 42, none⟩)]).run Tryz.prog w = .ok (.int .u8 2) w := by kernel_rfl
theorem rlm (z : Sem Value) (f : TypeId → Addr → Nat → Nat → Sem Value) (v : Value) :
    ReflectliteValue.method z f #[v] = (do match ← ReflectliteValue.parts v with | none => z | some (t, a, fl) => f t a fl (fl % 32)) := rfl
theorem Tryz.partsP (a : Addr) (w : World) : (ReflectliteValue.parts (.agg #[.pointer (some ⟨1, 125, none⟩), .pointer (some a), .int .u64 150])).run Tryz.prog w = .ok (some (125, a, 150)) w := by kernel_rfl
theorem Tryz.isNilP (a p : Addr) (W : World) (ha : W.cell? a = some (.pointer (some p))) :
    (ReflectliteValue.method (ReflectliteValue.valueError "reflectlite.Value.IsNil" 0) ReflectliteValue.isNil #[.agg #[.pointer (some ⟨1, 125, none⟩), .pointer (some a), .int .u64 150]]).run Tryz.prog W = .ok (.bool false) W := by
  rw [rlm]
  simp only [Sem.run_bind, Tryz.partsP, Result.andThen]
  simp [ReflectliteValue.isNil, loadVar, isAgg, underlying, Tryz.underlying125, ha, Result.andThen]
theorem Tryz.methodElem (h : Value) (w : World) : (Go.method 398 229 (.agg #[h]) "Elem").run Tryz.prog w = .ok (240, .agg #[h]) w := by kernel_rfl
theorem Tryz.methodImplements (h : Value) (w : World) : (Go.method 398 229 (.agg #[h]) "Implements").run Tryz.prog w = .ok (241, .agg #[h]) w := by kernel_rfl
theorem Tryz.methodAssignableTo (h : Value) (w : World) : (Go.method 398 229 (.agg #[h]) "AssignableTo").run Tryz.prog w = .ok (238, .agg #[h]) w := by kernel_rfl
theorem Tryz.elemP (w : World) : (ReflectliteType.method ReflectliteType.elem #[.agg #[.pointer (some ⟨1, 125, none⟩)]]).run Tryz.prog w = .ok (.iface 229 (.agg #[.pointer (some ⟨1, 42, none⟩)])) w := by kernel_rfl
theorem Tryz.implementsE (w : World) : (ReflectliteType.relation "Implements" ReflectliteType.implements_ #[.agg #[.pointer (some ⟨1, 42, none⟩)], .iface 229 (.agg #[.pointer (some ⟨1, 32, none⟩)])]).run Tryz.prog w = .ok (.bool true) w := by kernel_rfl
theorem Tryz.typeOfE (v : Value) (w : World) : (ReflectliteType.typeOf #[.iface 42 v]).run Tryz.prog w = .ok (.iface 229 (.agg #[.pointer (some ⟨1, 42, none⟩)])) w := by kernel_rfl
theorem Tryz.assignableE (w : World) : (ReflectliteType.relation "AssignableTo" ReflectliteType.assignableTo #[.agg #[.pointer (some ⟨1, 42, none⟩)], .iface 229 (.agg #[.pointer (some ⟨1, 42, none⟩)])]).run Tryz.prog w = .ok (.bool true) w := by kernel_rfl
theorem Tryz.valueOfE (e : Int) (w : World) : (ReflectliteValue.unpack (.iface 42 (.int .i64 e))).run Tryz.prog w
    = .ok (.agg #[.pointer (some ⟨1, 42, none⟩), .pointer (some ⟨w.heap.size, 0, none⟩), .int .u64 130]) (w.alloc (.cells #[.int .i64 e] 42)) := by kernel_rfl
theorem Tryz.elemOfP (w : World) : (Rtype.elem? 125).run Tryz.prog w = .ok (some 42) w := by kernel_rfl
theorem Tryz.mkE (p : Addr) (w : World) : (ReflectliteValue.mk 42 p ReflectliteValue.flagAddr).run Tryz.prog w = .ok (.agg #[.pointer (some ⟨1, 42, none⟩), .pointer (some p), .int .u64 386]) w := by kernel_rfl
theorem Tryz.elemVP (a p : Addr) (W : World) (ha : W.cell? a = some (.pointer (some p))) :
    (ReflectliteValue.method (ReflectliteValue.valueError "reflectlite.Value.Elem" 0) ReflectliteValue.elem #[.agg #[.pointer (some ⟨1, 125, none⟩), .pointer (some a), .int .u64 150]]).run Tryz.prog W
      = .ok (.agg #[.pointer (some ⟨1, 42, none⟩), .pointer (some p), .int .u64 386]) W := by
  rw [rlm]
  simp only [Sem.run_bind, Tryz.partsP, Result.andThen]
  simp [ReflectliteValue.elem, loadVar, isAgg, underlying, Tryz.underlying125, ha, Result.andThen, Tryz.elemOfP, Tryz.mkE]
theorem rls : ∃ s1 s2 s3 : String, ∀ v x : Value, ReflectliteValue.set #[v, x] = (do
    let (some (dst, a, fl), some (src, b, _)) := (← ReflectliteValue.parts v, ← ReflectliteValue.parts x)
      | unsupported (.noEntry s1)
    if fl / ReflectliteValue.flagAddr % 2 == 0 then unsupported (.noEntry s2)
    let val ← loadVar src b
    if ← Rtype.directlyAssignable dst src then storeVar dst a val
    else if ← Rtype.implements dst src then
      if (← Rtype.kind src) == 20 then
        match val with
        | .nilIface => unsupported (.noEntry s3)
        | _ => storeVar dst a val
      else storeVar dst a (.iface src val)
    else panicString ("reflectlite.Set: value of type " ++ (← Rtype.spelt src) ++ " is not assignable to type " ++ (← Rtype.spelt dst))
    pure (.tuple #[])) := ⟨_, _, _, fun _ _ => rfl⟩
theorem Tryz.partsEa (a : Addr) (w : World) : (ReflectliteValue.parts (.agg #[.pointer (some ⟨1, 42, none⟩), .pointer (some a), .int .u64 386])).run Tryz.prog w = .ok (some (42, a, 386)) w := by kernel_rfl
theorem Tryz.partsE (a : Addr) (w : World) : (ReflectliteValue.parts (.agg #[.pointer (some ⟨1, 42, none⟩), .pointer (some a), .int .u64 130])).run Tryz.prog w = .ok (some (42, a, 130)) w := by kernel_rfl
theorem Tryz.directE (w : World) : (Rtype.directlyAssignable 42 42).run Tryz.prog w = .ok true w := by kernel_rfl
theorem Tryz.setE (ta b : Addr) (e : Int) (old : Value) (W : World) (hb : W.cell? b = some (.int .i64 e)) (ht : W.cell? ta = some old) (hf : W.frozen? ta = false) :
    (ReflectliteValue.set #[.agg #[.pointer (some ⟨1, 42, none⟩), .pointer (some ta), .int .u64 386], .agg #[.pointer (some ⟨1, 42, none⟩), .pointer (some b), .int .u64 130]]).run Tryz.prog W
      = .ok (.tuple #[]) (W.setCell ta (.int .i64 e)) := by
  obtain ⟨s1, s2, s3, hrls⟩ := rls
  rw [hrls]
  simp only [Sem.run_bind, Tryz.partsEa, Tryz.partsE, Result.andThen]
  simp [ReflectliteValue.flagAddr, loadVar, isAgg, underlying, Tryz.underlying42, hb, Result.andThen, Tryz.directE, storeVar, Value.cells, storeCells, Addr.add]
  rw [run_store Tryz.prog W ta _ _ (by rfl)]
  simp [ht, hf]
set_option maxHeartbeats 4000000 in
theorem as_hit (e : Int) (t : Addr) (old : Value) (w : World) (hg : w.cell? ⟨0, 0, none⟩ = some (.iface 229 (.agg #[.pointer (some ⟨1, 32, none⟩)]))) (ht0 : w.cell? t = some old) (hf0 : w.frozen? t = false) :
    Calls Tryz.prog 62 #[.iface 42 (.int .i64 e), .iface 125 (.pointer (some t))] w fun ev w' => ev = .returned (.bool true) ∧ w' = ((((w.alloc (.cells #[.pointer (some t)] 125)).alloc (.cells #[.pointer (some ⟨1, 125, none⟩), .pointer (some ⟨w.heap.size, 0, none⟩), .int .u64 150] 186)).alloc (.cells #[.pointer (some ⟨1, 125, none⟩), .pointer (some ⟨w.heap.size, 0, none⟩), .int .u64 150] 186)).alloc (.cells #[.int .i64 e] 42)).setCell t (.int .i64 e) := by
  have h6 := @run_callFunc_extern Tryz.prog 122 _ (fun args => ReflectliteValue.unpack (args.getD 0 (.tuple #[]))) Tryz.func122 (by kernel_rfl) (by kernel_rfl) (by kernel_rfl) (by kernel_rfl)
  have h7 := @run_callFunc_extern Tryz.prog 123 _ (ReflectliteValue.methodAny (ReflectliteValue.valueError "reflectlite.Value.Type" 0) (fun t _ _ _ => ReflectliteType.toType t)) Tryz.func123 (by kernel_rfl) (by kernel_rfl) (by kernel_rfl) (by kernel_rfl)
  have h8 := @run_callFunc_extern Tryz.prog 124 _ (ReflectliteValue.method (ReflectliteValue.valueError "reflectlite.Value.IsNil" 0) ReflectliteValue.isNil) Tryz.func124 (by kernel_rfl) (by kernel_rfl) (by kernel_rfl) (by kernel_rfl)
  have h27 := @run_callFunc_extern Tryz.prog 222 _ (ReflectliteType.abiMethod fun t => do pure (.int .u8 (← Rtype.kind t))) Tryz.func222 (by kernel_rfl) (by kernel_rfl) (by kernel_rfl) (by kernel_rfl)
  have h37 := @run_callFunc_extern Tryz.prog 240 _ (ReflectliteType.method ReflectliteType.elem) Tryz.func240 (by kernel_rfl) (by kernel_rfl) (by kernel_rfl) (by kernel_rfl)
  have h38 := @run_callFunc_extern Tryz.prog 241 _ (ReflectliteType.relation "Implements" ReflectliteType.implements_) Tryz.func241 (by kernel_rfl) (by kernel_rfl) (by kernel_rfl) (by kernel_rfl)
  have h10 := @run_callFunc_extern Tryz.prog 167 _ (ReflectliteType.typeOf) Tryz.func167 (by kernel_rfl) (by kernel_rfl) (by kernel_rfl) (by kernel_rfl)
  have h35 := @run_callFunc_extern Tryz.prog 238 _ (ReflectliteType.relation "AssignableTo" ReflectliteType.assignableTo) Tryz.func238 (by kernel_rfl) (by kernel_rfl) (by kernel_rfl) (by kernel_rfl)
  have h11 := @run_callFunc_extern Tryz.prog 168 _ (ReflectliteValue.method (ReflectliteValue.valueError "reflectlite.Value.Elem" 0) ReflectliteValue.elem) Tryz.func168 (by kernel_rfl) (by kernel_rfl) (by kernel_rfl) (by kernel_rfl)
  have h12 := @run_callFunc_extern Tryz.prog 169 _ (ReflectliteValue.set) Tryz.func169 (by kernel_rfl) (by kernel_rfl) (by kernel_rfl) (by kernel_rfl)
  have xtypeOfE := Tryz.typeOfE
  have xmethodAssignableTo := Tryz.methodAssignableTo
  have xassignableE := Tryz.assignableE
  have xvalueOfE := Tryz.valueOfE
  have xvalueOfP := Tryz.valueOfP
  have xtypeP := Tryz.typeP
  have xmethodKind := Tryz.methodKind
  have xmethodElem := Tryz.methodElem
  have xmethodImplements := Tryz.methodImplements
  have xkindP := Tryz.kindP
  have xkindE := Tryz.kindE
  have xelemP := Tryz.elemP
  have ximplementsE := Tryz.implementsE
  have n8 := Tryz.isNilP ⟨w.heap.size, 0, none⟩ t ((w.alloc (.cells #[.pointer (some t)] 125)).alloc (.cells #[.pointer (some ⟨1, 125, none⟩), .pointer (some ⟨w.heap.size, 0, none⟩), .int .u64 150] 186)) (by simp)
  have hlt : 0 < w.heap.size := by
    rcases Nat.eq_zero_or_pos w.heap.size with h0 | h
    · simp [World.cell?, h0] at hg
    · exact h
  have hg2 : ((w.alloc (.cells #[.pointer (some t)] 125)).alloc (.cells #[.pointer (some ⟨1, 125, none⟩), .pointer (some ⟨w.heap.size, 0, none⟩), .int .u64 150] 186)).cell? ⟨0, 0, none⟩ = some (.iface 229 (.agg #[.pointer (some ⟨1, 32, none⟩)])) := by
    rw [World.cell?_alloc_lt _ _ ⟨0, 0, none⟩ (by simp), World.cell?_alloc_lt _ _ ⟨0, 0, none⟩ hlt]; exact hg
  have htl : t.block < w.heap.size := by
    rcases Nat.lt_or_ge t.block w.heap.size with h | h
    · exact h
    · simp [World.cell?, Array.getElem?_eq_none h] at ht0
  have el := Tryz.elemVP ⟨w.heap.size, 0, none⟩ t (((w.alloc (.cells #[.pointer (some t)] 125)).alloc (.cells #[.pointer (some ⟨1, 125, none⟩), .pointer (some ⟨w.heap.size, 0, none⟩), .int .u64 150] 186)).alloc (.cells #[.pointer (some ⟨1, 125, none⟩), .pointer (some ⟨w.heap.size, 0, none⟩), .int .u64 150] 186)) (by rw [World.cell?_alloc_lt _ _ ⟨w.heap.size, 0, none⟩ (by simp; omega)]; simp)
  have st := Tryz.setE t ⟨w.heap.size + 1 + 1 + 1, 0, none⟩ e old ((((w.alloc (.cells #[.pointer (some t)] 125)).alloc (.cells #[.pointer (some ⟨1, 125, none⟩), .pointer (some ⟨w.heap.size, 0, none⟩), .int .u64 150] 186)).alloc (.cells #[.pointer (some ⟨1, 125, none⟩), .pointer (some ⟨w.heap.size, 0, none⟩), .int .u64 150] 186)).alloc (.cells #[.int .i64 e] 42))
    (by rw [World.cell?_alloc_at _ _ _ _ (by simp)]; rfl)
    (by rw [World.cell?_alloc_lt _ _ t (by simp; omega), World.cell?_alloc_lt _ _ t (by simp; omega), World.cell?_alloc_lt _ _ t (by simp; omega), World.cell?_alloc_lt _ _ t htl]; exact ht0)
    (by rw [World.frozen?_alloc_old _ _ t (by simp; omega), World.frozen?_alloc_old _ _ t (by simp; omega), World.frozen?_alloc_old _ _ t (by simp; omega), World.frozen?_alloc_old _ _ t (Nat.ne_of_lt htl)]; exact hf0)
  go_enter Tryz.func62, Tryz.ntmps62
  go_wp2
  refine wp_loop_rounds 1 ?_
  rw [rounds_succ]
  go_wp2
  go_ret
  exact ⟨rfl, rfl⟩
end Go.Proofs.YtgajfjeffamnkaaGreatDoor
namespace Go.Proofs.YtgajfjeffamnkaaGreatDoor
open Go.Sx
/-- the cell of the variable errors.errorType -/
def handleV : Value := .iface 229 (.agg #[.pointer (some ⟨1, 32, none⟩)])
theorem as_hitC (gt : Nat) (gf : Nat × Nat) (b : Nat) (old k : Int) : Ctr Tryz.prog 62 #[.iface 42 (.int .i64 k), .iface 125 (.pointer (some ⟨b, 0, none⟩))] [.raw 0 (.cells #[handleV] gt gf), .pts b [.int .i64 old] 42]
    (Ret (.bool true) [.raw 0 (.cells #[handleV] gt gf), .pts b [.int .i64 k] 42]) := by
  intro F w hi
  have h0 := (hi.one (i := 0) rfl (b := 0) (o := .cells #[handleV] gt gf) (fun g hg => hg)).1
  have hb := (hi.one (i := 1) rfl (b := b) (o := .cells #[.int .i64 old] 42 (0, 0)) (fun g hg => hg)).1
  refine (as_hit k ⟨b, 0, none⟩ (.int .i64 old) w (by simp [World.cell?, h0, handleV]) (by simp [World.cell?, hb]) (by simp [World.frozen?, hb])).mono ?_
  rintro e w' ⟨rfl, rfl⟩
  refine ⟨_, _, rfl, ⟨rfl, rfl⟩, ?_⟩
  have h4 : In _ F (((((w.alloc (.cells #[.pointer (some ⟨b, 0, none⟩)] 125)).alloc (.cells #[.pointer (some ⟨1, 125, none⟩), .pointer (some ⟨w.heap.size, 0, none⟩), .int .u64 150] 186)).alloc (.cells #[.pointer (some ⟨1, 125, none⟩), .pointer (some ⟨w.heap.size, 0, none⟩), .int .u64 150] 186)).alloc (.cells #[.int .i64 k] 42))) := (((hi.alloc (.cells #[.pointer (some ⟨b, 0, none⟩)] 125)).alloc (.cells #[.pointer (some ⟨1, 125, none⟩), .pointer (some ⟨w.heap.size, 0, none⟩), .int .u64 150] 186)).alloc (.cells #[.pointer (some ⟨1, 125, none⟩), .pointer (some ⟨w.heap.size, 0, none⟩), .int .u64 150] 186)).alloc (.cells #[.int .i64 k] 42)
  obtain ⟨h5, h6⟩ := h4.one (i := 1) rfl (b := b) (o := .cells #[.int .i64 old] 42 (0, 0)) (fun g hg => hg)
  have h7 := h6 (.cells #[.int .i64 k] 42 (0, 0)) (.pts b [.int .i64 k] 42) (((((w.alloc (.cells #[.pointer (some ⟨b, 0, none⟩)] 125)).alloc (.cells #[.pointer (some ⟨1, 125, none⟩), .pointer (some ⟨w.heap.size, 0, none⟩), .int .u64 150] 186)).alloc (.cells #[.pointer (some ⟨1, 125, none⟩), .pointer (some ⟨w.heap.size, 0, none⟩), .int .u64 150] 186)).alloc (.cells #[.int .i64 k] 42)).setCell ⟨b, 0, none⟩ (.int .i64 k)) rfl
    (by simp only [World.setCell]; rw [Array.getElem?_modify, if_pos rfl]; exact congrArg _ h5)
    (fun j hj => by simp only [World.setCell]; rw [Array.getElem?_modify, if_neg (fun h => hj h.symm)]) rfl rfl rfl
  exact In.left (L := [.raw 0 (.cells #[handleV] gt gf), .pts b [.int .i64 k] 42]) (M := [_, _, _, _]) h7
end Go.Proofs.YtgajfjeffamnkaaGreatDoor


namespace Go.Proofs.YtgajfjeffamnkaaGreatDoor
open Go.Sx
def IsH (o : Obj) : Prop := ∃ t f, o = .cells #[handleV] t f
theorem cause_NewE (k_ : Int) (hk : k_ ≠ 0) :
    Ctr Tryz.prog 46 #[vI k_] [] (Ret (.iface 42 (vI k_)) []) := by
  refine ctr_of (args := [vI k_]) (fn := Tryz.f46) (body := B46) (nt := 7) Tryz.func46 (by kernel_rfl) (by kernel_rfl) ?_
  intro F
  refine go_exec (rs := [.tmp 2]) (by kernel_rfl) 4000 [.sp [4] [.dead] []] (o := .br (k_ == 0) (.bad) (.ret (.iface 42 (vI k_)) [])) (by kernel_rfl) ?_
  refine ok_br (fun h => absurd (show (k_ == 0) = false from (beq_eq_false_iff_ne.2 hk)) (by rw [h]; simp)) (fun _ => ?_)
  exact ret_ok (post := []) [] (by kernel_rfl) ⟨rfl, (by kernel_rfl)⟩

theorem as_hitH (o_ : Obj) (b : Nat) (old k_ : Int) (ho : IsH o_) :
    Ctr Tryz.prog 62 #[.iface 42 (vI k_), .iface 125 (vP b)] [.raw 0 o_, .pts b [vI old] 42] (Ret (.bool true) [.raw 0 o_, .pts b [vI k_] 42]) := by
  obtain ⟨t, f, rfl⟩ := ho
  exact as_hitC t f b old k_

noncomputable def B17 : Code := (Tryz.f17.body).getD .skip

theorem cause_TopE (o_ : Obj) (k_ : Int) (ho : IsH o_) :
    Ctr Tryz.prog 17 #[.iface 42 (vI k_)] [.raw 0 o_] (Ret (vI k_) [.raw 0 o_]) := by
  refine ctr_of (args := [.iface 42 (vI k_)]) (fn := Tryz.f17) (body := B17) (nt := 8) Tryz.func17 (by kernel_rfl) (by kernel_rfl) ?_
  intro F
  refine go_exec (rs := [.tmp 2]) (by kernel_rfl) 4000 [.z [0, 0, 1, 1] 2 [3, 4, 5]] (o := .new fun b_1 => .stop [.o [0, 0, 1, 1] 2, .c [1, 0, 1, 1], .c [1, 1, 1]] [(3, vP b_1), (4, .iface 42 (vI k_)), (5, .iface 125 (vP b_1))] [.raw 0 o_, .pts b_1 [vI 0] 42]) (by kernel_rfl) ?_
  refine ok_new fun b_1 => ?_
  refine ok_stop ?_
  refine go_call (some 6) [0, 1] Tryz.call62 (as_hitH o_ b_1 0 k_ (by first | assumption | omega | (simp only [InK] at *; omega))) (by kernel_rfl) ?_
  rintro v post ⟨rfl, rfl⟩
  refine go_exec (rs := [.tmp 2]) (by kernel_rfl) 4000 [.e 1] (o := .obl (b_1 = b_1) (.ret (vI k_) [.raw 0 o_, .pts b_1 [vI k_] 42])) (by kernel_rfl) ?_
  refine ok_obl rfl ?_
  exact ret_ok (post := [.raw 0 o_]) [0] (by kernel_rfl) ⟨rfl, (by kernel_rfl)⟩


end Go.Proofs.YtgajfjeffamnkaaGreatDoor

/- What the listed variable gives a walk. -/
namespace Go.Proofs.YtgajfjeffamnkaaGreatDoor
open Go.Sx Go.ChangeShapes Go.WideShapes Go.ChangeAt Go.RowKit
theorem Tryz.own : ownKnob Tryz.prog.godebug = none := by kernel_rfl
theorem Tryz.laidOutP : laidOutB Tryz.prog = true := by kernel_rfl
theorem Tryz.et : Tryz.prog.globalNamed "errors.errorType" = some 0 := by kernel_rfl
theorem Tryz.rt : (Tryz.prog.cutTypes.find? (·.1 == "internal/reflectlite.rtype")).map (·.2) = some 229 := by kernel_rfl
theorem Tryz.oneRow : ((List.range 298).filter fun t => Tryz.prog.rowNamed t [101, 114, 114, 111, 114]) = [32] := by kernel_rfl
theorem Tryz.sizeT : Tryz.prog.types.size = 298 := by kernel_rfl
theorem handle_of_laid {W : World} (h : laidMetH Tryz.prog [("errors.errorType", Rows.laid_errors_errorType)] W) : ∃ o, IsH o ∧ W.heap[0]? = some o := by
  have h' : laidMet Tryz.prog [] W ∧ handlesMet Tryz.prog [("errors.errorType", Rows.laid_errors_errorType)] W := h
  obtain ⟨name, u, ty, e1, e2, e3, e4, e5⟩ := h'.2 _ (List.mem_singleton.2 rfl)
  have en : name = [101, 114, 114, 111, 114] := (Option.some.inj e1).symm
  subst en
  obtain rfl := Option.some.inj (Tryz.rt.symm.trans e2)
  have hm : ty ∈ (List.range 298).filter fun t => Tryz.prog.rowNamed t [101, 114, 114, 111, 114] := List.mem_filter.2 ⟨List.mem_range.2 (by rw [← Tryz.sizeT]; exact e3), e4⟩
  rw [Tryz.oneRow] at hm
  obtain rfl := List.mem_singleton.1 hm
  have hh : typeHandle Tryz.prog 32 = .pointer (some ⟨1, 32, none⟩) := by kernel_rfl
  rw [hh] at e5
  simp only [World.var?, Tryz.et, Option.bind_some] at e5
  split at e5
  · rename_i cs t f hc
    exact ⟨_, ⟨t, f, by have := Option.some.inj e5; rw [this]; rfl⟩, hc⟩
  · cases e5
noncomputable def laidWorld (os : Os) : World :=
  let w0 := World.holding Tryz.prog os ⟨#[], #[], []⟩
  { w0 with heap := w0.heap.modify 0 fun
      | .cells _ t frozen => .cells #[.iface 229 (.agg #[.pointer (some ⟨1, 32, none⟩)])] t frozen
      | o => o }
theorem laidWorld_met (os : Os) (args : Array Value) : laidMetH Tryz.prog [("errors.errorType", Rows.laid_errors_errorType)] ((laidWorld os).forCall (fun _ _ => 0) ⟨#[], args, []⟩).memory :=
  laidMetH_of_parts (laidMet_nil _ _) (by kernel_rfl)
theorem foot_h {o : Obj} {W : World} (h : W.heap[0]? = some o) : Fits [(0, o)] W := ⟨by simp, fun p hp => by rw [List.mem_singleton.1 hp]; exact h⟩
theorem dens_h (o : Obj) : dens [.raw 0 o] [(0, o)] := ⟨[(0, o)], [], by simp, rfl, rfl⟩
theorem pin_h (o : Obj) : ∀ g, dens [.raw 0 o] g → ∀ p ∈ [(0, o)], p ∈ g := by
  rintro g ⟨f1, f2, rfl, h1, h2⟩ p hp
  have h1 : f1 = [(0, o)] := h1
  subst h1
  exact List.mem_append_left _ hp
end Go.Proofs.YtgajfjeffamnkaaGreatDoor


namespace Go.Proofs.YtgajfjeffamnkaaGreatDoor
open Go.Sx
end Go.Proofs.YtgajfjeffamnkaaGreatDoor


namespace Go.Proofs.YtgajfjeffamnkaaGreatDoor
open Go.Sx
end Go.Proofs.YtgajfjeffamnkaaGreatDoor


namespace Go.Proofs.YtgajfjeffamnkaaGreatDoor
open Go.Sx
abbrev E03c2e (x0 : Nat) (c1 : Cfg) (x2 : Int) (x3 : Int) (x4 : Int) : Ent := .pts x0 [.int .i64 c1.topics, .int .i64 c1.small, .int .i64 c1.slots, .int .i64 c1.clients, .int .i64 c1.s0, .int .i64 c1.n0, .int .i64 c1.s1, .int .i64 c1.n1, .int .i64 c1.retry, .int .i64 x2, .int .i64 x3, .int .i64 x4] 178
noncomputable def B54 : Code := (Tryz.f54.body).getD .skip

theorem new_Claim (c : Cfg) (cl : Int) (hc : c.Ok) (hcl : 0 ≤ cl ∧ cl < c.clients) :
    Ctr Tryz.prog 54 #[cfgV c, vI cl] [] (fun v L => ∃ (k : Nat), v = vP k ∧ L = [E03c2e k c cl 0 (-1)]) := by
  refine ctr_of (args := [cfgV c, vI cl]) (fn := Tryz.f54) (body := B54) (nt := 22) Tryz.func54 (by kernel_rfl) (by kernel_rfl) ?_
  intro F
  refine go_exec (rs := [.tmp 4]) (by kernel_rfl) 4000 [.e 0, .z [0, 0, 1] 1 [1, 2, 5]] (o := .new fun b_1 => .obl (b_1 = b_1) (.stop [.o [0, 0, 1] 1, .c [1, 0, 1], .c [1, 1]] [(1, vI cl), (2, vP b_1), (5, cfgV c)] [Efdc04 b_1 c])) (by kernel_rfl) ?_
  refine ok_new fun b_1 => ?_
  refine ok_obl rfl ?_
  refine ok_stop ?_
  refine go_call (some 6) [] Tryz.call64 (plan_Check c (by first | assumption | omega | (simp only [InK] at *; omega))) (by kernel_rfl) ?_
  rintro v post ⟨rfl, rfl⟩
  refine go_exec (rs := [.tmp 4]) (by kernel_rfl) 4000 [.sp [12, 10, 11] [.dead] [.e 0, .sp [17, 16] [.dead] [.e 0]]] (o := .obl ((decide (cl < 0)) = (decide (cl < 0))) (.obl ((decide (cl < 0)) = (decide (cl < 0))) (.br (decide (cl < 0)) (.bad) (.obl (b_1 = b_1) (.obl ((decide (cl ≥ c.clients)) = (decide (cl ≥ c.clients))) (.br (decide (cl ≥ c.clients)) (.bad) (.obl (b_1 = b_1) (.new fun b_2 => .ret (vP b_2) [Efdc04 b_1 c, E03c2e b_2 c cl 0 (-1)])))))))) (by kernel_rfl) ?_
  refine ok_obl rfl ?_
  refine ok_obl rfl ?_
  refine ok_br (fun h => absurd (show (decide (cl < 0)) = false from (by first | (simp; done) | (simp; omega))) (by rw [h]; simp)) (fun _ => ?_)
  refine ok_obl rfl ?_
  refine ok_obl rfl ?_
  refine ok_br (fun h => absurd (show (decide (cl ≥ c.clients)) = false from (by first | (simp; done) | (simp; omega))) (by rw [h]; simp)) (fun _ => ?_)
  refine ok_obl rfl ?_
  refine ok_new fun b_2 => ?_
  exact ret_ok (post := [E03c2e b_2 c cl 0 (-1)]) [1] (by kernel_rfl) ⟨b_2, rfl, (by kernel_rfl)⟩


theorem new_ClaimBadA (c : Cfg) (cl : Int) (hc : c.Ok) (hb : cl < 0) :
    Ctr Tryz.prog 54 #[cfgV c, vI cl] [] (Ret (.pointer none) []) := by
  refine ctr_of (args := [cfgV c, vI cl]) (fn := Tryz.f54) (body := B54) (nt := 22) Tryz.func54 (by kernel_rfl) (by kernel_rfl) ?_
  intro F
  refine go_exec (rs := [.tmp 4]) (by kernel_rfl) 4000 [.e 0, .z [0, 0, 1] 1 [1, 2, 5]] (o := .new fun b_1 => .obl (b_1 = b_1) (.stop [.o [0, 0, 1] 1, .c [1, 0, 1], .c [1, 1]] [(1, vI cl), (2, vP b_1), (5, cfgV c)] [Efdc04 b_1 c])) (by kernel_rfl) ?_
  refine ok_new fun b_1 => ?_
  refine ok_obl rfl ?_
  refine ok_stop ?_
  refine go_call (some 6) [] Tryz.call64 (plan_Check c (by first | assumption | omega | (simp only [InK] at *; omega))) (by kernel_rfl) ?_
  rintro v post ⟨rfl, rfl⟩
  refine go_exec (rs := [.tmp 4]) (by kernel_rfl) 4000 [.sp [12, 10, 11] [] [.dead]] (o := .obl ((decide (cl < 0)) = (decide (cl < 0))) (.obl ((decide (cl < 0)) = (decide (cl < 0))) (.br (decide (cl < 0)) (.ret (.pointer none) [Efdc04 b_1 c]) (.bad)))) (by kernel_rfl) ?_
  refine ok_obl rfl ?_
  refine ok_obl rfl ?_
  refine ok_br (fun _ => ?_) (fun h => absurd (show (decide (cl < 0)) = true from (decide_eq_true hb)) (by rw [h]; simp))
  exact ret_ok (post := []) [] (by kernel_rfl) ⟨rfl, (by kernel_rfl)⟩


theorem new_ClaimBadB (c : Cfg) (cl : Int) (hc : c.Ok) (hb : ¬ cl < 0) (hb2 : cl ≥ c.clients) :
    Ctr Tryz.prog 54 #[cfgV c, vI cl] [] (Ret (.pointer none) []) := by
  refine ctr_of (args := [cfgV c, vI cl]) (fn := Tryz.f54) (body := B54) (nt := 22) Tryz.func54 (by kernel_rfl) (by kernel_rfl) ?_
  intro F
  refine go_exec (rs := [.tmp 4]) (by kernel_rfl) 4000 [.e 0, .z [0, 0, 1] 1 [1, 2, 5]] (o := .new fun b_1 => .obl (b_1 = b_1) (.stop [.o [0, 0, 1] 1, .c [1, 0, 1], .c [1, 1]] [(1, vI cl), (2, vP b_1), (5, cfgV c)] [Efdc04 b_1 c])) (by kernel_rfl) ?_
  refine ok_new fun b_1 => ?_
  refine ok_obl rfl ?_
  refine ok_stop ?_
  refine go_call (some 6) [] Tryz.call64 (plan_Check c (by first | assumption | omega | (simp only [InK] at *; omega))) (by kernel_rfl) ?_
  rintro v post ⟨rfl, rfl⟩
  refine go_exec (rs := [.tmp 4]) (by kernel_rfl) 4000 [.sp [12, 10, 11] [.dead] [.e 0, .sp [17, 16] [] [.dead]]] (o := .obl ((decide (cl < 0)) = (decide (cl < 0))) (.obl ((decide (cl < 0)) = (decide (cl < 0))) (.br (decide (cl < 0)) (.bad) (.obl (b_1 = b_1) (.obl ((decide (cl ≥ c.clients)) = (decide (cl ≥ c.clients))) (.br (decide (cl ≥ c.clients)) (.ret (.pointer none) [Efdc04 b_1 c]) (.bad))))))) (by kernel_rfl) ?_
  refine ok_obl rfl ?_
  refine ok_obl rfl ?_
  refine ok_br (fun h => absurd (show (decide (cl < 0)) = false from (decide_eq_false hb)) (by rw [h]; simp)) (fun _ => ?_)
  refine ok_obl rfl ?_
  refine ok_obl rfl ?_
  refine ok_br (fun _ => ?_) (fun h => absurd (show (decide (cl ≥ c.clients)) = true from (decide_eq_true hb2)) (by rw [h]; simp))
  exact ret_ok (post := []) [] (by kernel_rfl) ⟨rfl, (by kernel_rfl)⟩


end Go.Proofs.YtgajfjeffamnkaaGreatDoor


namespace Go.Proofs.YtgajfjeffamnkaaGreatDoor
open Go.Sx
noncomputable def nxT (g : Nat) : Nat → Value
  | 1 => .func (.func 104) #[vP g] #[]
  | 2 => .func (.func 152) #[vP g] #[]
  | 3 => .func (.func 178) #[vP g] #[]
  | _ => .nilFunc
end Go.Proofs.YtgajfjeffamnkaaGreatDoor


namespace Go.Proofs.YtgajfjeffamnkaaGreatDoor
open Go.Sx
abbrev E0bba3 (x0 : Nat) (c1 : Cfg) (x2 : Int) (x3 : Int) (x4 : Value) (x5 : Int) (x6 : Int) (x7 : Int) : Ent := .pts x0 [.int .i64 c1.topics, .int .i64 c1.small, .int .i64 c1.slots, .int .i64 c1.clients, .int .i64 c1.s0, .int .i64 c1.n0, .int .i64 c1.s1, .int .i64 c1.n1, .int .i64 c1.retry, .int .i64 x2, .int .u64 x3, x4, .int .i64 x5, .int .i64 x6, .int .i64 x7] 171
noncomputable abbrev E65ea3 (x0 : Nat) (c1 : Cfg) (t2 : Tk) (x3 : Nat) : Ent := .pts x0 [.int .i64 c1.topics, .int .i64 c1.small, .int .i64 c1.slots, .int .i64 c1.clients, .int .i64 c1.s0, .int .i64 c1.n0, .int .i64 c1.s1, .int .i64 c1.n1, .int .i64 c1.retry, .int .i64 t2.head, .int .u64 t2.seen, (nxT x3 t2.ph), .int .i64 t2.cls, .int .i64 t2.block, .int .i64 t2.after] 171
noncomputable abbrev Ef47d3 (x0 : Nat) (c1 : Cfg) (t2 : Tk) (x3 : Nat) (x4 : Nat) : Ent := .pts x0 [.int .i64 c1.topics, .int .i64 c1.small, .int .i64 c1.slots, .int .i64 c1.clients, .int .i64 c1.s0, .int .i64 c1.n0, .int .i64 c1.s1, .int .i64 c1.n1, .int .i64 c1.retry, .int .i64 t2.head, .int .u64 t2.seen, (nxT x3 x4), .int .i64 t2.cls, .int .i64 t2.block, .int .i64 t2.after] 171
abbrev q70_0 : List Nat := [0, 1, 0, 0, 1, 1, 0, 0, 1, 0, 1]
abbrev q70_1 : List Nat := [1, 1, 0, 0, 1, 1, 0, 0, 1, 0, 1]
abbrev q70_2 : List Nat := [1, 1, 1, 0, 0, 1, 0, 1]
noncomputable def B66 : Code := (Tryz.f66.body).getD .skip

theorem clo_Fits (b : Nat) (s_ m_ n_ : Int)  :
    Ctr Tryz.prog 66 #[.agg #[vI s_, vI m_], vP b] [.pts b [vI n_] 3] (Ret (.bool (decide (s_ ≥ n_))) [.pts b [vI n_] 3]) := by
  refine ctr_of (args := [.agg #[vI s_, vI m_], vP b]) (fn := Tryz.f66) (body := B66) (nt := 8) Tryz.func66 (by kernel_rfl) (by kernel_rfl) ?_
  intro F
  refine go_exec (rs := [.tmp 3]) (by kernel_rfl) 4000 [.e 1, .e 0] (o := .new fun b_1 => .obl (b_1 = b_1) (.obl (b = b) (.ret (.bool (decide (s_ ≥ n_))) [.pts b [vI n_] 3, .pts b_1 [vI s_, vI m_] 26]))) (by kernel_rfl) ?_
  refine ok_new fun b_1 => ?_
  refine ok_obl rfl ?_
  refine ok_obl rfl ?_
  exact ret_ok (post := [.pts b [vI n_] 3]) [0] (by kernel_rfl) ⟨rfl, (by kernel_rfl)⟩

noncomputable def B65 : Code := (Tryz.f65.body).getD .skip

theorem index_Fits0 (c : Cfg) (b b2 : Nat) (n_ : Int) (h0 : n_ ≤ c.s0) :
    Ctr Tryz.prog 65 #[.slice (some ⟨b, 4, none⟩) 2 2, .func (.func 66) #[] #[vP b2]] [Efdc04 b c, .pts b2 [vI n_] 3] (Ret (vI 0) [Efdc04 b c, .pts b2 [vI n_] 3]) := by
  refine ctr_of (args := [.slice (some ⟨b, 4, none⟩) 2 2, .func (.func 66) #[] #[vP b2]]) (fn := Tryz.f65) (body := B65) (nt := 19) Tryz.func65 (by kernel_rfl) (by kernel_rfl) ?_
  intro F
  refine go_exec (rs := [.tmp 4]) (by kernel_rfl) 4000 [.u, .w, .e 0, .z q70_0 5 [0, 1, 5, 7, 8, 11, 15]] (o := .obl (b = b) (.stop [.o q70_0 5, .c q70_1, .b 1, .c q70_2, .r [0, 1, 0, 1], .b 0, .c [1, 1]] [(0, .slice (some ⟨b, 4, none⟩) 2 2), (1, .func (.func 66) #[] #[vP b2]), (5, vI 0), (7, vI 2), (8, vI 0), (11, .func (.func 66) #[] #[vP b2]), (15, .agg #[vI c.s0, vI c.n0])] [Efdc04 b c, .pts b2 [vI n_] 3])) (by kernel_rfl) ?_
  refine ok_obl rfl ?_
  refine ok_stop ?_
  refine go_call (some 16) [1] Tryz.call66 (clo_Fits b2 c.s0 c.n0 n_) (by kernel_rfl) ?_
  rintro v post ⟨rfl, rfl⟩
  refine go_exec (rs := [.tmp 4]) (by kernel_rfl) 4000 [.sp [16] [] [.dead]] (o := .br (decide (c.s0 ≥ n_)) (.ret (vI 0) [Efdc04 b c, .pts b2 [vI n_] 3]) (.bad)) (by kernel_rfl) ?_
  refine ok_br (fun _ => ?_) (fun h => absurd (show (decide (c.s0 ≥ n_)) = true from (by simp; omega)) (by rw [h]; simp))
  exact ret_ok (post := [Efdc04 b c, .pts b2 [vI n_] 3]) [0, 1] (by kernel_rfl) ⟨rfl, (by kernel_rfl)⟩


theorem index_Fits1 (c : Cfg) (b b2 : Nat) (n_ : Int) (h0 : ¬ n_ ≤ c.s0) (h1 : n_ ≤ c.s1) :
    Ctr Tryz.prog 65 #[.slice (some ⟨b, 4, none⟩) 2 2, .func (.func 66) #[] #[vP b2]] [Efdc04 b c, .pts b2 [vI n_] 3] (Ret (vI 1) [Efdc04 b c, .pts b2 [vI n_] 3]) := by
  refine ctr_of (args := [.slice (some ⟨b, 4, none⟩) 2 2, .func (.func 66) #[] #[vP b2]]) (fn := Tryz.f65) (body := B65) (nt := 19) Tryz.func65 (by kernel_rfl) (by kernel_rfl) ?_
  intro F
  refine go_exec (rs := [.tmp 4]) (by kernel_rfl) 4000 [.u, .w, .e 0, .z q70_0 5 [0, 1, 5, 7, 8, 11, 15]] (o := .obl (b = b) (.stop [.o q70_0 5, .c q70_1, .b 1, .c q70_2, .r [0, 1, 0, 1], .b 0, .c [1, 1]] [(0, .slice (some ⟨b, 4, none⟩) 2 2), (1, .func (.func 66) #[] #[vP b2]), (5, vI 0), (7, vI 2), (8, vI 0), (11, .func (.func 66) #[] #[vP b2]), (15, .agg #[vI c.s0, vI c.n0])] [Efdc04 b c, .pts b2 [vI n_] 3])) (by kernel_rfl) ?_
  refine ok_obl rfl ?_
  refine ok_stop ?_
  refine go_call (some 16) [1] Tryz.call66 (clo_Fits b2 c.s0 c.n0 n_) (by kernel_rfl) ?_
  rintro v post ⟨rfl, rfl⟩
  refine go_exec (rs := [.tmp 4]) (by kernel_rfl) 4000 [.sp [16] [.dead] [.w, .u, .w, .e 0, .z q70_0 5 [0, 1, 5, 7, 8, 11, 15]]] (o := .br (decide (c.s0 ≥ n_)) (.bad) (.obl (b = b) (.stop [.o q70_0 5, .c q70_1, .b 1, .c q70_2, .r [0, 1, 0, 1], .b 0, .c [1, 1]] [(0, .slice (some ⟨b, 4, none⟩) 2 2), (1, .func (.func 66) #[] #[vP b2]), (5, vI 1), (7, vI 2), (8, vI 1), (11, .func (.func 66) #[] #[vP b2]), (15, .agg #[vI c.s1, vI c.n1])] [Efdc04 b c, .pts b2 [vI n_] 3]))) (by kernel_rfl) ?_
  refine ok_br (fun h => absurd (show (decide (c.s0 ≥ n_)) = false from (by simp; omega)) (by rw [h]; simp)) (fun _ => ?_)
  refine ok_obl rfl ?_
  refine ok_stop ?_
  refine go_call (some 16) [1] Tryz.call66 (clo_Fits b2 c.s1 c.n1 n_) (by kernel_rfl) ?_
  rintro v post ⟨rfl, rfl⟩
  refine go_exec (rs := [.tmp 4]) (by kernel_rfl) 4000 [.sp [16] [] [.dead]] (o := .br (decide (c.s1 ≥ n_)) (.ret (vI 1) [Efdc04 b c, .pts b2 [vI n_] 3]) (.bad)) (by kernel_rfl) ?_
  refine ok_br (fun _ => ?_) (fun h => absurd (show (decide (c.s1 ≥ n_)) = true from (by simp; omega)) (by rw [h]; simp))
  exact ret_ok (post := [Efdc04 b c, .pts b2 [vI n_] 3]) [0, 1] (by kernel_rfl) ⟨rfl, (by kernel_rfl)⟩


theorem index_Fits2 (c : Cfg) (b b2 : Nat) (n_ : Int) (h0 : ¬ n_ ≤ c.s0) (h1 : ¬ n_ ≤ c.s1) :
    Ctr Tryz.prog 65 #[.slice (some ⟨b, 4, none⟩) 2 2, .func (.func 66) #[] #[vP b2]] [Efdc04 b c, .pts b2 [vI n_] 3] (Ret (vI (-1)) [Efdc04 b c, .pts b2 [vI n_] 3]) := by
  refine ctr_of (args := [.slice (some ⟨b, 4, none⟩) 2 2, .func (.func 66) #[] #[vP b2]]) (fn := Tryz.f65) (body := B65) (nt := 19) Tryz.func65 (by kernel_rfl) (by kernel_rfl) ?_
  intro F
  refine go_exec (rs := [.tmp 4]) (by kernel_rfl) 4000 [.u, .w, .e 0, .z q70_0 5 [0, 1, 5, 7, 8, 11, 15]] (o := .obl (b = b) (.stop [.o q70_0 5, .c q70_1, .b 1, .c q70_2, .r [0, 1, 0, 1], .b 0, .c [1, 1]] [(0, .slice (some ⟨b, 4, none⟩) 2 2), (1, .func (.func 66) #[] #[vP b2]), (5, vI 0), (7, vI 2), (8, vI 0), (11, .func (.func 66) #[] #[vP b2]), (15, .agg #[vI c.s0, vI c.n0])] [Efdc04 b c, .pts b2 [vI n_] 3])) (by kernel_rfl) ?_
  refine ok_obl rfl ?_
  refine ok_stop ?_
  refine go_call (some 16) [1] Tryz.call66 (clo_Fits b2 c.s0 c.n0 n_) (by kernel_rfl) ?_
  rintro v post ⟨rfl, rfl⟩
  refine go_exec (rs := [.tmp 4]) (by kernel_rfl) 4000 [.sp [16] [.dead] [.w, .u, .w, .e 0, .z q70_0 5 [0, 1, 5, 7, 8, 11, 15]]] (o := .br (decide (c.s0 ≥ n_)) (.bad) (.obl (b = b) (.stop [.o q70_0 5, .c q70_1, .b 1, .c q70_2, .r [0, 1, 0, 1], .b 0, .c [1, 1]] [(0, .slice (some ⟨b, 4, none⟩) 2 2), (1, .func (.func 66) #[] #[vP b2]), (5, vI 1), (7, vI 2), (8, vI 1), (11, .func (.func 66) #[] #[vP b2]), (15, .agg #[vI c.s1, vI c.n1])] [Efdc04 b c, .pts b2 [vI n_] 3]))) (by kernel_rfl) ?_
  refine ok_br (fun h => absurd (show (decide (c.s0 ≥ n_)) = false from (by simp; omega)) (by rw [h]; simp)) (fun _ => ?_)
  refine ok_obl rfl ?_
  refine ok_stop ?_
  refine go_call (some 16) [1] Tryz.call66 (clo_Fits b2 c.s1 c.n1 n_) (by kernel_rfl) ?_
  rintro v post ⟨rfl, rfl⟩
  refine go_exec (rs := [.tmp 4]) (by kernel_rfl) 4000 [.sp [16] [.dead] [.w, .u]] (o := .br (decide (c.s1 ≥ n_)) (.bad) (.ret (vI (-1)) [Efdc04 b c, .pts b2 [vI n_] 3])) (by kernel_rfl) ?_
  refine ok_br (fun h => absurd (show (decide (c.s1 ≥ n_)) = false from (by simp; omega)) (by rw [h]; simp)) (fun _ => ?_)
  exact ret_ok (post := [Efdc04 b c, .pts b2 [vI n_] 3]) [0, 1] (by kernel_rfl) ⟨rfl, (by kernel_rfl)⟩

noncomputable def B24 : Code := (Tryz.f24.body).getD .skip

theorem fitsL (c : Cfg) (n_ : Int) (hc : c.Ok) (hn : n_ < 1) :
    Ctr Tryz.prog 24 #[cfgV c, vI n_] [] (Ret (vI (-1)) []) := by
  refine ctr_of (args := [cfgV c, vI n_]) (fn := Tryz.f24) (body := B24) (nt := 16) Tryz.func24 (by kernel_rfl) (by kernel_rfl) ?_
  intro F
  refine go_exec (rs := [.tmp 4]) (by kernel_rfl) 4000 [.e 0, .z [0, 0, 1] 1 [2, 3, 5]] (o := .new fun b_1 => .new fun b_2 => .obl (b_1 = b_1) (.stop [.o [0, 0, 1] 1, .c [1, 0, 1], .c [1, 1]] [(2, vP b_1), (3, vP b_2), (5, cfgV c)] [Efdc04 b_1 c, .pts b_2 [vI n_] 3])) (by kernel_rfl) ?_
  refine ok_new fun b_1 => ?_
  refine ok_new fun b_2 => ?_
  refine ok_obl rfl ?_
  refine ok_stop ?_
  refine go_call (some 6) [] Tryz.call64 (plan_Check c (by first | assumption | omega | (simp only [InK] at *; omega))) (by kernel_rfl) ?_
  rintro v post ⟨rfl, rfl⟩
  refine go_exec (rs := [.tmp 4]) (by kernel_rfl) 4000 [.e 1, .sp [11, 10] [] [.dead]] (o := .obl (b_2 = b_2) (.obl ((decide (n_ < 1)) = (decide (n_ < 1))) (.br (decide (n_ < 1)) (.ret (vI (-1)) [Efdc04 b_1 c, .pts b_2 [vI n_] 3]) (.bad)))) (by kernel_rfl) ?_
  refine ok_obl rfl ?_
  refine ok_obl rfl ?_
  refine ok_br (fun _ => ?_) (fun h => absurd (show (decide (n_ < 1)) = true from (decide_eq_true hn)) (by rw [h]; simp))
  exact ret_ok (post := []) [] (by kernel_rfl) ⟨rfl, (by kernel_rfl)⟩


theorem fits0 (c : Cfg) (n_ : Int) (hc : c.Ok) (hn : ¬ n_ < 1) (h0 : n_ ≤ c.s0) :
    Ctr Tryz.prog 24 #[cfgV c, vI n_] [] (Ret (vI 0) []) := by
  refine ctr_of (args := [cfgV c, vI n_]) (fn := Tryz.f24) (body := B24) (nt := 16) Tryz.func24 (by kernel_rfl) (by kernel_rfl) ?_
  intro F
  refine go_exec (rs := [.tmp 4]) (by kernel_rfl) 4000 [.e 0, .z [0, 0, 1] 1 [2, 3, 5]] (o := .new fun b_1 => .new fun b_2 => .obl (b_1 = b_1) (.stop [.o [0, 0, 1] 1, .c [1, 0, 1], .c [1, 1]] [(2, vP b_1), (3, vP b_2), (5, cfgV c)] [Efdc04 b_1 c, .pts b_2 [vI n_] 3])) (by kernel_rfl) ?_
  refine ok_new fun b_1 => ?_
  refine ok_new fun b_2 => ?_
  refine ok_obl rfl ?_
  refine ok_stop ?_
  refine go_call (some 6) [] Tryz.call64 (plan_Check c (by first | assumption | omega | (simp only [InK] at *; omega))) (by kernel_rfl) ?_
  rintro v post ⟨rfl, rfl⟩
  refine go_exec (rs := [.tmp 4]) (by kernel_rfl) 4000 [.e 1, .sp [11, 10] [.dead] [.z [0, 1, 1] 3 [13, 14]]] (o := .obl (b_2 = b_2) (.obl ((decide (n_ < 1)) = (decide (n_ < 1))) (.br (decide (n_ < 1)) (.bad) (.stop [.o [0, 1, 1] 3, .c [1, 1, 1]] [(13, .slice (some ⟨b_1, 4, none⟩) 2 2), (14, .func (.func 66) #[] #[vP b_2])] [Efdc04 b_1 c, .pts b_2 [vI n_] 3])))) (by kernel_rfl) ?_
  refine ok_obl rfl ?_
  refine ok_obl rfl ?_
  refine ok_br (fun h => absurd (show (decide (n_ < 1)) = false from (decide_eq_false hn)) (by rw [h]; simp)) (fun _ => ?_)
  refine ok_stop ?_
  refine go_call (some 15) [0, 1] Tryz.call65 (index_Fits0 c b_1 b_2 n_ (by first | assumption | omega | (simp only [InK] at *; omega))) (by kernel_rfl) ?_
  rintro v post ⟨rfl, rfl⟩
  refine go_exec (rs := [.tmp 4]) (by kernel_rfl) 4000 [] (o := .ret (vI 0) [Efdc04 b_1 c, .pts b_2 [vI n_] 3]) (by kernel_rfl) ?_
  exact ret_ok (post := []) [] (by kernel_rfl) ⟨rfl, (by kernel_rfl)⟩


theorem fits1 (c : Cfg) (n_ : Int) (hc : c.Ok) (hn : ¬ n_ < 1) (h0 : ¬ n_ ≤ c.s0) (h1 : n_ ≤ c.s1) :
    Ctr Tryz.prog 24 #[cfgV c, vI n_] [] (Ret (vI 1) []) := by
  refine ctr_of (args := [cfgV c, vI n_]) (fn := Tryz.f24) (body := B24) (nt := 16) Tryz.func24 (by kernel_rfl) (by kernel_rfl) ?_
  intro F
  refine go_exec (rs := [.tmp 4]) (by kernel_rfl) 4000 [.e 0, .z [0, 0, 1] 1 [2, 3, 5]] (o := .new fun b_1 => .new fun b_2 => .obl (b_1 = b_1) (.stop [.o [0, 0, 1] 1, .c [1, 0, 1], .c [1, 1]] [(2, vP b_1), (3, vP b_2), (5, cfgV c)] [Efdc04 b_1 c, .pts b_2 [vI n_] 3])) (by kernel_rfl) ?_
  refine ok_new fun b_1 => ?_
  refine ok_new fun b_2 => ?_
  refine ok_obl rfl ?_
  refine ok_stop ?_
  refine go_call (some 6) [] Tryz.call64 (plan_Check c (by first | assumption | omega | (simp only [InK] at *; omega))) (by kernel_rfl) ?_
  rintro v post ⟨rfl, rfl⟩
  refine go_exec (rs := [.tmp 4]) (by kernel_rfl) 4000 [.e 1, .sp [11, 10] [.dead] [.z [0, 1, 1] 3 [13, 14]]] (o := .obl (b_2 = b_2) (.obl ((decide (n_ < 1)) = (decide (n_ < 1))) (.br (decide (n_ < 1)) (.bad) (.stop [.o [0, 1, 1] 3, .c [1, 1, 1]] [(13, .slice (some ⟨b_1, 4, none⟩) 2 2), (14, .func (.func 66) #[] #[vP b_2])] [Efdc04 b_1 c, .pts b_2 [vI n_] 3])))) (by kernel_rfl) ?_
  refine ok_obl rfl ?_
  refine ok_obl rfl ?_
  refine ok_br (fun h => absurd (show (decide (n_ < 1)) = false from (decide_eq_false hn)) (by rw [h]; simp)) (fun _ => ?_)
  refine ok_stop ?_
  refine go_call (some 15) [0, 1] Tryz.call65 (index_Fits1 c b_1 b_2 n_ (by first | assumption | omega | (simp only [InK] at *; omega)) (by first | assumption | omega | (simp only [InK] at *; omega))) (by kernel_rfl) ?_
  rintro v post ⟨rfl, rfl⟩
  refine go_exec (rs := [.tmp 4]) (by kernel_rfl) 4000 [] (o := .ret (vI 1) [Efdc04 b_1 c, .pts b_2 [vI n_] 3]) (by kernel_rfl) ?_
  exact ret_ok (post := []) [] (by kernel_rfl) ⟨rfl, (by kernel_rfl)⟩


theorem fits2 (c : Cfg) (n_ : Int) (hc : c.Ok) (hn : ¬ n_ < 1) (h0 : ¬ n_ ≤ c.s0) (h1 : ¬ n_ ≤ c.s1) :
    Ctr Tryz.prog 24 #[cfgV c, vI n_] [] (Ret (vI (-1)) []) := by
  refine ctr_of (args := [cfgV c, vI n_]) (fn := Tryz.f24) (body := B24) (nt := 16) Tryz.func24 (by kernel_rfl) (by kernel_rfl) ?_
  intro F
  refine go_exec (rs := [.tmp 4]) (by kernel_rfl) 4000 [.e 0, .z [0, 0, 1] 1 [2, 3, 5]] (o := .new fun b_1 => .new fun b_2 => .obl (b_1 = b_1) (.stop [.o [0, 0, 1] 1, .c [1, 0, 1], .c [1, 1]] [(2, vP b_1), (3, vP b_2), (5, cfgV c)] [Efdc04 b_1 c, .pts b_2 [vI n_] 3])) (by kernel_rfl) ?_
  refine ok_new fun b_1 => ?_
  refine ok_new fun b_2 => ?_
  refine ok_obl rfl ?_
  refine ok_stop ?_
  refine go_call (some 6) [] Tryz.call64 (plan_Check c (by first | assumption | omega | (simp only [InK] at *; omega))) (by kernel_rfl) ?_
  rintro v post ⟨rfl, rfl⟩
  refine go_exec (rs := [.tmp 4]) (by kernel_rfl) 4000 [.e 1, .sp [11, 10] [.dead] [.z [0, 1, 1] 3 [13, 14]]] (o := .obl (b_2 = b_2) (.obl ((decide (n_ < 1)) = (decide (n_ < 1))) (.br (decide (n_ < 1)) (.bad) (.stop [.o [0, 1, 1] 3, .c [1, 1, 1]] [(13, .slice (some ⟨b_1, 4, none⟩) 2 2), (14, .func (.func 66) #[] #[vP b_2])] [Efdc04 b_1 c, .pts b_2 [vI n_] 3])))) (by kernel_rfl) ?_
  refine ok_obl rfl ?_
  refine ok_obl rfl ?_
  refine ok_br (fun h => absurd (show (decide (n_ < 1)) = false from (decide_eq_false hn)) (by rw [h]; simp)) (fun _ => ?_)
  refine ok_stop ?_
  refine go_call (some 15) [0, 1] Tryz.call65 (index_Fits2 c b_1 b_2 n_ (by first | assumption | omega | (simp only [InK] at *; omega)) (by first | assumption | omega | (simp only [InK] at *; omega))) (by kernel_rfl) ?_
  rintro v post ⟨rfl, rfl⟩
  refine go_exec (rs := [.tmp 4]) (by kernel_rfl) 4000 [] (o := .ret (vI (-1)) [Efdc04 b_1 c, .pts b_2 [vI n_] 3]) (by kernel_rfl) ?_
  exact ret_ok (post := []) [] (by kernel_rfl) ⟨rfl, (by kernel_rfl)⟩


theorem large_Fits (c : Cfg) (n_ : Int) (hc : c.Ok) :
    Ctr Tryz.prog 24 #[cfgV c, vI n_] [] (Ret (vI (fitK c n_)) []) := by
  unfold fitK
  by_cases hn : n_ < 1
  · rw [if_pos hn]; exact fitsL c n_ hc hn
  · rw [if_neg hn]
    by_cases h0 : n_ ≤ c.s0
    · rw [if_pos h0]; exact fits0 c n_ hc hn h0
    · rw [if_neg h0]
      by_cases h1 : n_ ≤ c.s1
      · rw [if_pos h1]; exact fits1 c n_ hc hn h0 h1
      · rw [if_neg h1]; exact fits2 c n_ hc hn h0 h1


theorem large_Fits0 (n_ : Int)  :
    Ctr Tryz.prog 24 #[.agg #[vI 0, vI 0, vI 0, vI 0, vI 0, vI 0, vI 0, vI 0, vI 0], vI n_] [] (Ret (vI (-1)) []) := by
  refine ctr_of (args := [.agg #[vI 0, vI 0, vI 0, vI 0, vI 0, vI 0, vI 0, vI 0, vI 0], vI n_]) (fn := Tryz.f24) (body := B24) (nt := 16) Tryz.func24 (by kernel_rfl) (by kernel_rfl) ?_
  intro F
  refine go_exec (rs := [.tmp 4]) (by kernel_rfl) 4000 [.e 0, .z [0, 0, 1] 1 [2, 3, 5]] (o := .new fun b_1 => .new fun b_2 => .obl (b_1 = b_1) (.stop [.o [0, 0, 1] 1, .c [1, 0, 1], .c [1, 1]] [(2, vP b_1), (3, vP b_2), (5, .agg #[vI 0, vI 0, vI 0, vI 0, vI 0, vI 0, vI 0, vI 0, vI 0])] [Ed975e b_1 0 0 0 0 0 0 0 0 0, .pts b_2 [vI n_] 3])) (by kernel_rfl) ?_
  refine ok_new fun b_1 => ?_
  refine ok_new fun b_2 => ?_
  refine ok_obl rfl ?_
  refine ok_stop ?_
  refine go_call (some 6) [] Tryz.call64 (plan_Check0) (by kernel_rfl) ?_
  rintro v post ⟨rfl, rfl⟩
  refine go_exec (rs := [.tmp 4]) (by kernel_rfl) 4000 [] (o := .ret (vI (-1)) [Ed975e b_1 0 0 0 0 0 0 0 0 0, .pts b_2 [vI n_] 3]) (by kernel_rfl) ?_
  exact ret_ok (post := []) [] (by kernel_rfl) ⟨rfl, (by kernel_rfl)⟩

noncomputable def B49 : Code := (Tryz.f49.body).getD .skip

theorem new_Take (c : Cfg) (cl : Int) (hc : c.Ok) (hcl : 0 ≤ cl ∧ cl ≤ 1) :
    Ctr Tryz.prog 49 #[cfgV c, vI cl] [] (fun v L => ∃ (k : Nat), v = vP k ∧ L = [E0bba3 k c (3 + cl) 0 (.func (.func 104) #[vP k] #[]) cl 0 0]) := by
  refine ctr_of (args := [cfgV c, vI cl]) (fn := Tryz.f49) (body := B49) (nt := 28) Tryz.func49 (by kernel_rfl) (by kernel_rfl) ?_
  intro F
  refine go_exec (rs := [.tmp 4]) (by kernel_rfl) 4000 [.e 0, .z [0, 0, 1] 1 [1, 2, 6]] (o := .new fun b_1 => .obl (b_1 = b_1) (.stop [.o [0, 0, 1] 1, .c [1, 0, 1], .c [1, 1]] [(1, vI cl), (2, vP b_1), (6, cfgV c)] [Efdc04 b_1 c])) (by kernel_rfl) ?_
  refine ok_new fun b_1 => ?_
  refine ok_obl rfl ?_
  refine ok_stop ?_
  refine go_call (some 7) [] Tryz.call64 (plan_Check c (by first | assumption | omega | (simp only [InK] at *; omega))) (by kernel_rfl) ?_
  rintro v post ⟨rfl, rfl⟩
  refine go_exec (rs := [.tmp 4]) (by kernel_rfl) 4000 [.z [0, 0, 1] 5 [1, 2, 9, 10]] (o := .stop [.o [0, 0, 1] 5, .c [1, 0, 1], .c [1, 1]] [(1, vI cl), (2, vP b_1), (9, .bool false), (10, vI cl)] [Efdc04 b_1 c]) (by kernel_rfl) ?_
  refine ok_stop ?_
  refine go_call (some 11) [] Tryz.call103 (plan_Head cl hcl) (by kernel_rfl) ?_
  rintro v post ⟨rfl, rfl⟩
  refine go_exec (rs := [.tmp 4]) (by kernel_rfl) 4000 [.sp [13, 12] [.dead] [.z [0, 1, 1] 0 [1, 2]]] (o := .obl ((decide ((3 + cl) < 0)) = (decide ((3 + cl) < 0))) (.br (decide ((3 + cl) < 0)) (.bad) (.stop [.c [0, 1, 1], .c [1, 1, 1]] [(1, vI cl), (2, vP b_1)] [Efdc04 b_1 c]))) (by kernel_rfl) ?_
  refine ok_obl rfl ?_
  refine ok_br (fun h => absurd (show (decide ((3 + cl) < 0)) = false from (by first | (simp; done) | (simp; omega))) (by rw [h]; simp)) (fun _ => ?_)
  refine ok_stop ?_
  refine go_tail_op (so := .new fun b_2 => .ok (.value (vP b_2)) [Efdc04 b_1 c, E0bba3 b_2 c (3 + cl) 0 (.nilFunc) cl 0 0]) (dst := (some 20)) (ps := [b_1 = b_1]) (cs := [(103, #[vI cl], vI (3 + cl))]) [(0, .h (.e 0)), (1, .h .w), (2, .q (vI (3 + cl))), (3, .h .w), (4, .h .w), (5, .h .w)] 6 [(7, .h .w)] .w [5] (by kernel_rfl) (by kernel_rfl) ⟨rfl, trivial⟩ ⟨⟨Tryz.call103, quiet_of [] (plan_Head cl hcl) (by kernel_rfl) (by rintro v post ⟨rfl, rfl⟩; exact ⟨rfl, rfl⟩)⟩, trivial⟩ ?_
  refine sat_new fun b_2 => ?_
  refine sat_value ?_
  refine tail_next (tm' := [(5, vP b_2)]) (ps2 := []) (by kernel_rfl) trivial ?_
  refine go_exec (rs := [.tmp 4]) (by kernel_rfl) 4000 [.e 1] (o := .obl (b_2 = b_2) (.ret (vP b_2) [Efdc04 b_1 c, E0bba3 b_2 c (3 + cl) 0 (.func (.func 104) #[vP b_2] #[]) cl 0 0])) (by kernel_rfl) ?_
  refine ok_obl rfl ?_
  exact ret_ok (post := [E0bba3 b_2 c (3 + cl) 0 (.func (.func 104) #[vP b_2] #[]) cl 0 0]) [1] (by kernel_rfl) ⟨b_2, rfl, (by kernel_rfl)⟩


theorem tkrun_Done0 (c : Cfg) (k : Nat) (hd sn cl bk af : Int)  :
    Ctr Tryz.prog 158 #[vP k] [E0bba3 k c hd sn (.nilFunc) cl bk af] (Ret (.bool true) [E0bba3 k c hd sn (.nilFunc) cl bk af]) := by
  refine ctr_of (args := [vP k]) (fn := Tryz.f158) (body := B158) (nt := 12) Tryz.func158 (by kernel_rfl) (by kernel_rfl) ?_
  intro F
  refine go_exec (rs := [.tmp 2]) (by kernel_rfl) 4000 [.e 0] (o := .obl (k = k) (.ret (.bool true) [E0bba3 k c hd sn (.nilFunc) cl bk af])) (by kernel_rfl) ?_
  refine ok_obl rfl ?_
  exact ret_ok (post := [E0bba3 k c hd sn (.nilFunc) cl bk af]) [0] (by kernel_rfl) ⟨rfl, (by kernel_rfl)⟩


theorem tkrun_Done1 (c : Cfg) (k : Nat) (hd sn cl bk af : Int)  :
    Ctr Tryz.prog 158 #[vP k] [E0bba3 k c hd sn (.func (.func 104) #[vP k] #[]) cl bk af] (Ret (.bool false) [E0bba3 k c hd sn (.func (.func 104) #[vP k] #[]) cl bk af]) := by
  refine ctr_of (args := [vP k]) (fn := Tryz.f158) (body := B158) (nt := 12) Tryz.func158 (by kernel_rfl) (by kernel_rfl) ?_
  intro F
  refine go_exec (rs := [.tmp 2]) (by kernel_rfl) 4000 [.e 0] (o := .obl (k = k) (.ret (.bool false) [E0bba3 k c hd sn (.func (.func 104) #[vP k] #[]) cl bk af])) (by kernel_rfl) ?_
  refine ok_obl rfl ?_
  exact ret_ok (post := [E0bba3 k c hd sn (.func (.func 104) #[vP k] #[]) cl bk af]) [0] (by kernel_rfl) ⟨rfl, (by kernel_rfl)⟩


theorem tkrun_Done2 (c : Cfg) (k : Nat) (hd sn cl bk af : Int)  :
    Ctr Tryz.prog 158 #[vP k] [E0bba3 k c hd sn (.func (.func 152) #[vP k] #[]) cl bk af] (Ret (.bool false) [E0bba3 k c hd sn (.func (.func 152) #[vP k] #[]) cl bk af]) := by
  refine ctr_of (args := [vP k]) (fn := Tryz.f158) (body := B158) (nt := 12) Tryz.func158 (by kernel_rfl) (by kernel_rfl) ?_
  intro F
  refine go_exec (rs := [.tmp 2]) (by kernel_rfl) 4000 [.e 0] (o := .obl (k = k) (.ret (.bool false) [E0bba3 k c hd sn (.func (.func 152) #[vP k] #[]) cl bk af])) (by kernel_rfl) ?_
  refine ok_obl rfl ?_
  exact ret_ok (post := [E0bba3 k c hd sn (.func (.func 152) #[vP k] #[]) cl bk af]) [0] (by kernel_rfl) ⟨rfl, (by kernel_rfl)⟩


theorem tkrun_Done3 (c : Cfg) (k : Nat) (hd sn cl bk af : Int)  :
    Ctr Tryz.prog 158 #[vP k] [E0bba3 k c hd sn (.func (.func 178) #[vP k] #[]) cl bk af] (Ret (.bool false) [E0bba3 k c hd sn (.func (.func 178) #[vP k] #[]) cl bk af]) := by
  refine ctr_of (args := [vP k]) (fn := Tryz.f158) (body := B158) (nt := 12) Tryz.func158 (by kernel_rfl) (by kernel_rfl) ?_
  intro F
  refine go_exec (rs := [.tmp 2]) (by kernel_rfl) 4000 [.e 0] (o := .obl (k = k) (.ret (.bool false) [E0bba3 k c hd sn (.func (.func 178) #[vP k] #[]) cl bk af])) (by kernel_rfl) ?_
  refine ok_obl rfl ?_
  exact ret_ok (post := [E0bba3 k c hd sn (.func (.func 178) #[vP k] #[]) cl bk af]) [0] (by kernel_rfl) ⟨rfl, (by kernel_rfl)⟩

noncomputable def B109 : Code := (Tryz.f109.body).getD .skip

theorem tkDone0 (c : Cfg) (k : Nat) (hd sn cl bk af : Int)  :
    Ctr Tryz.prog 109 #[vP k] [E0bba3 k c hd sn (.nilFunc) cl bk af] (Ret (.bool true) [E0bba3 k c hd sn (.nilFunc) cl bk af]) := by
  refine ctr_of (args := [vP k]) (fn := Tryz.f109) (body := B109) (nt := 11) Tryz.func109 (by kernel_rfl) (by kernel_rfl) ?_
  intro F
  refine go_exec (rs := [.tmp 2]) (by kernel_rfl) 4000 [.z [0, 1] 6 [5, 8]] (o := .stop [.o [0, 1] 6, .c [1, 1]] [(5, .bool false), (8, vP k)] [E0bba3 k c hd sn (.nilFunc) cl bk af]) (by kernel_rfl) ?_
  refine ok_stop ?_
  refine go_call (some 9) [0] Tryz.call158 (tkrun_Done0 c k hd sn cl bk af) (by kernel_rfl) ?_
  rintro v post ⟨rfl, rfl⟩
  refine go_exec (rs := [.tmp 2]) (by kernel_rfl) 4000 [] (o := .ret (.bool true) [E0bba3 k c hd sn (.nilFunc) cl bk af]) (by kernel_rfl) ?_
  exact ret_ok (post := [E0bba3 k c hd sn (.nilFunc) cl bk af]) [0] (by kernel_rfl) ⟨rfl, (by kernel_rfl)⟩


noncomputable def B53 : Code := (Tryz.f53.body).getD .skip

theorem tkBlock0 (c : Cfg) (k : Nat) (hd sn cl bk af : Int)  :
    Ctr Tryz.prog 53 #[vP k] [E0bba3 k c hd sn (.nilFunc) cl bk af] (Ret (vI bk) [E0bba3 k c hd sn (.nilFunc) cl bk af]) := by
  refine ctr_of (args := [vP k]) (fn := Tryz.f53) (body := B53) (nt := 14) Tryz.func53 (by kernel_rfl) (by kernel_rfl) ?_
  intro F
  refine go_exec (rs := [.tmp 2]) (by kernel_rfl) 4000 [.z [0, 0, 1] 4 [0, 5, 6]] (o := .stop [.o [0, 0, 1] 4, .c [1, 0, 1], .c [1, 1]] [(0, vP k), (5, .bool false), (6, vP k)] [E0bba3 k c hd sn (.nilFunc) cl bk af]) (by kernel_rfl) ?_
  refine ok_stop ?_
  refine go_call (some 7) [0] Tryz.call109 (tkDone0 c k hd sn cl bk af) (by kernel_rfl) ?_
  rintro v post ⟨rfl, rfl⟩
  refine go_exec (rs := [.tmp 2]) (by kernel_rfl) 4000 [.e 0] (o := .obl (k = k) (.ret (vI bk) [E0bba3 k c hd sn (.nilFunc) cl bk af])) (by kernel_rfl) ?_
  refine ok_obl rfl ?_
  exact ret_ok (post := [E0bba3 k c hd sn (.nilFunc) cl bk af]) [0] (by kernel_rfl) ⟨rfl, (by kernel_rfl)⟩


theorem tkrun_load (c : Cfg) (k ba : Nat) (hd sn cl bk af : Int) (A : Ar) (nx : Value) (hn : A.ws.length = A.n) (hs : 0 ≤ A.steps ∧ A.steps ≤ 1000000000) (hh : 0 ≤ hd ∧ hd < A.n) :
    Ctr Tryz.prog 150 #[vP k, vP ba] [E0bba3 k c hd sn nx cl bk af, E3504b ba A, E35fb1 A] (Ret (undef) [E0bba3 k c hd (A.ws.getD hd.toNat 0) nx cl bk af, E3504b ba (A.load hd), E35fb1 (A.load hd)]) := by
  refine ctr_of (args := [vP k, vP ba]) (fn := Tryz.f150) (body := B150) (nt := 13) Tryz.func150 (by kernel_rfl) (by kernel_rfl) ?_
  intro F
  refine go_exec (rs := []) (by kernel_rfl) 4000 [.e 0, .z [] 6 [4, 5, 9]] (o := .obl (k = k) (.stop [.o [] 6] [(4, vP k), (5, vP ba), (9, vI hd)] [E0bba3 k c hd sn nx cl bk af, E3504b ba A, E35fb1 A])) (by kernel_rfl) ?_
  refine ok_obl rfl ?_
  refine ok_stop ?_
  refine go_call (some 10) [1, 2] Tryz.call116 (arena_Load ba A hd (by first | assumption | omega | (simp only [InK] at *; omega)) (by first | assumption | omega | (simp only [InK] at *; omega)) (by first | assumption | omega | (simp only [InK] at *; omega))) (by kernel_rfl) ?_
  rintro v post ⟨rfl, rfl⟩
  refine go_exec (rs := []) (by kernel_rfl) 4000 [.e 0] (o := .obl (k = k) (.ret (undef) [E0bba3 k c hd (A.ws.getD hd.toNat 0) nx cl bk af, E3504b ba (A.load hd), E35fb1 (A.load hd)])) (by kernel_rfl) ?_
  refine ok_obl rfl ?_
  exact ret_ok (post := [E0bba3 k c hd (A.ws.getD hd.toNat 0) nx cl bk af, E3504b ba (A.load hd), E35fb1 (A.load hd)]) [0, 1, 2] (by kernel_rfl) ⟨rfl, (by kernel_rfl)⟩

noncomputable def B104 : Code := (Tryz.f104.body).getD .skip

theorem tkFirstY (c : Cfg) (k ba : Nat) (hd sn cl bk af : Int) (A : Ar) (nx : Value) (hn : A.ws.length = A.n) (hs : 0 ≤ A.steps ∧ A.steps ≤ 1000000000) (hh : 0 ≤ hd ∧ hd < A.n) (hc : c.Ok) (hR : U64 (A.ws.getD hd.toNat 0)) (hq : clsOf c (lo32 (A.ws.getD hd.toNat 0)) = cl) :
    Ctr Tryz.prog 104 #[vP k, vP ba] [E0bba3 k c hd sn nx cl bk af, E3504b ba A, E35fb1 A] (Ret (undef) [E0bba3 k c hd (A.ws.getD hd.toNat 0) (.func (.func 152) #[vP k] #[]) cl (lo32 (A.ws.getD hd.toNat 0)) af, E3504b ba (A.load hd), E35fb1 (A.load hd)]) := by
  refine ctr_of (args := [vP k, vP ba]) (fn := Tryz.f104) (body := B104) (nt := 46) Tryz.func104 (by kernel_rfl) (by kernel_rfl) ?_
  intro F
  refine go_exec (rs := []) (by kernel_rfl) 4000 [.z [0] 4 [0, 6, 7]] (o := .stop [.o [0] 4, .c [1]] [(0, vP k), (6, vP k), (7, vP ba)] [E0bba3 k c hd sn nx cl bk af, E3504b ba A, E35fb1 A]) (by kernel_rfl) ?_
  refine ok_stop ?_
  refine go_call (some 8) [0, 1, 2] Tryz.call150 (tkrun_load c k ba hd sn cl bk af A nx (by first | assumption | omega | (simp only [InK] at *; omega)) (by first | assumption | omega | (simp only [InK] at *; omega)) (by first | assumption | omega | (simp only [InK] at *; omega))) (by kernel_rfl) ?_
  rintro v post ⟨rfl, rfl⟩
  refine go_exec (rs := []) (by kernel_rfl) 4000 [.e 0, .z [0, 1] 6 [0, 9, 14]] (o := .obl (k = k) (.stop [.o [0, 1] 6, .c [1, 1]] [(0, vP k), (9, vP k), (14, vU (A.ws.getD hd.toNat 0))] [E0bba3 k c hd (A.ws.getD hd.toNat 0) nx cl bk af, E3504b ba (A.load hd), E35fb1 (A.load hd)])) (by kernel_rfl) ?_
  refine ok_obl rfl ?_
  refine ok_stop ?_
  refine go_call (some 15) [] Tryz.call151 (heads_Block (A.ws.getD hd.toNat 0) hR) (by kernel_rfl) ?_
  rintro v post ⟨rfl, rfl⟩
  refine go_exec (rs := []) (by kernel_rfl) 4000 [.e 0, .e 0, .z [0, 1, 1, 1] 0 [0]] (o := .obl (k = k) (.obl (k = k) (.stop [.c [0, 1, 1, 1], .c [1, 1, 1, 1]] [(0, vP k)] [E0bba3 k c hd (A.ws.getD hd.toNat 0) (.func (.func 152) #[vP k] #[]) cl (lo32 (A.ws.getD hd.toNat 0)) af, E3504b ba (A.load hd), E35fb1 (A.load hd)]))) (by kernel_rfl) ?_
  refine ok_obl rfl ?_
  refine ok_obl rfl ?_
  refine ok_stop ?_
  refine go_quiet (tm' := [(0, vP k), (38, .bool false)]) (ps := [k = k, k = k, k = k, ((clsOf c (lo32 (A.ws.getD hd.toNat 0))) != cl) = false]) (cs := [(78, #[cfgV c, vI (lo32 (A.ws.getD hd.toNat 0))], vI (clsOf c (lo32 (A.ws.getD hd.toNat 0))))]) [(0, .h .w), (1, .h .w), (2, .h .w), (3, .h .w), (4, .h (.e 0)), (5, .h .w), (6, .h .w), (7, .h .w), (8, .h (.e 0)), (9, .q (vI (clsOf c (lo32 (A.ws.getD hd.toNat 0))))), (10, .h .w), (11, .h .w), (12, .h .w), (13, .h (.e 0)), (14, .h (.t false))] [0, 38] (by kernel_rfl) (by kernel_rfl) ⟨rfl, rfl, rfl, (by rw [hq]; simp), trivial⟩ ⟨⟨Tryz.call78, quiet_of [] (plan_Class_all c (lo32 (A.ws.getD hd.toNat 0)) (by first | assumption | omega | (simp only [InK] at *; omega)) (by have := lo32_in (A.ws.getD hd.toNat 0); simp only [InK]; omega)) (by kernel_rfl) (by rintro v post ⟨rfl, rfl⟩; exact ⟨rfl, rfl⟩)⟩, trivial⟩ ?_
  refine go_exec (rs := []) (by kernel_rfl) 4000 [] (o := .ret (undef) [E0bba3 k c hd (A.ws.getD hd.toNat 0) (.func (.func 152) #[vP k] #[]) cl (lo32 (A.ws.getD hd.toNat 0)) af, E3504b ba (A.load hd), E35fb1 (A.load hd)]) (by kernel_rfl) ?_
  exact ret_ok (post := [E0bba3 k c hd (A.ws.getD hd.toNat 0) (.func (.func 152) #[vP k] #[]) cl (lo32 (A.ws.getD hd.toNat 0)) af, E3504b ba (A.load hd), E35fb1 (A.load hd)]) [0, 1, 2] (by kernel_rfl) ⟨rfl, (by kernel_rfl)⟩


theorem tkFirstN (c : Cfg) (k ba : Nat) (hd sn cl bk af : Int) (A : Ar) (nx : Value) (hn : A.ws.length = A.n) (hs : 0 ≤ A.steps ∧ A.steps ≤ 1000000000) (hh : 0 ≤ hd ∧ hd < A.n) (hc : c.Ok) (hR : U64 (A.ws.getD hd.toNat 0)) (hq : clsOf c (lo32 (A.ws.getD hd.toNat 0)) ≠ cl) :
    Ctr Tryz.prog 104 #[vP k, vP ba] [E0bba3 k c hd sn nx cl bk af, E3504b ba A, E35fb1 A] (Ret (undef) [E0bba3 k c hd (A.ws.getD hd.toNat 0) (.nilFunc) cl 0 af, E3504b ba (A.load hd), E35fb1 (A.load hd)]) := by
  refine ctr_of (args := [vP k, vP ba]) (fn := Tryz.f104) (body := B104) (nt := 46) Tryz.func104 (by kernel_rfl) (by kernel_rfl) ?_
  intro F
  refine go_exec (rs := []) (by kernel_rfl) 4000 [.z [0] 4 [0, 6, 7]] (o := .stop [.o [0] 4, .c [1]] [(0, vP k), (6, vP k), (7, vP ba)] [E0bba3 k c hd sn nx cl bk af, E3504b ba A, E35fb1 A]) (by kernel_rfl) ?_
  refine ok_stop ?_
  refine go_call (some 8) [0, 1, 2] Tryz.call150 (tkrun_load c k ba hd sn cl bk af A nx (by first | assumption | omega | (simp only [InK] at *; omega)) (by first | assumption | omega | (simp only [InK] at *; omega)) (by first | assumption | omega | (simp only [InK] at *; omega))) (by kernel_rfl) ?_
  rintro v post ⟨rfl, rfl⟩
  refine go_exec (rs := []) (by kernel_rfl) 4000 [.e 0, .z [0, 1] 6 [0, 9, 14]] (o := .obl (k = k) (.stop [.o [0, 1] 6, .c [1, 1]] [(0, vP k), (9, vP k), (14, vU (A.ws.getD hd.toNat 0))] [E0bba3 k c hd (A.ws.getD hd.toNat 0) nx cl bk af, E3504b ba (A.load hd), E35fb1 (A.load hd)])) (by kernel_rfl) ?_
  refine ok_obl rfl ?_
  refine ok_stop ?_
  refine go_call (some 15) [] Tryz.call151 (heads_Block (A.ws.getD hd.toNat 0) hR) (by kernel_rfl) ?_
  rintro v post ⟨rfl, rfl⟩
  refine go_exec (rs := []) (by kernel_rfl) 4000 [.e 0, .e 0, .z [0, 1, 1, 1] 0 [0]] (o := .obl (k = k) (.obl (k = k) (.stop [.c [0, 1, 1, 1], .c [1, 1, 1, 1]] [(0, vP k)] [E0bba3 k c hd (A.ws.getD hd.toNat 0) (.func (.func 152) #[vP k] #[]) cl (lo32 (A.ws.getD hd.toNat 0)) af, E3504b ba (A.load hd), E35fb1 (A.load hd)]))) (by kernel_rfl) ?_
  refine ok_obl rfl ?_
  refine ok_obl rfl ?_
  refine ok_stop ?_
  refine go_quiet (tm' := [(0, vP k), (38, .bool true)]) (ps := [k = k, k = k, k = k, ((clsOf c (lo32 (A.ws.getD hd.toNat 0))) != cl) = true]) (cs := [(78, #[cfgV c, vI (lo32 (A.ws.getD hd.toNat 0))], vI (clsOf c (lo32 (A.ws.getD hd.toNat 0))))]) [(0, .h .w), (1, .h .w), (2, .h .w), (3, .h .w), (4, .h (.e 0)), (5, .h .w), (6, .h .w), (7, .h .w), (8, .h (.e 0)), (9, .q (vI (clsOf c (lo32 (A.ws.getD hd.toNat 0))))), (10, .h .w), (11, .h .w), (12, .h .w), (13, .h (.e 0)), (14, .h (.t true))] [0, 38] (by kernel_rfl) (by kernel_rfl) ⟨rfl, rfl, rfl, bne_iff_ne.2 hq, trivial⟩ ⟨⟨Tryz.call78, quiet_of [] (plan_Class_all c (lo32 (A.ws.getD hd.toNat 0)) (by first | assumption | omega | (simp only [InK] at *; omega)) (by have := lo32_in (A.ws.getD hd.toNat 0); simp only [InK]; omega)) (by kernel_rfl) (by rintro v post ⟨rfl, rfl⟩; exact ⟨rfl, rfl⟩)⟩, trivial⟩ ?_
  refine go_exec (rs := []) (by kernel_rfl) 4000 [.e 0, .e 0] (o := .obl (k = k) (.obl (k = k) (.ret (undef) [E0bba3 k c hd (A.ws.getD hd.toNat 0) (.nilFunc) cl 0 af, E3504b ba (A.load hd), E35fb1 (A.load hd)]))) (by kernel_rfl) ?_
  refine ok_obl rfl ?_
  refine ok_obl rfl ?_
  exact ret_ok (post := [E0bba3 k c hd (A.ws.getD hd.toNat 0) (.nilFunc) cl 0 af, E3504b ba (A.load hd), E35fb1 (A.load hd)]) [0, 1, 2] (by kernel_rfl) ⟨rfl, (by kernel_rfl)⟩

noncomputable def B152 : Code := (Tryz.f152.body).getD .skip

theorem tkSecond (c : Cfg) (k ba : Nat) (hd sn cl bk af : Int) (A : Ar) (nx : Value) (hn : A.ws.length = A.n) (hs : 0 ≤ A.steps ∧ A.steps ≤ 1000000000) (hc : c.Ok) (hk : 0 ≤ bk ∧ bk ≤ 4294967295) (hb : 0 ≤ blockAt c bk ∧ blockAt c bk < A.n) (hR : U64 (A.ws.getD (blockAt c bk).toNat 0)) :
    Ctr Tryz.prog 152 #[vP k, vP ba] [E0bba3 k c hd sn nx cl bk af, E3504b ba A, E35fb1 A] (Ret (undef) [E0bba3 k c hd sn (.func (.func 178) #[vP k] #[]) cl bk (lo32 (A.ws.getD (blockAt c bk).toNat 0)), E3504b ba (A.load (blockAt c bk)), E35fb1 (A.load (blockAt c bk))]) := by
  refine ctr_of (args := [vP k, vP ba]) (fn := Tryz.f152) (body := B152) (nt := 26) Tryz.func152 (by kernel_rfl) (by kernel_rfl) ?_
  intro F
  refine go_exec (rs := []) (by kernel_rfl) 4000 [.z [0] 0 [0, 1]] (o := .stop [.c [0], .c [1]] [(0, vP k), (1, vP ba)] [E0bba3 k c hd sn nx cl bk af, E3504b ba A, E35fb1 A]) (by kernel_rfl) ?_
  refine ok_stop ?_
  refine go_lz (by kernel_rfl) (by kernel_rfl) ?_
  refine lz_node (l' := (mk 17 [0, 1, 2, 3, 4, 5, 6, 7, 8, 9, 10, 11])) (V' := [0, 1, 2, 3, 4, 5, 6, 7, 8, 9, 10, 11]) (T1 := [(0, vP k), (1, vP ba), (4, vP k), (5, vP ba), (6, vP k), (7, vP k), (8, vP k), (9, vP k), (10, cfgV c), (11, vP k), (12, vP k), (13, .pointer (some ⟨k, 13, none⟩)), (14, vI bk), (15, vI (blockAt c bk))]) (ps := [k = k, k = k, LawQ Tryz.prog F [E0bba3 k c hd sn nx cl bk af, E3504b ba A, E35fb1 A] (vI (blockAt c bk)) callO (105, #[cfgV c, vI bk])]) [0, 1, 2, 3, 4, 5, 6, 7, 8, 9, 10, 11] [(0, .h .w), (1, .h .w), (2, .h .w), (3, .h .w), (4, .h .w), (5, .h .w), (6, .h (.e 0)), (7, .h .w), (8, .h .w), (9, .h .w), (10, .h (.e 0)), (11, .q (vI (blockAt c bk)))] [0, 1, 4, 5, 6, 7, 8, 9, 10, 11, 12, 13, 14, 15] [12] (by kernel_rfl) ⟨rfl, rfl, (law_call Tryz.call105 (quiet_of [] (plan_Block c bk (by first | assumption | omega | (simp only [InK] at *; omega)) (by simp only [InK]; omega)) (by kernel_rfl) (by rintro v post ⟨rfl, rfl⟩; exact ⟨rfl, rfl⟩))), trivial⟩ ⟨?_, trivial⟩
  refine lz_call (l' := (mk 17 [0, 1, 2, 3, 4, 5, 6, 7, 8, 9, 10, 11, 12])) (V' := [0]) (some 16) [1, 2] Tryz.call116 (arena_Load ba A (blockAt c bk) (by first | assumption | omega | (simp only [InK] at *; omega)) hb (by first | assumption | omega | (simp only [InK] at *; omega))) (by kernel_rfl) ?_
  rintro v post ⟨rfl, rfl⟩
  refine lz_node (l' := (mk 17 [0, 1, 2, 3, 4, 5, 6, 7, 8, 9, 10, 11, 12, 13, 14, 15])) (V' := [0, 13, 14, 15]) (T1 := [(16, vU (A.ws.getD (blockAt c bk).toNat 0)), (0, vP k), (4, vP k), (17, vI (lo32 (A.ws.getD (blockAt c bk).toNat 0))), (18, vP k), (19, .pointer (some ⟨k, 14, none⟩))]) (ps := [LawQ Tryz.prog F [E0bba3 k c hd sn nx cl bk af, E3504b ba (A.load (blockAt c bk)), E35fb1 (A.load (blockAt c bk))] (vI (lo32 (A.ws.getD (blockAt c bk).toNat 0))) callO (151, #[vU (A.ws.getD (blockAt c bk).toNat 0)])]) [13, 14, 15] [(0, .h .w), (13, .q (vI (lo32 (A.ws.getD (blockAt c bk).toNat 0)))), (14, .h .w), (15, .h .w)] [16, 0, 4, 17, 18, 19] [16] (by kernel_rfl) ⟨(law_call Tryz.call151 (quiet_of [] (heads_Block (A.ws.getD (blockAt c bk).toNat 0) hR) (by kernel_rfl) (by rintro v post ⟨rfl, rfl⟩; exact ⟨rfl, rfl⟩))), trivial⟩ ⟨?_, trivial⟩
  refine lz_op (l' := (mk 17 [0, 1, 2, 3, 4, 5, 6, 7, 8, 9, 10, 11, 12, 13, 14, 15, 16])) (V' := []) (so := .obl (k = k) (.ok .skip [E0bba3 k c hd sn nx cl bk (lo32 (A.ws.getD (blockAt c bk).toNat 0)), E3504b ba (A.load (blockAt c bk)), E35fb1 (A.load (blockAt c bk))])) (dst := none) (.e 0) (by kernel_rfl) ?_
  refine sat_obl rfl ?_
  refine sat_skip ?_
  refine lz_end (T1 := [(0, vP k)]) (ps := []) [] [] [0] (by kernel_rfl) trivial ?_
  refine go_exec (rs := []) (by kernel_rfl) 4000 [.e 0] (o := .obl (k = k) (.ret (undef) [E0bba3 k c hd sn (.func (.func 178) #[vP k] #[]) cl bk (lo32 (A.ws.getD (blockAt c bk).toNat 0)), E3504b ba (A.load (blockAt c bk)), E35fb1 (A.load (blockAt c bk))])) (by kernel_rfl) ?_
  refine ok_obl rfl ?_
  exact ret_ok (post := [E0bba3 k c hd sn (.func (.func 178) #[vP k] #[]) cl bk (lo32 (A.ws.getD (blockAt c bk).toNat 0)), E3504b ba (A.load (blockAt c bk)), E35fb1 (A.load (blockAt c bk))]) [0, 1, 2] (by kernel_rfl) ⟨rfl, (by kernel_rfl)⟩


theorem tkrun_turnT (c : Cfg) (k ba : Nat) (hd sn cl bk af : Int) (A : Ar) (nx : Value) (hn : A.ws.length = A.n) (hs : 0 ≤ A.steps ∧ A.steps ≤ 1000000000) (hh : 0 ≤ hd ∧ hd < A.n) (ha : 0 ≤ af ∧ af ≤ 4294967295) (hw : 0 ≤ sn ∧ sn ≤ 18446744073709551615) (hq : (A.ws.getD hd.toNat 0) = sn) :
    Ctr Tryz.prog 193 #[vP k, vP ba, vI af] [E0bba3 k c hd sn nx cl bk af, E3504b ba A, E35fb1 A] (Ret (.bool true) [E0bba3 k c hd sn nx cl bk af, E3504b ba (A.swapT hd (turnW sn af)), E35fb1 (A.swapT hd (turnW sn af))]) := by
  refine ctr_of (args := [vP k, vP ba, vI af]) (fn := Tryz.f193) (body := B193) (nt := 23) Tryz.func193 (by kernel_rfl) (by kernel_rfl) ?_
  intro F
  refine go_exec (rs := [.tmp 6]) (by kernel_rfl) 4000 [.z [0, 1] 0 [0, 1, 2]] (o := .stop [.c [0, 1], .c [1, 1]] [(0, vP k), (1, vP ba), (2, vI af)] [E0bba3 k c hd sn nx cl bk af, E3504b ba A, E35fb1 A]) (by kernel_rfl) ?_
  refine ok_stop ?_
  refine go_tail_call (dst := (some 22)) (ps := [k = k, k = k, k = k]) (cs := [(202, #[vU sn, vI af], vU (turnW sn af))]) [(0, .h .w), (1, .h .w), (2, .h .w), (3, .h .w), (4, .h (.e 0)), (5, .h .w), (6, .h .w), (7, .h .w), (8, .h (.e 0)), (9, .h .w), (10, .h .w), (11, .h .w), (12, .h (.e 0)), (13, .h .w), (14, .q (vU (turnW sn af)))] 15 [(16, .h .w)] [1, 2] [6] (by kernel_rfl) Tryz.call185 (arena_SwapT ba A hd sn (turnW sn af) (by first | assumption | omega | (simp only [InK] at *; omega)) hh (by first | assumption | omega | (simp only [InK] at *; omega)) (by first | assumption | omega | (simp only [InK] at *; omega))) (by kernel_rfl) ⟨rfl, rfl, rfl, trivial⟩ ⟨⟨Tryz.call202, quiet_of [] (heads_Turn sn af (by first | assumption | omega | (simp only [InK] at *; omega)) ha) (by kernel_rfl) (by rintro v post ⟨rfl, rfl⟩; exact ⟨rfl, rfl⟩)⟩, trivial⟩ ?_
  rintro v post ⟨rfl, rfl⟩
  refine tail_next (tm' := [(6, .bool true)]) (ps2 := []) (by kernel_rfl) trivial ?_
  refine go_exec (rs := [.tmp 6]) (by kernel_rfl) 4000 [] (o := .ret (.bool true) [E0bba3 k c hd sn nx cl bk af, E3504b ba (A.swapT hd (turnW sn af)), E35fb1 (A.swapT hd (turnW sn af))]) (by kernel_rfl) ?_
  exact ret_ok (post := [E0bba3 k c hd sn nx cl bk af, E3504b ba (A.swapT hd (turnW sn af)), E35fb1 (A.swapT hd (turnW sn af))]) [0, 1, 2] (by kernel_rfl) ⟨rfl, (by kernel_rfl)⟩

noncomputable def B178 : Code := (Tryz.f178.body).getD .skip

theorem tkThirdT (c : Cfg) (k ba : Nat) (hd sn cl bk af : Int) (A : Ar) (nx : Value) (hn : A.ws.length = A.n) (hs : 0 ≤ A.steps ∧ A.steps ≤ 1000000000) (hh : 0 ≤ hd ∧ hd < A.n) (ha : 0 ≤ af ∧ af ≤ 4294967295) (hw : 0 ≤ sn ∧ sn ≤ 18446744073709551615) (hq : (A.ws.getD hd.toNat 0) = sn) :
    Ctr Tryz.prog 178 #[vP k, vP ba] [E0bba3 k c hd sn nx cl bk af, E3504b ba A, E35fb1 A] (Ret (undef) [E0bba3 k c hd sn (.nilFunc) cl bk af, E3504b ba (A.swapT hd (turnW sn af)), E35fb1 (A.swapT hd (turnW sn af))]) := by
  refine ctr_of (args := [vP k, vP ba]) (fn := Tryz.f178) (body := B178) (nt := 23) Tryz.func178 (by kernel_rfl) (by kernel_rfl) ?_
  intro F
  refine go_exec (rs := []) (by kernel_rfl) 4000 [.e 0, .z [0, 1] 0 [0, 1]] (o := .obl (k = k) (.stop [.c [0, 1], .c [1, 1]] [(0, vP k), (1, vP ba)] [E0bba3 k c hd sn (.func (.func 104) #[vP k] #[]) cl bk af, E3504b ba A, E35fb1 A])) (by kernel_rfl) ?_
  refine ok_obl rfl ?_
  refine ok_stop ?_
  refine go_tail_call (dst := (some 18)) (ps := [k = k]) (cs := []) [(0, .h .w), (1, .h .w), (2, .h .w), (3, .h .w), (4, .h .w), (5, .h .w), (6, .h .w), (7, .h (.e 0))] 8 [] [0, 1, 2] [0, 18] (by kernel_rfl) Tryz.call193 (tkrun_turnT c k ba hd sn cl bk af A (.func (.func 104) #[vP k] #[]) (by first | assumption | omega | (simp only [InK] at *; omega)) (by first | assumption | omega | (simp only [InK] at *; omega)) (by first | assumption | omega | (simp only [InK] at *; omega)) (by first | assumption | omega | (simp only [InK] at *; omega)) (by first | assumption | omega | (simp only [InK] at *; omega)) (by first | assumption | omega | (simp only [InK] at *; omega))) (by kernel_rfl) ⟨rfl, trivial⟩ trivial ?_
  rintro v post ⟨rfl, rfl⟩
  refine tail_next (tm' := [(0, vP k), (18, .bool true)]) (ps2 := []) (by kernel_rfl) trivial ?_
  refine go_exec (rs := []) (by kernel_rfl) 4000 [.e 0] (o := .obl (k = k) (.ret (undef) [E0bba3 k c hd sn (.nilFunc) cl bk af, E3504b ba (A.swapT hd (turnW sn af)), E35fb1 (A.swapT hd (turnW sn af))])) (by kernel_rfl) ?_
  refine ok_obl rfl ?_
  exact ret_ok (post := [E0bba3 k c hd sn (.nilFunc) cl bk af, E3504b ba (A.swapT hd (turnW sn af)), E35fb1 (A.swapT hd (turnW sn af))]) [0, 1, 2] (by kernel_rfl) ⟨rfl, (by kernel_rfl)⟩


theorem tkrun_turnF (c : Cfg) (k ba : Nat) (hd sn cl bk af : Int) (A : Ar) (nx : Value) (hn : A.ws.length = A.n) (hs : 0 ≤ A.steps ∧ A.steps ≤ 1000000000) (hh : 0 ≤ hd ∧ hd < A.n) (ha : 0 ≤ af ∧ af ≤ 4294967295) (hw : 0 ≤ sn ∧ sn ≤ 18446744073709551615) (hq : (A.ws.getD hd.toNat 0) ≠ sn) :
    Ctr Tryz.prog 193 #[vP k, vP ba, vI af] [E0bba3 k c hd sn nx cl bk af, E3504b ba A, E35fb1 A] (Ret (.bool false) [E0bba3 k c hd sn nx cl bk af, E3504b ba (A.swapF hd), E35fb1 (A.swapF hd)]) := by
  refine ctr_of (args := [vP k, vP ba, vI af]) (fn := Tryz.f193) (body := B193) (nt := 23) Tryz.func193 (by kernel_rfl) (by kernel_rfl) ?_
  intro F
  refine go_exec (rs := [.tmp 6]) (by kernel_rfl) 4000 [.z [0, 1] 0 [0, 1, 2]] (o := .stop [.c [0, 1], .c [1, 1]] [(0, vP k), (1, vP ba), (2, vI af)] [E0bba3 k c hd sn nx cl bk af, E3504b ba A, E35fb1 A]) (by kernel_rfl) ?_
  refine ok_stop ?_
  refine go_tail_call (dst := (some 22)) (ps := [k = k, k = k, k = k]) (cs := [(202, #[vU sn, vI af], vU (turnW sn af))]) [(0, .h .w), (1, .h .w), (2, .h .w), (3, .h .w), (4, .h (.e 0)), (5, .h .w), (6, .h .w), (7, .h .w), (8, .h (.e 0)), (9, .h .w), (10, .h .w), (11, .h .w), (12, .h (.e 0)), (13, .h .w), (14, .q (vU (turnW sn af)))] 15 [(16, .h .w)] [1, 2] [6] (by kernel_rfl) Tryz.call185 (arena_SwapF ba A hd sn (turnW sn af) (by first | assumption | omega | (simp only [InK] at *; omega)) hh (by first | assumption | omega | (simp only [InK] at *; omega)) (by first | assumption | omega | (simp only [InK] at *; omega))) (by kernel_rfl) ⟨rfl, rfl, rfl, trivial⟩ ⟨⟨Tryz.call202, quiet_of [] (heads_Turn sn af (by first | assumption | omega | (simp only [InK] at *; omega)) ha) (by kernel_rfl) (by rintro v post ⟨rfl, rfl⟩; exact ⟨rfl, rfl⟩)⟩, trivial⟩ ?_
  rintro v post ⟨rfl, rfl⟩
  refine tail_next (tm' := [(6, .bool false)]) (ps2 := []) (by kernel_rfl) trivial ?_
  refine go_exec (rs := [.tmp 6]) (by kernel_rfl) 4000 [] (o := .ret (.bool false) [E0bba3 k c hd sn nx cl bk af, E3504b ba (A.swapF hd), E35fb1 (A.swapF hd)]) (by kernel_rfl) ?_
  exact ret_ok (post := [E0bba3 k c hd sn nx cl bk af, E3504b ba (A.swapF hd), E35fb1 (A.swapF hd)]) [0, 1, 2] (by kernel_rfl) ⟨rfl, (by kernel_rfl)⟩


theorem tkThirdF (c : Cfg) (k ba : Nat) (hd sn cl bk af : Int) (A : Ar) (nx : Value) (hn : A.ws.length = A.n) (hs : 0 ≤ A.steps ∧ A.steps ≤ 1000000000) (hh : 0 ≤ hd ∧ hd < A.n) (ha : 0 ≤ af ∧ af ≤ 4294967295) (hw : 0 ≤ sn ∧ sn ≤ 18446744073709551615) (hq : (A.ws.getD hd.toNat 0) ≠ sn) :
    Ctr Tryz.prog 178 #[vP k, vP ba] [E0bba3 k c hd sn nx cl bk af, E3504b ba A, E35fb1 A] (Ret (undef) [E0bba3 k c hd sn (.func (.func 104) #[vP k] #[]) cl bk af, E3504b ba (A.swapF hd), E35fb1 (A.swapF hd)]) := by
  refine ctr_of (args := [vP k, vP ba]) (fn := Tryz.f178) (body := B178) (nt := 23) Tryz.func178 (by kernel_rfl) (by kernel_rfl) ?_
  intro F
  refine go_exec (rs := []) (by kernel_rfl) 4000 [.e 0, .z [0, 1] 0 [0, 1]] (o := .obl (k = k) (.stop [.c [0, 1], .c [1, 1]] [(0, vP k), (1, vP ba)] [E0bba3 k c hd sn (.func (.func 104) #[vP k] #[]) cl bk af, E3504b ba A, E35fb1 A])) (by kernel_rfl) ?_
  refine ok_obl rfl ?_
  refine ok_stop ?_
  refine go_tail_call (dst := (some 18)) (ps := [k = k]) (cs := []) [(0, .h .w), (1, .h .w), (2, .h .w), (3, .h .w), (4, .h .w), (5, .h .w), (6, .h .w), (7, .h (.e 0))] 8 [] [0, 1, 2] [0, 18] (by kernel_rfl) Tryz.call193 (tkrun_turnF c k ba hd sn cl bk af A (.func (.func 104) #[vP k] #[]) (by first | assumption | omega | (simp only [InK] at *; omega)) (by first | assumption | omega | (simp only [InK] at *; omega)) (by first | assumption | omega | (simp only [InK] at *; omega)) (by first | assumption | omega | (simp only [InK] at *; omega)) (by first | assumption | omega | (simp only [InK] at *; omega)) (by first | assumption | omega | (simp only [InK] at *; omega))) (by kernel_rfl) ⟨rfl, trivial⟩ trivial ?_
  rintro v post ⟨rfl, rfl⟩
  refine tail_next (tm' := [(0, vP k), (18, .bool false)]) (ps2 := []) (by kernel_rfl) trivial ?_
  refine go_exec (rs := []) (by kernel_rfl) 4000 [] (o := .ret (undef) [E0bba3 k c hd sn (.func (.func 104) #[vP k] #[]) cl bk af, E3504b ba (A.swapF hd), E35fb1 (A.swapF hd)]) (by kernel_rfl) ?_
  exact ret_ok (post := [E0bba3 k c hd sn (.func (.func 104) #[vP k] #[]) cl bk af, E3504b ba (A.swapF hd), E35fb1 (A.swapF hd)]) [0, 1, 2] (by kernel_rfl) ⟨rfl, (by kernel_rfl)⟩


theorem tkrun_Step0 (c : Cfg) (k ba : Nat) (hd sn cl bk af : Int) (A : Ar) (hn : A.ws.length = A.n) (hs : 0 ≤ A.steps ∧ A.steps ≤ 1000000000) (hh : 0 ≤ hd ∧ hd < A.n) (hc : c.Ok) (hk : 0 ≤ bk ∧ bk ≤ 4294967295) (hw : 0 ≤ sn ∧ sn ≤ 18446744073709551615) (ha : 0 ≤ af ∧ af ≤ 4294967295) :
    Ctr Tryz.prog 174 #[vP k, vP ba] [E0bba3 k c hd sn (.nilFunc) cl bk af, E3504b ba A, E35fb1 A] (Ret (.bool true) [E0bba3 k c hd sn (.nilFunc) cl bk af, E3504b ba A, E35fb1 A]) := by
  refine ctr_of (args := [vP k, vP ba]) (fn := Tryz.f174) (body := B174) (nt := 16) Tryz.func174 (by kernel_rfl) (by kernel_rfl) ?_
  intro F
  refine go_exec (rs := [.tmp 4]) (by kernel_rfl) 4000 [.z [0, 0, 1] 1 [0, 1, 5]] (o := .stop [.o [0, 0, 1] 1, .c [1, 0, 1], .c [1, 1]] [(0, vP k), (1, vP ba), (5, vP k)] [E0bba3 k c hd sn (.nilFunc) cl bk af, E3504b ba A, E35fb1 A]) (by kernel_rfl) ?_
  refine ok_stop ?_
  refine go_call (some 6) [0] Tryz.call158 (tkrun_Done0 c k hd sn cl bk af) (by kernel_rfl) ?_
  rintro v post ⟨rfl, rfl⟩
  refine go_exec (rs := [.tmp 4]) (by kernel_rfl) 4000 [.z [0, 1, 1] 1 [14]] (o := .stop [.o [0, 1, 1] 1, .c [1, 1, 1]] [(14, vP k)] [E3504b ba A, E35fb1 A, E0bba3 k c hd sn (.nilFunc) cl bk af]) (by kernel_rfl) ?_
  refine ok_stop ?_
  refine go_call (some 15) [2] Tryz.call158 (tkrun_Done0 c k hd sn cl bk af) (by kernel_rfl) ?_
  rintro v post ⟨rfl, rfl⟩
  refine go_exec (rs := [.tmp 4]) (by kernel_rfl) 4000 [] (o := .ret (.bool true) [E3504b ba A, E35fb1 A, E0bba3 k c hd sn (.nilFunc) cl bk af]) (by kernel_rfl) ?_
  exact ret_ok (post := [E0bba3 k c hd sn (.nilFunc) cl bk af, E3504b ba A, E35fb1 A]) [2, 0, 1] (by kernel_rfl) ⟨rfl, (by kernel_rfl)⟩


theorem tkrun_Step1Y (c : Cfg) (k ba : Nat) (hd sn cl bk af : Int) (A : Ar) (hn : A.ws.length = A.n) (hs : 0 ≤ A.steps ∧ A.steps ≤ 1000000000) (hh : 0 ≤ hd ∧ hd < A.n) (hc : c.Ok) (hk : 0 ≤ bk ∧ bk ≤ 4294967295) (hw : 0 ≤ sn ∧ sn ≤ 18446744073709551615) (ha : 0 ≤ af ∧ af ≤ 4294967295) (hR : U64 (A.ws.getD hd.toNat 0)) (hq : clsOf c (lo32 (A.ws.getD hd.toNat 0)) = cl) :
    Ctr Tryz.prog 174 #[vP k, vP ba] [E0bba3 k c hd sn (.func (.func 104) #[vP k] #[]) cl bk af, E3504b ba A, E35fb1 A] (Ret (.bool false) [E0bba3 k c hd (A.ws.getD hd.toNat 0) (.func (.func 152) #[vP k] #[]) cl (lo32 (A.ws.getD hd.toNat 0)) af, E3504b ba (A.load hd), E35fb1 (A.load hd)]) := by
  refine ctr_of (args := [vP k, vP ba]) (fn := Tryz.f174) (body := B174) (nt := 16) Tryz.func174 (by kernel_rfl) (by kernel_rfl) ?_
  intro F
  refine go_exec (rs := [.tmp 4]) (by kernel_rfl) 4000 [.z [0, 0, 1] 1 [0, 1, 5]] (o := .stop [.o [0, 0, 1] 1, .c [1, 0, 1], .c [1, 1]] [(0, vP k), (1, vP ba), (5, vP k)] [E0bba3 k c hd sn (.func (.func 104) #[vP k] #[]) cl bk af, E3504b ba A, E35fb1 A]) (by kernel_rfl) ?_
  refine ok_stop ?_
  refine go_call (some 6) [0] Tryz.call158 (tkrun_Done1 c k hd sn cl bk af) (by kernel_rfl) ?_
  rintro v post ⟨rfl, rfl⟩
  refine go_exec (rs := [.tmp 4]) (by kernel_rfl) 4000 [.e 2, .z [0, 1, 0, 1] 5 [0, 11, 12]] (o := .obl (k = k) (.stop [.o [0, 1, 0, 1] 5, .c [1, 1]] [(0, vP k), (11, .func (.func 104) #[vP k] #[]), (12, vP ba)] [E3504b ba A, E35fb1 A, E0bba3 k c hd sn (.func (.func 104) #[vP k] #[]) cl bk af])) (by kernel_rfl) ?_
  refine ok_obl rfl ?_
  refine ok_stop ?_
  refine go_call (some 13) [2, 0, 1] Tryz.call104 (tkFirstY c k ba hd sn cl bk af A (.func (.func 104) #[vP k] #[]) (by first | assumption | omega | (simp only [InK] at *; omega)) (by first | assumption | omega | (simp only [InK] at *; omega)) (by first | assumption | omega | (simp only [InK] at *; omega)) (by first | assumption | omega | (simp only [InK] at *; omega)) (by first | assumption | omega | (simp only [InK] at *; omega)) (by first | assumption | omega | (simp only [InK] at *; omega))) (by kernel_rfl) ?_
  rintro v post ⟨rfl, rfl⟩
  refine go_exec (rs := [.tmp 4]) (by kernel_rfl) 4000 [.z [0, 1, 1] 1 [14]] (o := .stop [.o [0, 1, 1] 1, .c [1, 1, 1]] [(14, vP k)] [E0bba3 k c hd (A.ws.getD hd.toNat 0) (.func (.func 152) #[vP k] #[]) cl (lo32 (A.ws.getD hd.toNat 0)) af, E3504b ba (A.load hd), E35fb1 (A.load hd)]) (by kernel_rfl) ?_
  refine ok_stop ?_
  refine go_call (some 15) [0] Tryz.call158 (tkrun_Done2 c k hd (A.ws.getD hd.toNat 0) cl (lo32 (A.ws.getD hd.toNat 0)) af) (by kernel_rfl) ?_
  rintro v post ⟨rfl, rfl⟩
  refine go_exec (rs := [.tmp 4]) (by kernel_rfl) 4000 [] (o := .ret (.bool false) [E3504b ba (A.load hd), E35fb1 (A.load hd), E0bba3 k c hd (A.ws.getD hd.toNat 0) (.func (.func 152) #[vP k] #[]) cl (lo32 (A.ws.getD hd.toNat 0)) af]) (by kernel_rfl) ?_
  exact ret_ok (post := [E0bba3 k c hd (A.ws.getD hd.toNat 0) (.func (.func 152) #[vP k] #[]) cl (lo32 (A.ws.getD hd.toNat 0)) af, E3504b ba (A.load hd), E35fb1 (A.load hd)]) [2, 0, 1] (by kernel_rfl) ⟨rfl, (by kernel_rfl)⟩


theorem tkrun_Step1N (c : Cfg) (k ba : Nat) (hd sn cl bk af : Int) (A : Ar) (hn : A.ws.length = A.n) (hs : 0 ≤ A.steps ∧ A.steps ≤ 1000000000) (hh : 0 ≤ hd ∧ hd < A.n) (hc : c.Ok) (hk : 0 ≤ bk ∧ bk ≤ 4294967295) (hw : 0 ≤ sn ∧ sn ≤ 18446744073709551615) (ha : 0 ≤ af ∧ af ≤ 4294967295) (hR : U64 (A.ws.getD hd.toNat 0)) (hq : clsOf c (lo32 (A.ws.getD hd.toNat 0)) ≠ cl) :
    Ctr Tryz.prog 174 #[vP k, vP ba] [E0bba3 k c hd sn (.func (.func 104) #[vP k] #[]) cl bk af, E3504b ba A, E35fb1 A] (Ret (.bool true) [E0bba3 k c hd (A.ws.getD hd.toNat 0) (.nilFunc) cl 0 af, E3504b ba (A.load hd), E35fb1 (A.load hd)]) := by
  refine ctr_of (args := [vP k, vP ba]) (fn := Tryz.f174) (body := B174) (nt := 16) Tryz.func174 (by kernel_rfl) (by kernel_rfl) ?_
  intro F
  refine go_exec (rs := [.tmp 4]) (by kernel_rfl) 4000 [.z [0, 0, 1] 1 [0, 1, 5]] (o := .stop [.o [0, 0, 1] 1, .c [1, 0, 1], .c [1, 1]] [(0, vP k), (1, vP ba), (5, vP k)] [E0bba3 k c hd sn (.func (.func 104) #[vP k] #[]) cl bk af, E3504b ba A, E35fb1 A]) (by kernel_rfl) ?_
  refine ok_stop ?_
  refine go_call (some 6) [0] Tryz.call158 (tkrun_Done1 c k hd sn cl bk af) (by kernel_rfl) ?_
  rintro v post ⟨rfl, rfl⟩
  refine go_exec (rs := [.tmp 4]) (by kernel_rfl) 4000 [.e 2, .z [0, 1, 0, 1] 5 [0, 11, 12]] (o := .obl (k = k) (.stop [.o [0, 1, 0, 1] 5, .c [1, 1]] [(0, vP k), (11, .func (.func 104) #[vP k] #[]), (12, vP ba)] [E3504b ba A, E35fb1 A, E0bba3 k c hd sn (.func (.func 104) #[vP k] #[]) cl bk af])) (by kernel_rfl) ?_
  refine ok_obl rfl ?_
  refine ok_stop ?_
  refine go_call (some 13) [2, 0, 1] Tryz.call104 (tkFirstN c k ba hd sn cl bk af A (.func (.func 104) #[vP k] #[]) (by first | assumption | omega | (simp only [InK] at *; omega)) (by first | assumption | omega | (simp only [InK] at *; omega)) (by first | assumption | omega | (simp only [InK] at *; omega)) (by first | assumption | omega | (simp only [InK] at *; omega)) (by first | assumption | omega | (simp only [InK] at *; omega)) (by first | assumption | omega | (simp only [InK] at *; omega))) (by kernel_rfl) ?_
  rintro v post ⟨rfl, rfl⟩
  refine go_exec (rs := [.tmp 4]) (by kernel_rfl) 4000 [.z [0, 1, 1] 1 [14]] (o := .stop [.o [0, 1, 1] 1, .c [1, 1, 1]] [(14, vP k)] [E0bba3 k c hd (A.ws.getD hd.toNat 0) (.nilFunc) cl 0 af, E3504b ba (A.load hd), E35fb1 (A.load hd)]) (by kernel_rfl) ?_
  refine ok_stop ?_
  refine go_call (some 15) [0] Tryz.call158 (tkrun_Done0 c k hd (A.ws.getD hd.toNat 0) cl 0 af) (by kernel_rfl) ?_
  rintro v post ⟨rfl, rfl⟩
  refine go_exec (rs := [.tmp 4]) (by kernel_rfl) 4000 [] (o := .ret (.bool true) [E3504b ba (A.load hd), E35fb1 (A.load hd), E0bba3 k c hd (A.ws.getD hd.toNat 0) (.nilFunc) cl 0 af]) (by kernel_rfl) ?_
  exact ret_ok (post := [E0bba3 k c hd (A.ws.getD hd.toNat 0) (.nilFunc) cl 0 af, E3504b ba (A.load hd), E35fb1 (A.load hd)]) [2, 0, 1] (by kernel_rfl) ⟨rfl, (by kernel_rfl)⟩


theorem tkrun_Step2 (c : Cfg) (k ba : Nat) (hd sn cl bk af : Int) (A : Ar) (hn : A.ws.length = A.n) (hs : 0 ≤ A.steps ∧ A.steps ≤ 1000000000) (hh : 0 ≤ hd ∧ hd < A.n) (hc : c.Ok) (hk : 0 ≤ bk ∧ bk ≤ 4294967295) (hw : 0 ≤ sn ∧ sn ≤ 18446744073709551615) (ha : 0 ≤ af ∧ af ≤ 4294967295) (hb : 0 ≤ blockAt c bk ∧ blockAt c bk < A.n) (hR : U64 (A.ws.getD (blockAt c bk).toNat 0)) :
    Ctr Tryz.prog 174 #[vP k, vP ba] [E0bba3 k c hd sn (.func (.func 152) #[vP k] #[]) cl bk af, E3504b ba A, E35fb1 A] (Ret (.bool false) [E0bba3 k c hd sn (.func (.func 178) #[vP k] #[]) cl bk (lo32 (A.ws.getD (blockAt c bk).toNat 0)), E3504b ba (A.load (blockAt c bk)), E35fb1 (A.load (blockAt c bk))]) := by
  refine ctr_of (args := [vP k, vP ba]) (fn := Tryz.f174) (body := B174) (nt := 16) Tryz.func174 (by kernel_rfl) (by kernel_rfl) ?_
  intro F
  refine go_exec (rs := [.tmp 4]) (by kernel_rfl) 4000 [.z [0, 0, 1] 1 [0, 1, 5]] (o := .stop [.o [0, 0, 1] 1, .c [1, 0, 1], .c [1, 1]] [(0, vP k), (1, vP ba), (5, vP k)] [E0bba3 k c hd sn (.func (.func 152) #[vP k] #[]) cl bk af, E3504b ba A, E35fb1 A]) (by kernel_rfl) ?_
  refine ok_stop ?_
  refine go_call (some 6) [0] Tryz.call158 (tkrun_Done2 c k hd sn cl bk af) (by kernel_rfl) ?_
  rintro v post ⟨rfl, rfl⟩
  refine go_exec (rs := [.tmp 4]) (by kernel_rfl) 4000 [.e 2, .z [0, 1, 0, 1] 5 [0, 11, 12]] (o := .obl (k = k) (.stop [.o [0, 1, 0, 1] 5, .c [1, 1]] [(0, vP k), (11, .func (.func 152) #[vP k] #[]), (12, vP ba)] [E3504b ba A, E35fb1 A, E0bba3 k c hd sn (.func (.func 152) #[vP k] #[]) cl bk af])) (by kernel_rfl) ?_
  refine ok_obl rfl ?_
  refine ok_stop ?_
  refine go_call (some 13) [2, 0, 1] Tryz.call152 (tkSecond c k ba hd sn cl bk af A (.func (.func 152) #[vP k] #[]) (by first | assumption | omega | (simp only [InK] at *; omega)) (by first | assumption | omega | (simp only [InK] at *; omega)) (by first | assumption | omega | (simp only [InK] at *; omega)) (by first | assumption | omega | (simp only [InK] at *; omega)) (by first | assumption | omega | (simp only [InK] at *; omega)) (by first | assumption | omega | (simp only [InK] at *; omega))) (by kernel_rfl) ?_
  rintro v post ⟨rfl, rfl⟩
  refine go_exec (rs := [.tmp 4]) (by kernel_rfl) 4000 [.z [0, 1, 1] 1 [14]] (o := .stop [.o [0, 1, 1] 1, .c [1, 1, 1]] [(14, vP k)] [E0bba3 k c hd sn (.func (.func 178) #[vP k] #[]) cl bk (lo32 (A.ws.getD (blockAt c bk).toNat 0)), E3504b ba (A.load (blockAt c bk)), E35fb1 (A.load (blockAt c bk))]) (by kernel_rfl) ?_
  refine ok_stop ?_
  refine go_call (some 15) [0] Tryz.call158 (tkrun_Done3 c k hd sn cl bk (lo32 (A.ws.getD (blockAt c bk).toNat 0))) (by kernel_rfl) ?_
  rintro v post ⟨rfl, rfl⟩
  refine go_exec (rs := [.tmp 4]) (by kernel_rfl) 4000 [] (o := .ret (.bool false) [E3504b ba (A.load (blockAt c bk)), E35fb1 (A.load (blockAt c bk)), E0bba3 k c hd sn (.func (.func 178) #[vP k] #[]) cl bk (lo32 (A.ws.getD (blockAt c bk).toNat 0))]) (by kernel_rfl) ?_
  exact ret_ok (post := [E0bba3 k c hd sn (.func (.func 178) #[vP k] #[]) cl bk (lo32 (A.ws.getD (blockAt c bk).toNat 0)), E3504b ba (A.load (blockAt c bk)), E35fb1 (A.load (blockAt c bk))]) [2, 0, 1] (by kernel_rfl) ⟨rfl, (by kernel_rfl)⟩


theorem tkrun_Step3T (c : Cfg) (k ba : Nat) (hd sn cl bk af : Int) (A : Ar) (hn : A.ws.length = A.n) (hs : 0 ≤ A.steps ∧ A.steps ≤ 1000000000) (hh : 0 ≤ hd ∧ hd < A.n) (hc : c.Ok) (hk : 0 ≤ bk ∧ bk ≤ 4294967295) (hw : 0 ≤ sn ∧ sn ≤ 18446744073709551615) (ha : 0 ≤ af ∧ af ≤ 4294967295) (hq : (A.ws.getD hd.toNat 0) = sn) :
    Ctr Tryz.prog 174 #[vP k, vP ba] [E0bba3 k c hd sn (.func (.func 178) #[vP k] #[]) cl bk af, E3504b ba A, E35fb1 A] (Ret (.bool true) [E0bba3 k c hd sn (.nilFunc) cl bk af, E3504b ba (A.swapT hd (turnW sn af)), E35fb1 (A.swapT hd (turnW sn af))]) := by
  refine ctr_of (args := [vP k, vP ba]) (fn := Tryz.f174) (body := B174) (nt := 16) Tryz.func174 (by kernel_rfl) (by kernel_rfl) ?_
  intro F
  refine go_exec (rs := [.tmp 4]) (by kernel_rfl) 4000 [.z [0, 0, 1] 1 [0, 1, 5]] (o := .stop [.o [0, 0, 1] 1, .c [1, 0, 1], .c [1, 1]] [(0, vP k), (1, vP ba), (5, vP k)] [E0bba3 k c hd sn (.func (.func 178) #[vP k] #[]) cl bk af, E3504b ba A, E35fb1 A]) (by kernel_rfl) ?_
  refine ok_stop ?_
  refine go_call (some 6) [0] Tryz.call158 (tkrun_Done3 c k hd sn cl bk af) (by kernel_rfl) ?_
  rintro v post ⟨rfl, rfl⟩
  refine go_exec (rs := [.tmp 4]) (by kernel_rfl) 4000 [.e 2, .z [0, 1, 0, 1] 5 [0, 11, 12]] (o := .obl (k = k) (.stop [.o [0, 1, 0, 1] 5, .c [1, 1]] [(0, vP k), (11, .func (.func 178) #[vP k] #[]), (12, vP ba)] [E3504b ba A, E35fb1 A, E0bba3 k c hd sn (.func (.func 178) #[vP k] #[]) cl bk af])) (by kernel_rfl) ?_
  refine ok_obl rfl ?_
  refine ok_stop ?_
  refine go_call (some 13) [2, 0, 1] Tryz.call178 (tkThirdT c k ba hd sn cl bk af A (.func (.func 178) #[vP k] #[]) (by first | assumption | omega | (simp only [InK] at *; omega)) (by first | assumption | omega | (simp only [InK] at *; omega)) (by first | assumption | omega | (simp only [InK] at *; omega)) (by first | assumption | omega | (simp only [InK] at *; omega)) (by first | assumption | omega | (simp only [InK] at *; omega)) (by first | assumption | omega | (simp only [InK] at *; omega))) (by kernel_rfl) ?_
  rintro v post ⟨rfl, rfl⟩
  refine go_exec (rs := [.tmp 4]) (by kernel_rfl) 4000 [.z [0, 1, 1] 1 [14]] (o := .stop [.o [0, 1, 1] 1, .c [1, 1, 1]] [(14, vP k)] [E0bba3 k c hd sn (.nilFunc) cl bk af, E3504b ba (A.swapT hd (turnW sn af)), E35fb1 (A.swapT hd (turnW sn af))]) (by kernel_rfl) ?_
  refine ok_stop ?_
  refine go_call (some 15) [0] Tryz.call158 (tkrun_Done0 c k hd sn cl bk af) (by kernel_rfl) ?_
  rintro v post ⟨rfl, rfl⟩
  refine go_exec (rs := [.tmp 4]) (by kernel_rfl) 4000 [] (o := .ret (.bool true) [E3504b ba (A.swapT hd (turnW sn af)), E35fb1 (A.swapT hd (turnW sn af)), E0bba3 k c hd sn (.nilFunc) cl bk af]) (by kernel_rfl) ?_
  exact ret_ok (post := [E0bba3 k c hd sn (.nilFunc) cl bk af, E3504b ba (A.swapT hd (turnW sn af)), E35fb1 (A.swapT hd (turnW sn af))]) [2, 0, 1] (by kernel_rfl) ⟨rfl, (by kernel_rfl)⟩


theorem tkrun_Step3F (c : Cfg) (k ba : Nat) (hd sn cl bk af : Int) (A : Ar) (hn : A.ws.length = A.n) (hs : 0 ≤ A.steps ∧ A.steps ≤ 1000000000) (hh : 0 ≤ hd ∧ hd < A.n) (hc : c.Ok) (hk : 0 ≤ bk ∧ bk ≤ 4294967295) (hw : 0 ≤ sn ∧ sn ≤ 18446744073709551615) (ha : 0 ≤ af ∧ af ≤ 4294967295) (hq : (A.ws.getD hd.toNat 0) ≠ sn) :
    Ctr Tryz.prog 174 #[vP k, vP ba] [E0bba3 k c hd sn (.func (.func 178) #[vP k] #[]) cl bk af, E3504b ba A, E35fb1 A] (Ret (.bool false) [E0bba3 k c hd sn (.func (.func 104) #[vP k] #[]) cl bk af, E3504b ba (A.swapF hd), E35fb1 (A.swapF hd)]) := by
  refine ctr_of (args := [vP k, vP ba]) (fn := Tryz.f174) (body := B174) (nt := 16) Tryz.func174 (by kernel_rfl) (by kernel_rfl) ?_
  intro F
  refine go_exec (rs := [.tmp 4]) (by kernel_rfl) 4000 [.z [0, 0, 1] 1 [0, 1, 5]] (o := .stop [.o [0, 0, 1] 1, .c [1, 0, 1], .c [1, 1]] [(0, vP k), (1, vP ba), (5, vP k)] [E0bba3 k c hd sn (.func (.func 178) #[vP k] #[]) cl bk af, E3504b ba A, E35fb1 A]) (by kernel_rfl) ?_
  refine ok_stop ?_
  refine go_call (some 6) [0] Tryz.call158 (tkrun_Done3 c k hd sn cl bk af) (by kernel_rfl) ?_
  rintro v post ⟨rfl, rfl⟩
  refine go_exec (rs := [.tmp 4]) (by kernel_rfl) 4000 [.e 2, .z [0, 1, 0, 1] 5 [0, 11, 12]] (o := .obl (k = k) (.stop [.o [0, 1, 0, 1] 5, .c [1, 1]] [(0, vP k), (11, .func (.func 178) #[vP k] #[]), (12, vP ba)] [E3504b ba A, E35fb1 A, E0bba3 k c hd sn (.func (.func 178) #[vP k] #[]) cl bk af])) (by kernel_rfl) ?_
  refine ok_obl rfl ?_
  refine ok_stop ?_
  refine go_call (some 13) [2, 0, 1] Tryz.call178 (tkThirdF c k ba hd sn cl bk af A (.func (.func 178) #[vP k] #[]) (by first | assumption | omega | (simp only [InK] at *; omega)) (by first | assumption | omega | (simp only [InK] at *; omega)) (by first | assumption | omega | (simp only [InK] at *; omega)) (by first | assumption | omega | (simp only [InK] at *; omega)) (by first | assumption | omega | (simp only [InK] at *; omega)) (by first | assumption | omega | (simp only [InK] at *; omega))) (by kernel_rfl) ?_
  rintro v post ⟨rfl, rfl⟩
  refine go_exec (rs := [.tmp 4]) (by kernel_rfl) 4000 [.z [0, 1, 1] 1 [14]] (o := .stop [.o [0, 1, 1] 1, .c [1, 1, 1]] [(14, vP k)] [E0bba3 k c hd sn (.func (.func 104) #[vP k] #[]) cl bk af, E3504b ba (A.swapF hd), E35fb1 (A.swapF hd)]) (by kernel_rfl) ?_
  refine ok_stop ?_
  refine go_call (some 15) [0] Tryz.call158 (tkrun_Done1 c k hd sn cl bk af) (by kernel_rfl) ?_
  rintro v post ⟨rfl, rfl⟩
  refine go_exec (rs := [.tmp 4]) (by kernel_rfl) 4000 [] (o := .ret (.bool false) [E3504b ba (A.swapF hd), E35fb1 (A.swapF hd), E0bba3 k c hd sn (.func (.func 104) #[vP k] #[]) cl bk af]) (by kernel_rfl) ?_
  exact ret_ok (post := [E0bba3 k c hd sn (.func (.func 104) #[vP k] #[]) cl bk af, E3504b ba (A.swapF hd), E35fb1 (A.swapF hd)]) [2, 0, 1] (by kernel_rfl) ⟨rfl, (by kernel_rfl)⟩

noncomputable def B228 : Code := (Tryz.f228.body).getD .skip

theorem tkStep0 (c : Cfg) (k ba : Nat) (hd sn cl bk af : Int) (A : Ar) (hn : A.ws.length = A.n) (hs : 0 ≤ A.steps ∧ A.steps ≤ 1000000000) (hh : 0 ≤ hd ∧ hd < A.n) (hc : c.Ok) (hk : 0 ≤ bk ∧ bk ≤ 4294967295) (hw : 0 ≤ sn ∧ sn ≤ 18446744073709551615) (ha : 0 ≤ af ∧ af ≤ 4294967295) :
    Ctr Tryz.prog 228 #[vP k, vP ba] [E0bba3 k c hd sn (.nilFunc) cl bk af, E3504b ba A, E35fb1 A] (Ret (.bool true) [E0bba3 k c hd sn (.nilFunc) cl bk af, E3504b ba A, E35fb1 A]) := by
  refine ctr_of (args := [vP k, vP ba]) (fn := Tryz.f228) (body := B228) (nt := 14) Tryz.func228 (by kernel_rfl) (by kernel_rfl) ?_
  intro F
  refine go_exec (rs := [.tmp 4]) (by kernel_rfl) 4000 [.z [0, 1] 7 [7, 10, 11]] (o := .stop [.o [0, 1] 7, .c [1, 1]] [(7, .bool false), (10, vP k), (11, vP ba)] [E0bba3 k c hd sn (.nilFunc) cl bk af, E3504b ba A, E35fb1 A]) (by kernel_rfl) ?_
  refine ok_stop ?_
  refine go_call (some 12) [0, 1, 2] Tryz.call174 (tkrun_Step0 c k ba hd sn cl bk af A (by first | assumption | omega | (simp only [InK] at *; omega)) (by first | assumption | omega | (simp only [InK] at *; omega)) (by first | assumption | omega | (simp only [InK] at *; omega)) (by first | assumption | omega | (simp only [InK] at *; omega)) (by first | assumption | omega | (simp only [InK] at *; omega)) (by first | assumption | omega | (simp only [InK] at *; omega)) (by first | assumption | omega | (simp only [InK] at *; omega))) (by kernel_rfl) ?_
  rintro v post ⟨rfl, rfl⟩
  refine go_exec (rs := [.tmp 4]) (by kernel_rfl) 4000 [] (o := .ret (.bool true) [E0bba3 k c hd sn (.nilFunc) cl bk af, E3504b ba A, E35fb1 A]) (by kernel_rfl) ?_
  exact ret_ok (post := [E0bba3 k c hd sn (.nilFunc) cl bk af, E3504b ba A, E35fb1 A]) [0, 1, 2] (by kernel_rfl) ⟨rfl, (by kernel_rfl)⟩


theorem tkStep1Y (c : Cfg) (k ba : Nat) (hd sn cl bk af : Int) (A : Ar) (hn : A.ws.length = A.n) (hs : 0 ≤ A.steps ∧ A.steps ≤ 1000000000) (hh : 0 ≤ hd ∧ hd < A.n) (hc : c.Ok) (hk : 0 ≤ bk ∧ bk ≤ 4294967295) (hw : 0 ≤ sn ∧ sn ≤ 18446744073709551615) (ha : 0 ≤ af ∧ af ≤ 4294967295) (hR : U64 (A.ws.getD hd.toNat 0)) (hq : clsOf c (lo32 (A.ws.getD hd.toNat 0)) = cl) :
    Ctr Tryz.prog 228 #[vP k, vP ba] [E0bba3 k c hd sn (.func (.func 104) #[vP k] #[]) cl bk af, E3504b ba A, E35fb1 A] (Ret (.bool false) [E0bba3 k c hd (A.ws.getD hd.toNat 0) (.func (.func 152) #[vP k] #[]) cl (lo32 (A.ws.getD hd.toNat 0)) af, E3504b ba (A.load hd), E35fb1 (A.load hd)]) := by
  refine ctr_of (args := [vP k, vP ba]) (fn := Tryz.f228) (body := B228) (nt := 14) Tryz.func228 (by kernel_rfl) (by kernel_rfl) ?_
  intro F
  refine go_exec (rs := [.tmp 4]) (by kernel_rfl) 4000 [.z [0, 1] 7 [7, 10, 11]] (o := .stop [.o [0, 1] 7, .c [1, 1]] [(7, .bool false), (10, vP k), (11, vP ba)] [E0bba3 k c hd sn (.func (.func 104) #[vP k] #[]) cl bk af, E3504b ba A, E35fb1 A]) (by kernel_rfl) ?_
  refine ok_stop ?_
  refine go_call (some 12) [0, 1, 2] Tryz.call174 (tkrun_Step1Y c k ba hd sn cl bk af A (by first | assumption | omega | (simp only [InK] at *; omega)) (by first | assumption | omega | (simp only [InK] at *; omega)) (by first | assumption | omega | (simp only [InK] at *; omega)) (by first | assumption | omega | (simp only [InK] at *; omega)) (by first | assumption | omega | (simp only [InK] at *; omega)) (by first | assumption | omega | (simp only [InK] at *; omega)) (by first | assumption | omega | (simp only [InK] at *; omega)) (by first | assumption | omega | (simp only [InK] at *; omega)) (by first | assumption | omega | (simp only [InK] at *; omega))) (by kernel_rfl) ?_
  rintro v post ⟨rfl, rfl⟩
  refine go_exec (rs := [.tmp 4]) (by kernel_rfl) 4000 [] (o := .ret (.bool false) [E0bba3 k c hd (A.ws.getD hd.toNat 0) (.func (.func 152) #[vP k] #[]) cl (lo32 (A.ws.getD hd.toNat 0)) af, E3504b ba (A.load hd), E35fb1 (A.load hd)]) (by kernel_rfl) ?_
  exact ret_ok (post := [E0bba3 k c hd (A.ws.getD hd.toNat 0) (.func (.func 152) #[vP k] #[]) cl (lo32 (A.ws.getD hd.toNat 0)) af, E3504b ba (A.load hd), E35fb1 (A.load hd)]) [0, 1, 2] (by kernel_rfl) ⟨rfl, (by kernel_rfl)⟩


theorem tkStep1N (c : Cfg) (k ba : Nat) (hd sn cl bk af : Int) (A : Ar) (hn : A.ws.length = A.n) (hs : 0 ≤ A.steps ∧ A.steps ≤ 1000000000) (hh : 0 ≤ hd ∧ hd < A.n) (hc : c.Ok) (hk : 0 ≤ bk ∧ bk ≤ 4294967295) (hw : 0 ≤ sn ∧ sn ≤ 18446744073709551615) (ha : 0 ≤ af ∧ af ≤ 4294967295) (hR : U64 (A.ws.getD hd.toNat 0)) (hq : clsOf c (lo32 (A.ws.getD hd.toNat 0)) ≠ cl) :
    Ctr Tryz.prog 228 #[vP k, vP ba] [E0bba3 k c hd sn (.func (.func 104) #[vP k] #[]) cl bk af, E3504b ba A, E35fb1 A] (Ret (.bool true) [E0bba3 k c hd (A.ws.getD hd.toNat 0) (.nilFunc) cl 0 af, E3504b ba (A.load hd), E35fb1 (A.load hd)]) := by
  refine ctr_of (args := [vP k, vP ba]) (fn := Tryz.f228) (body := B228) (nt := 14) Tryz.func228 (by kernel_rfl) (by kernel_rfl) ?_
  intro F
  refine go_exec (rs := [.tmp 4]) (by kernel_rfl) 4000 [.z [0, 1] 7 [7, 10, 11]] (o := .stop [.o [0, 1] 7, .c [1, 1]] [(7, .bool false), (10, vP k), (11, vP ba)] [E0bba3 k c hd sn (.func (.func 104) #[vP k] #[]) cl bk af, E3504b ba A, E35fb1 A]) (by kernel_rfl) ?_
  refine ok_stop ?_
  refine go_call (some 12) [0, 1, 2] Tryz.call174 (tkrun_Step1N c k ba hd sn cl bk af A (by first | assumption | omega | (simp only [InK] at *; omega)) (by first | assumption | omega | (simp only [InK] at *; omega)) (by first | assumption | omega | (simp only [InK] at *; omega)) (by first | assumption | omega | (simp only [InK] at *; omega)) (by first | assumption | omega | (simp only [InK] at *; omega)) (by first | assumption | omega | (simp only [InK] at *; omega)) (by first | assumption | omega | (simp only [InK] at *; omega)) (by first | assumption | omega | (simp only [InK] at *; omega)) (by first | assumption | omega | (simp only [InK] at *; omega))) (by kernel_rfl) ?_
  rintro v post ⟨rfl, rfl⟩
  refine go_exec (rs := [.tmp 4]) (by kernel_rfl) 4000 [] (o := .ret (.bool true) [E0bba3 k c hd (A.ws.getD hd.toNat 0) (.nilFunc) cl 0 af, E3504b ba (A.load hd), E35fb1 (A.load hd)]) (by kernel_rfl) ?_
  exact ret_ok (post := [E0bba3 k c hd (A.ws.getD hd.toNat 0) (.nilFunc) cl 0 af, E3504b ba (A.load hd), E35fb1 (A.load hd)]) [0, 1, 2] (by kernel_rfl) ⟨rfl, (by kernel_rfl)⟩


theorem tkStep2 (c : Cfg) (k ba : Nat) (hd sn cl bk af : Int) (A : Ar) (hn : A.ws.length = A.n) (hs : 0 ≤ A.steps ∧ A.steps ≤ 1000000000) (hh : 0 ≤ hd ∧ hd < A.n) (hc : c.Ok) (hk : 0 ≤ bk ∧ bk ≤ 4294967295) (hw : 0 ≤ sn ∧ sn ≤ 18446744073709551615) (ha : 0 ≤ af ∧ af ≤ 4294967295) (hb : 0 ≤ blockAt c bk ∧ blockAt c bk < A.n) (hR : U64 (A.ws.getD (blockAt c bk).toNat 0)) :
    Ctr Tryz.prog 228 #[vP k, vP ba] [E0bba3 k c hd sn (.func (.func 152) #[vP k] #[]) cl bk af, E3504b ba A, E35fb1 A] (Ret (.bool false) [E0bba3 k c hd sn (.func (.func 178) #[vP k] #[]) cl bk (lo32 (A.ws.getD (blockAt c bk).toNat 0)), E3504b ba (A.load (blockAt c bk)), E35fb1 (A.load (blockAt c bk))]) := by
  refine ctr_of (args := [vP k, vP ba]) (fn := Tryz.f228) (body := B228) (nt := 14) Tryz.func228 (by kernel_rfl) (by kernel_rfl) ?_
  intro F
  refine go_exec (rs := [.tmp 4]) (by kernel_rfl) 4000 [.z [0, 1] 7 [7, 10, 11]] (o := .stop [.o [0, 1] 7, .c [1, 1]] [(7, .bool false), (10, vP k), (11, vP ba)] [E0bba3 k c hd sn (.func (.func 152) #[vP k] #[]) cl bk af, E3504b ba A, E35fb1 A]) (by kernel_rfl) ?_
  refine ok_stop ?_
  refine go_call (some 12) [0, 1, 2] Tryz.call174 (tkrun_Step2 c k ba hd sn cl bk af A (by first | assumption | omega | (simp only [InK] at *; omega)) (by first | assumption | omega | (simp only [InK] at *; omega)) (by first | assumption | omega | (simp only [InK] at *; omega)) (by first | assumption | omega | (simp only [InK] at *; omega)) (by first | assumption | omega | (simp only [InK] at *; omega)) (by first | assumption | omega | (simp only [InK] at *; omega)) (by first | assumption | omega | (simp only [InK] at *; omega)) (by first | assumption | omega | (simp only [InK] at *; omega)) (by first | assumption | omega | (simp only [InK] at *; omega))) (by kernel_rfl) ?_
  rintro v post ⟨rfl, rfl⟩
  refine go_exec (rs := [.tmp 4]) (by kernel_rfl) 4000 [] (o := .ret (.bool false) [E0bba3 k c hd sn (.func (.func 178) #[vP k] #[]) cl bk (lo32 (A.ws.getD (blockAt c bk).toNat 0)), E3504b ba (A.load (blockAt c bk)), E35fb1 (A.load (blockAt c bk))]) (by kernel_rfl) ?_
  exact ret_ok (post := [E0bba3 k c hd sn (.func (.func 178) #[vP k] #[]) cl bk (lo32 (A.ws.getD (blockAt c bk).toNat 0)), E3504b ba (A.load (blockAt c bk)), E35fb1 (A.load (blockAt c bk))]) [0, 1, 2] (by kernel_rfl) ⟨rfl, (by kernel_rfl)⟩


theorem tkStep3T (c : Cfg) (k ba : Nat) (hd sn cl bk af : Int) (A : Ar) (hn : A.ws.length = A.n) (hs : 0 ≤ A.steps ∧ A.steps ≤ 1000000000) (hh : 0 ≤ hd ∧ hd < A.n) (hc : c.Ok) (hk : 0 ≤ bk ∧ bk ≤ 4294967295) (hw : 0 ≤ sn ∧ sn ≤ 18446744073709551615) (ha : 0 ≤ af ∧ af ≤ 4294967295) (hq : (A.ws.getD hd.toNat 0) = sn) :
    Ctr Tryz.prog 228 #[vP k, vP ba] [E0bba3 k c hd sn (.func (.func 178) #[vP k] #[]) cl bk af, E3504b ba A, E35fb1 A] (Ret (.bool true) [E0bba3 k c hd sn (.nilFunc) cl bk af, E3504b ba (A.swapT hd (turnW sn af)), E35fb1 (A.swapT hd (turnW sn af))]) := by
  refine ctr_of (args := [vP k, vP ba]) (fn := Tryz.f228) (body := B228) (nt := 14) Tryz.func228 (by kernel_rfl) (by kernel_rfl) ?_
  intro F
  refine go_exec (rs := [.tmp 4]) (by kernel_rfl) 4000 [.z [0, 1] 7 [7, 10, 11]] (o := .stop [.o [0, 1] 7, .c [1, 1]] [(7, .bool false), (10, vP k), (11, vP ba)] [E0bba3 k c hd sn (.func (.func 178) #[vP k] #[]) cl bk af, E3504b ba A, E35fb1 A]) (by kernel_rfl) ?_
  refine ok_stop ?_
  refine go_call (some 12) [0, 1, 2] Tryz.call174 (tkrun_Step3T c k ba hd sn cl bk af A (by first | assumption | omega | (simp only [InK] at *; omega)) (by first | assumption | omega | (simp only [InK] at *; omega)) (by first | assumption | omega | (simp only [InK] at *; omega)) (by first | assumption | omega | (simp only [InK] at *; omega)) (by first | assumption | omega | (simp only [InK] at *; omega)) (by first | assumption | omega | (simp only [InK] at *; omega)) (by first | assumption | omega | (simp only [InK] at *; omega)) (by first | assumption | omega | (simp only [InK] at *; omega))) (by kernel_rfl) ?_
  rintro v post ⟨rfl, rfl⟩
  refine go_exec (rs := [.tmp 4]) (by kernel_rfl) 4000 [] (o := .ret (.bool true) [E0bba3 k c hd sn (.nilFunc) cl bk af, E3504b ba (A.swapT hd (turnW sn af)), E35fb1 (A.swapT hd (turnW sn af))]) (by kernel_rfl) ?_
  exact ret_ok (post := [E0bba3 k c hd sn (.nilFunc) cl bk af, E3504b ba (A.swapT hd (turnW sn af)), E35fb1 (A.swapT hd (turnW sn af))]) [0, 1, 2] (by kernel_rfl) ⟨rfl, (by kernel_rfl)⟩


theorem tkStep3F (c : Cfg) (k ba : Nat) (hd sn cl bk af : Int) (A : Ar) (hn : A.ws.length = A.n) (hs : 0 ≤ A.steps ∧ A.steps ≤ 1000000000) (hh : 0 ≤ hd ∧ hd < A.n) (hc : c.Ok) (hk : 0 ≤ bk ∧ bk ≤ 4294967295) (hw : 0 ≤ sn ∧ sn ≤ 18446744073709551615) (ha : 0 ≤ af ∧ af ≤ 4294967295) (hq : (A.ws.getD hd.toNat 0) ≠ sn) :
    Ctr Tryz.prog 228 #[vP k, vP ba] [E0bba3 k c hd sn (.func (.func 178) #[vP k] #[]) cl bk af, E3504b ba A, E35fb1 A] (Ret (.bool false) [E0bba3 k c hd sn (.func (.func 104) #[vP k] #[]) cl bk af, E3504b ba (A.swapF hd), E35fb1 (A.swapF hd)]) := by
  refine ctr_of (args := [vP k, vP ba]) (fn := Tryz.f228) (body := B228) (nt := 14) Tryz.func228 (by kernel_rfl) (by kernel_rfl) ?_
  intro F
  refine go_exec (rs := [.tmp 4]) (by kernel_rfl) 4000 [.z [0, 1] 7 [7, 10, 11]] (o := .stop [.o [0, 1] 7, .c [1, 1]] [(7, .bool false), (10, vP k), (11, vP ba)] [E0bba3 k c hd sn (.func (.func 178) #[vP k] #[]) cl bk af, E3504b ba A, E35fb1 A]) (by kernel_rfl) ?_
  refine ok_stop ?_
  refine go_call (some 12) [0, 1, 2] Tryz.call174 (tkrun_Step3F c k ba hd sn cl bk af A (by first | assumption | omega | (simp only [InK] at *; omega)) (by first | assumption | omega | (simp only [InK] at *; omega)) (by first | assumption | omega | (simp only [InK] at *; omega)) (by first | assumption | omega | (simp only [InK] at *; omega)) (by first | assumption | omega | (simp only [InK] at *; omega)) (by first | assumption | omega | (simp only [InK] at *; omega)) (by first | assumption | omega | (simp only [InK] at *; omega)) (by first | assumption | omega | (simp only [InK] at *; omega))) (by kernel_rfl) ?_
  rintro v post ⟨rfl, rfl⟩
  refine go_exec (rs := [.tmp 4]) (by kernel_rfl) 4000 [] (o := .ret (.bool false) [E0bba3 k c hd sn (.func (.func 104) #[vP k] #[]) cl bk af, E3504b ba (A.swapF hd), E35fb1 (A.swapF hd)]) (by kernel_rfl) ?_
  exact ret_ok (post := [E0bba3 k c hd sn (.func (.func 104) #[vP k] #[]) cl bk af, E3504b ba (A.swapF hd), E35fb1 (A.swapF hd)]) [0, 1, 2] (by kernel_rfl) ⟨rfl, (by kernel_rfl)⟩


theorem take_Step (c : Cfg) (k ba : Nat) (T : Tk) (A : Ar) (hn : A.ws.length = A.n) (hs : 0 ≤ A.steps ∧ A.steps ≤ 1000000000) (hc : c.Ok) (hz : (A.n : Int) = sizeOfC c) (hR : RngW A.ws) (hT : T.Ok c) :
    Ctr Tryz.prog 228 #[vP k, vP ba] [E65ea3 k c T k, E3504b ba A, E35fb1 A] (Ret (.bool ((T.step c A).1.ph == 0)) [Ef47d3 k c ((T.step c A).1) k (((T.step c A).1).ph), E3504b ba ((T.step c A).2), E35fb1 ((T.step c A).2)]) := by
  obtain ⟨hd, cl, sn, bk, af, ph⟩ := T
  obtain ⟨h1, h2, h3, h4, h5, h6, h7, hbk⟩ := hT
  simp only at h1 h2 h3 h4 h5 h6 h7 hbk
  have hz5 := sizeOfC_ok hc
  have hh : 0 ≤ hd ∧ hd < A.n := by omega
  match ph, h1 with
  | 0, _ => exact tkStep0 c k ba hd sn cl bk af A hn hs hh hc hbk h4 h5
  | 1, _ =>
    by_cases hq : clsOf c (lo32 (A.ws.getD hd.toNat 0)) = cl
    · have e : Tk.step c ⟨hd, cl, sn, bk, af, 1⟩ A = (⟨hd, cl, A.ws.getD hd.toNat 0, lo32 (A.ws.getD hd.toNat 0), af, 2⟩, A.load hd) := by show (if _ then _ else _) = _; rw [if_pos hq]
      rw [e]; exact tkStep1Y c k ba hd sn cl bk af A hn hs hh hc hbk h4 h5 (hR _) hq
    · have e : Tk.step c ⟨hd, cl, sn, bk, af, 1⟩ A = (⟨hd, cl, A.ws.getD hd.toNat 0, 0, af, 0⟩, A.load hd) := by show (if _ then _ else _) = _; rw [if_neg hq]
      rw [e]; exact tkStep1N c k ba hd sn cl bk af A hn hs hh hc hbk h4 h5 (hR _) hq
  | 2, _ =>
    have hb := blockAt_ok hc (b := bk) (by have := h6 (.inl rfl); omega)
    exact tkStep2 c k ba hd sn cl bk af A hn hs hh hc hbk h4 h5 (by omega) (hR _)
  | 3, _ =>
    by_cases hq : A.ws.getD hd.toNat 0 = sn
    · have e : Tk.step c ⟨hd, cl, sn, bk, af, 3⟩ A = (⟨hd, cl, sn, bk, af, 0⟩, A.swapT hd (turnW sn af)) := by show (if _ then _ else _) = _; rw [if_pos hq]
      rw [e]; exact tkStep3T c k ba hd sn cl bk af A hn hs hh hc hbk h4 h5 hq
    · have e : Tk.step c ⟨hd, cl, sn, bk, af, 3⟩ A = (⟨hd, cl, sn, bk, af, 1⟩, A.swapF hd) := by show (if _ then _ else _) = _; rw [if_neg hq]
      rw [e]; exact tkStep3F c k ba hd sn cl bk af A hn hs hh hc hbk h4 h5 hq
  | n + 4, h => omega


theorem new_TakeC (c : Cfg) (cl : Int) (hc : c.Ok) (hcl : 0 ≤ cl ∧ cl ≤ 1) :
    Ctr Tryz.prog 49 #[cfgV c, vI cl] [] (fun v L => ∃ (k : Nat), v = vP k ∧ L = [E65ea3 k c (newTk cl) k]) := new_Take c cl hc hcl


theorem take_Block (c : Cfg) (k : Nat) (T : Tk) (hd : T.ph = 0) :
    Ctr Tryz.prog 53 #[vP k] [E65ea3 k c T k] (Ret (vI T.block) [E65ea3 k c T k]) := by
  obtain ⟨hd', cl, sn, bk, af, ph⟩ := T
  simp only at hd
  subst hd
  exact tkBlock0 c k hd' sn cl bk af

end Go.Proofs.YtgajfjeffamnkaaGreatDoor


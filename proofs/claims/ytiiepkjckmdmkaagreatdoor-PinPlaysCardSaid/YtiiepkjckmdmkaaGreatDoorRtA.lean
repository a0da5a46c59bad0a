/- Walks: what functions of the program and of the document compute, part 1 of those on which PinPlays rests. -/
import Derived.Test.YtiiepkjckmdmkaaGreatDoorMdA
import Derived.Test.YtiiepkjckmdmkaaGreatDoorChecked
import Derived.WalkKit
import Derived.LaidEql
import Derived.Stop.Asserts
import Derived.RowKitTokens
import Derived.Test.YtiiepkjckmdmkaaGreatDoorRows
import Derived.ChangeSame
import Derived.ChangeVars
import Derived.JoinedOf
import Derived.RowKit
import Derived.LaidLaws
import Derived.LaidHandle
import Derived.Stop.Joined

set_option linter.unusedVariables false
set_option linter.unusedSimpArgs false

namespace Go.Proofs.YtiiepkjckmdmkaaGreatDoor
open Go.Sx
abbrev Efdc04 (x0 : Nat) (c1 : Cfg) : Ent := .pts x0 [.int .i64 c1.topics, .int .i64 c1.small, .int .i64 c1.slots, .int .i64 c1.clients, .int .i64 c1.s0, .int .i64 c1.n0, .int .i64 c1.s1, .int .i64 c1.n1, .int .i64 c1.retry] 29
abbrev E89d8b (x0 : Option Addr) (x1 : Nat) (x2 : List Int) : Ent := .sl x0 x1 (encI .u64) 0 1 x2 41
abbrev Ee9d7e (x0 : Nat) (x1 : Option Addr) (x2 : Nat) (x3 : Nat) (x4 : Int) (x5 : Int) (x6 : Int) (x7 : Int) (x8 : Bool) : Ent := .pts x0 [.slice x1 x2 x3, .int .i64 x4, .int .i64 x5, .int .i64 x6, .int .u64 x7, .bool x8, .nilIface] 131
abbrev Ebed9f (x0 : Nat) (a1 : Ar) : Ent := .pts x0 [.slice a1.aw a1.n a1.cw, .int .i64 a1.steps, .int .i64 a1.lk, .int .i64 a1.lw, .int .u64 a1.lv, .bool a1.lc, .nilIface] 131
abbrev E632c4 (a0 : Ar) : Ent := .sl a0.aw a0.cw (encI .u64) 0 1 a0.ws 41
abbrev E313f6 (x0 : Nat) (c1 : Cfg) : Ent := .pts x0 [.int .i64 c1.topics, .int .i64 c1.small, .int .i64 c1.slots, .int .i64 c1.clients, .int .i64 c1.retry, .int .i64 c1.s0, .int .i64 c1.n0, .int .i64 c1.s1, .int .i64 c1.n1] 164
abbrev E0c41e (x0 : Nat) (x1 : Int) (x2 : Int) (x3 : Int) (x4 : Int) (x5 : Int) (x6 : Int) (x7 : Int) (x8 : Int) (x9 : Int) : Ent := .pts x0 [.int .i64 x1, .int .i64 x2, .int .i64 x3, .int .i64 x4, .int .i64 x5, .int .i64 x6, .int .i64 x7, .int .i64 x8, .int .i64 x9] 164
abbrev Ed975e (x0 : Nat) (x1 : Int) (x2 : Int) (x3 : Int) (x4 : Int) (x5 : Int) (x6 : Int) (x7 : Int) (x8 : Int) (x9 : Int) : Ent := .pts x0 [.int .i64 x1, .int .i64 x2, .int .i64 x3, .int .i64 x4, .int .i64 x5, .int .i64 x6, .int .i64 x7, .int .i64 x8, .int .i64 x9] 29
abbrev E4e09e (x0 : Nat) (a1 : Ar) (x2 : Int) (x3 : Int) (x4 : Int) (x5 : Int) (x6 : Bool) : Ent := .pts x0 [.slice a1.aw a1.n a1.cw, .int .i64 x2, .int .i64 x3, .int .i64 x4, .int .u64 x5, .bool x6, .nilIface] 131
abbrev E46446 (a0 : Ar) (x1 : List Int) : Ent := .sl a0.aw a0.cw (encI .u64) 0 1 x1 41
abbrev E77e2b (x0 : Nat) (a1 : Ar) : Ent := .pts x0 [.int .i64 a1.lk, .int .i64 a1.lw, .int .u64 a1.lv, .bool a1.lc] 82
abbrev cfgV (c : Cfg) : Value := .agg #[.int .i64 c.topics, .int .i64 c.small, .int .i64 c.slots, .int .i64 c.clients, .int .i64 c.s0, .int .i64 c.n0, .int .i64 c.s1, .int .i64 c.n1, .int .i64 c.retry]
noncomputable def B115 : Code := (Tryz.f115.body).getD .skip

theorem bits_may (at_ n : Int) (h : 1 ≤ n ∧ n ≤ 64 ∧ 0 ≤ at_ ∧ at_ + n ≤ 64) :
    Ctr Tryz.prog 115 #[vI at_, vI n] [] (Ret (.bool true) []) := by
  refine ctr_of (args := [vI at_, vI n]) (fn := Tryz.f115) (body := B115) (nt := 21) Tryz.func115 (by kernel_rfl) (by kernel_rfl) ?_
  intro F
  refine go_exec (rs := [.tmp 4]) (by kernel_rfl) 4000 [.sp [7, 6] [.sp [11, 9, 10] [.sp [15, 13, 14] [.n] [.dead]] [.dead]] [.dead]] (o := .obl ((decide (n ≥ 1)) = (decide (n ≥ 1))) (.br (decide (n ≥ 1)) (.obl ((decide (n ≤ 64)) = (decide (n ≤ 64))) (.obl ((decide (n ≤ 64)) = (decide (n ≤ 64))) (.br (decide (n ≤ 64)) (.obl ((decide (at_ ≥ 0)) = (decide (at_ ≥ 0))) (.obl ((decide (at_ ≥ 0)) = (decide (at_ ≥ 0))) (.br (decide (at_ ≥ 0)) (.obl (InK .i64 (64 - n)) (.ret (.bool (decide (at_ ≤ (64 - n)))) [])) (.bad)))) (.bad)))) (.bad))) (by kernel_rfl) ?_
  refine ok_obl rfl ?_
  refine ok_br (fun _ => ?_) (fun h => absurd (show (decide (n ≥ 1)) = true from (by simp; omega)) (by rw [h]; simp))
  refine ok_obl rfl ?_
  refine ok_obl rfl ?_
  refine ok_br (fun _ => ?_) (fun h => absurd (show (decide (n ≤ 64)) = true from (by simp; omega)) (by rw [h]; simp))
  refine ok_obl rfl ?_
  refine ok_obl rfl ?_
  refine ok_br (fun _ => ?_) (fun h => absurd (show (decide (at_ ≥ 0)) = true from (by simp; omega)) (by rw [h]; simp))
  refine ok_obl (by simp only [InK] at *; omega) ?_
  exact ret_ok (post := []) [] (by kernel_rfl) ⟨(congrArg Value.bool (by first | rfl | (simp; done) | (simp; omega))), (by kernel_rfl)⟩

noncomputable def B116 : Code := (Tryz.f116.body).getD .skip

theorem bits_all (n : Int) (h : 1 ≤ n ∧ n ≤ 64) :
    Ctr Tryz.prog 116 #[vI n] [] (Ret (vU (bShr .u64 18446744073709551615 (64 - n))) []) := by
  refine ctr_of (args := [vI n]) (fn := Tryz.f116) (body := B116) (nt := 6) Tryz.func116 (by kernel_rfl) (by kernel_rfl) ?_
  intro F
  refine go_exec (rs := [.tmp 2]) (by kernel_rfl) 4000 [.n, .n] (o := .obl (InK .i64 (64 - n)) (.obl ((0 : Int) ≤ (64 - n)) (.ret (vU (bShr .u64 18446744073709551615 (64 - n))) []))) (by kernel_rfl) ?_
  refine ok_obl (by simp only [InK]; omega) ?_
  refine ok_obl (by omega) ?_
  exact ret_ok (post := []) [] (by kernel_rfl) ⟨rfl, (by kernel_rfl)⟩

noncomputable def B89 : Code := (Tryz.f89.body).getD .skip

theorem bits_Get (w_ at_ n : Int) (h : 1 ≤ n ∧ n ≤ 64 ∧ 0 ≤ at_ ∧ at_ + n ≤ 64) :
    Ctr Tryz.prog 89 #[vU w_, vI at_, vI n] [] (Ret (vU (bAnd .u64 (bShr .u64 w_ at_) (bShr .u64 18446744073709551615 (64 - n)))) []) := by
  refine ctr_of (args := [vU w_, vI at_, vI n]) (fn := Tryz.f89) (body := B89) (nt := 17) Tryz.func89 (by kernel_rfl) (by kernel_rfl) ?_
  intro F
  refine go_exec (rs := [.tmp 6]) (by kernel_rfl) 4000 [.z [0, 0, 1] 2 [0, 1, 2, 7, 8]] (o := .stop [.o [0, 0, 1] 2, .c [1, 0, 1], .c [1, 1]] [(0, vU w_), (1, vI at_), (2, vI n), (7, vI at_), (8, vI n)] []) (by kernel_rfl) ?_
  refine ok_stop ?_
  refine go_call (some 9) [] Tryz.call115 (bits_may at_ n (by first | assumption | omega | (simp only [InK] at *; omega))) (by kernel_rfl) ?_
  rintro v post ⟨rfl, rfl⟩
  refine go_exec (rs := [.tmp 6]) (by kernel_rfl) 4000 [.z [0, 1, 1] 0 [0, 1, 2]] (o := .stop [.c [0, 1, 1], .c [1, 1, 1]] [(0, vU w_), (1, vI at_), (2, vI n)] []) (by kernel_rfl) ?_
  refine ok_stop ?_
  refine go_quiet (tm' := [(6, vU (bAnd .u64 (bShr .u64 w_ at_) (bShr .u64 18446744073709551615 (64 - n))))]) (ps := [(0 : Int) ≤ at_]) (cs := [(116, #[vI n], vU (bShr .u64 18446744073709551615 (64 - n)))]) [(0, .h .w), (1, .h .w), (2, .h (.n)), (3, .h .w), (4, .q (vU (bShr .u64 18446744073709551615 (64 - n)))), (5, .h .w), (6, .h .w)] [6] (by kernel_rfl) (by kernel_rfl) ⟨(by first | omega | (simp; done) | (simp; omega)), trivial⟩ ⟨⟨Tryz.call116, quiet_of [] (bits_all n (by first | assumption | omega | (simp only [InK] at *; omega))) (by kernel_rfl) (by rintro v post ⟨rfl, rfl⟩; exact ⟨rfl, rfl⟩)⟩, trivial⟩ ?_
  refine go_exec (rs := [.tmp 6]) (by kernel_rfl) 4000 [] (o := .ret (vU (bAnd .u64 (bShr .u64 w_ at_) (bShr .u64 18446744073709551615 (64 - n)))) []) (by kernel_rfl) ?_
  exact ret_ok (post := []) [] (by kernel_rfl) ⟨rfl, (by kernel_rfl)⟩

noncomputable def B60 : Code := (Tryz.f60.body).getD .skip

theorem plan_cells (c : Cfg) (hc : c.Ok) :
    Ctr Tryz.prog 60 #[cfgV c] [] (Ret (.tuple #[vI (5 + c.slots + c.topics), vI (1 + 2 * c.small)]) []) := by
  refine ctr_of (args := [cfgV c]) (fn := Tryz.f60) (body := B60) (nt := 14) Tryz.func60 (by kernel_rfl) (by kernel_rfl) ?_
  intro F
  refine go_exec (rs := [.tmp 2, .tmp 3]) (by kernel_rfl) 4000 [.z [0, 1] 0 [1]] (o := .new fun b_1 => .stop [.c [0, 1], .c [1, 1]] [(1, vP b_1)] [Efdc04 b_1 c]) (by kernel_rfl) ?_
  refine ok_new fun b_1 => ?_
  refine ok_stop ?_
  refine go_quiet (tm' := [(2, vI ((5 + c.slots) + c.topics)), (3, vI (1 + (2 * c.small)))]) (ps := [b_1 = b_1, InK .i64 (5 + c.slots), b_1 = b_1, InK .i64 ((5 + c.slots) + c.topics), b_1 = b_1, InK .i64 (2 * c.small), InK .i64 (1 + (2 * c.small))]) (cs := []) [(0, .h .w), (1, .h (.e 0)), (2, .h (.n)), (3, .h .w), (4, .h (.e 0)), (5, .h (.n)), (6, .h .w), (7, .h (.e 0)), (8, .h (.n)), (9, .h (.n)), (10, .h .w), (11, .h .w)] [2, 3] (by kernel_rfl) (by kernel_rfl) ⟨rfl, (by simp only [Cfg.Ok, InK] at *; omega), rfl, (by simp only [Cfg.Ok, InK] at *; omega), rfl, (by simp only [Cfg.Ok, InK] at *; omega), (by simp only [Cfg.Ok, InK] at *; omega), trivial⟩ trivial ?_
  refine go_exec (rs := [.tmp 2, .tmp 3]) (by kernel_rfl) 4000 [] (o := .ret (.tuple #[vI ((5 + c.slots) + c.topics), vI (1 + (2 * c.small))]) [Efdc04 b_1 c]) (by kernel_rfl) ?_
  exact ret_ok (post := []) [] (by kernel_rfl) ⟨rfl, (by kernel_rfl)⟩

noncomputable def B98 : Code := (Tryz.f98.body).getD .skip

theorem plan_parts (c : Cfg)  :
    Ctr Tryz.prog 98 #[cfgV c] [] (Ret (.agg #[vI c.topics, vI c.small, vI c.slots, vI c.clients, vI c.retry, vI c.s0, vI c.n0, vI c.s1, vI c.n1]) []) := by
  refine ctr_of (args := [cfgV c]) (fn := Tryz.f98) (body := B98) (nt := 30) Tryz.func98 (by kernel_rfl) (by kernel_rfl) ?_
  intro F
  refine go_exec (rs := [.cell 2 164]) (by kernel_rfl) 4000 [.e 0, .e 0, .e 0, .e 0, .e 0, .w, .e 0, .w, .e 0, .w, .e 0, .w, .e 0, .e 1, .e 1] (o := .new fun b_1 => .new fun b_2 => .obl (b_1 = b_1) (.obl (b_1 = b_1) (.obl (b_1 = b_1) (.obl (b_1 = b_1) (.obl (b_1 = b_1) (.obl (b_1 = b_1) (.obl (b_1 = b_1) (.obl (b_1 = b_1) (.obl (b_1 = b_1) (.obl (b_2 = b_2) (.obl (b_2 = b_2) (.ret (.agg #[vI c.topics, vI c.small, vI c.slots, vI c.clients, vI c.retry, vI c.s0, vI c.n0, vI c.s1, vI c.n1]) [Efdc04 b_1 c, E313f6 b_2 c])))))))))))) (by kernel_rfl) ?_
  refine ok_new fun b_1 => ?_
  refine ok_new fun b_2 => ?_
  refine ok_obl rfl ?_
  refine ok_obl rfl ?_
  refine ok_obl rfl ?_
  refine ok_obl rfl ?_
  refine ok_obl rfl ?_
  refine ok_obl rfl ?_
  refine ok_obl rfl ?_
  refine ok_obl rfl ?_
  refine ok_obl rfl ?_
  refine ok_obl rfl ?_
  refine ok_obl rfl ?_
  exact ret_ok (post := []) [] (by kernel_rfl) ⟨rfl, (by kernel_rfl)⟩

noncomputable def B97 : Code := (Tryz.f97.body).getD .skip

theorem plan_right (c : Cfg) (hc : c.Ok) :
    Ctr Tryz.prog 97 #[cfgV c] [] (Ret (.bool true) []) := by
  refine ctr_of (args := [cfgV c]) (fn := Tryz.f97) (body := B97) (nt := 37) Tryz.func97 (by kernel_rfl) (by kernel_rfl) ?_
  intro F
  refine go_exec (rs := [.tmp 2]) (by kernel_rfl) 4000 [.e 1, .e 2, .e 0, .z [0, 0, 1, 1, 1] 1 [1, 3, 4, 9]] (o := .new fun b_1 => .new fun b_2 => .obl (b_2 = b_2) (.new fun b_3 => .obl (b_3 = b_3) (.obl (b_1 = b_1) (.stop [.o [0, 0, 1, 1, 1] 1, .c [1, 0, 1, 1, 1], .c [1, 1, 1, 1]] [(1, vP b_1), (3, vP b_2), (4, vP b_3), (9, cfgV c)] [Efdc04 b_1 c, E0c41e b_2 1 4 1 1 1 4 0 4 0, E0c41e b_3 8 32 8 8 8 96 12 96 12])))) (by kernel_rfl) ?_
  refine ok_new fun b_1 => ?_
  refine ok_new fun b_2 => ?_
  refine ok_obl rfl ?_
  refine ok_new fun b_3 => ?_
  refine ok_obl rfl ?_
  refine ok_obl rfl ?_
  refine ok_stop ?_
  refine go_call (some 10) [] Tryz.call98 (plan_parts c) (by kernel_rfl) ?_
  rintro v post ⟨rfl, rfl⟩
  refine go_exec (rs := [.tmp 2]) (by kernel_rfl) 4000 [.u, .w, .e 1, .sp [20, 19] [.dead] [.w, .e 2, .sp [26, 25] [.dead] [.w, .u, .w, .e 1, .sp [20, 19] [.dead] [.w, .e 2, .sp [26, 25] [.dead] [.w, .u, .w, .e 1, .sp [20, 19] [.dead] [.w, .e 2, .sp [26, 25] [.dead] [.w, .u, .w, .e 1, .sp [20, 19] [.dead] [.w, .e 2, .sp [26, 25] [.dead] [.w, .u, .w, .e 1, .sp [20, 19] [.dead] [.w, .e 2, .sp [26, 25] [.dead] [.w, .u, .w, .e 1, .sp [20, 19] [.dead] [.w, .e 2, .sp [26, 25] [.dead] [.w, .u, .w, .e 1, .sp [20, 19] [.dead] [.w, .e 2, .sp [26, 25] [.dead] [.w, .u, .w, .e 1, .sp [20, 19] [.dead] [.w, .e 2, .sp [26, 25] [.dead] [.w, .u, .w, .e 1, .sp [20, 19] [.dead] [.w, .e 2, .sp [26, 25] [.dead] [.w, .u, .w, .e 0, .w, .e 0]]]]]]]]]]]]]]]]]]] (o := .obl (b_2 = b_2) (.obl ((decide (c.topics < 1)) = (decide (c.topics < 1))) (.br (decide (c.topics < 1)) (.bad) (.obl (b_3 = b_3) (.obl ((decide (c.topics > 8)) = (decide (c.topics > 8))) (.br (decide (c.topics > 8)) (.bad) (.obl (b_2 = b_2) (.obl ((decide (c.small < 4)) = (decide (c.small < 4))) (.br (decide (c.small < 4)) (.bad) (.obl (b_3 = b_3) (.obl ((decide (c.small > 32)) = (decide (c.small > 32))) (.br (decide (c.small > 32)) (.bad) (.obl (b_2 = b_2) (.obl ((decide (c.slots < 1)) = (decide (c.slots < 1))) (.br (decide (c.slots < 1)) (.bad) (.obl (b_3 = b_3) (.obl ((decide (c.slots > 8)) = (decide (c.slots > 8))) (.br (decide (c.slots > 8)) (.bad) (.obl (b_2 = b_2) (.obl ((decide (c.clients < 1)) = (decide (c.clients < 1))) (.br (decide (c.clients < 1)) (.bad) (.obl (b_3 = b_3) (.obl ((decide (c.clients > 8)) = (decide (c.clients > 8))) (.br (decide (c.clients > 8)) (.bad) (.obl (b_2 = b_2) (.obl ((decide (c.retry < 1)) = (decide (c.retry < 1))) (.br (decide (c.retry < 1)) (.bad) (.obl (b_3 = b_3) (.obl ((decide (c.retry > 8)) = (decide (c.retry > 8))) (.br (decide (c.retry > 8)) (.bad) (.obl (b_2 = b_2) (.obl ((decide (c.s0 < 4)) = (decide (c.s0 < 4))) (.br (decide (c.s0 < 4)) (.bad) (.obl (b_3 = b_3) (.obl ((decide (c.s0 > 96)) = (decide (c.s0 > 96))) (.br (decide (c.s0 > 96)) (.bad) (.obl (b_2 = b_2) (.obl ((decide (c.n0 < 0)) = (decide (c.n0 < 0))) (.br (decide (c.n0 < 0)) (.bad) (.obl (b_3 = b_3) (.obl ((decide (c.n0 > 12)) = (decide (c.n0 > 12))) (.br (decide (c.n0 > 12)) (.bad) (.obl (b_2 = b_2) (.obl ((decide (c.s1 < 4)) = (decide (c.s1 < 4))) (.br (decide (c.s1 < 4)) (.bad) (.obl (b_3 = b_3) (.obl ((decide (c.s1 > 96)) = (decide (c.s1 > 96))) (.br (decide (c.s1 > 96)) (.bad) (.obl (b_2 = b_2) (.obl ((decide (c.n1 < 0)) = (decide (c.n1 < 0))) (.br (decide (c.n1 < 0)) (.bad) (.obl (b_3 = b_3) (.obl ((decide (c.n1 > 12)) = (decide (c.n1 > 12))) (.br (decide (c.n1 > 12)) (.bad) (.obl (b_1 = b_1) (.obl (b_1 = b_1) (.ret (.bool (decide (c.s1 > c.s0))) [Efdc04 b_1 c, E0c41e b_2 1 4 1 1 1 4 0 4 0, E0c41e b_3 8 32 8 8 8 96 12 96 12]))))))))))))))))))))))))))))))))))))))))))))))))))))))))) (by kernel_rfl) ?_
  refine ok_obl rfl ?_
  refine ok_obl rfl ?_
  refine ok_br (fun h => absurd (show (decide (c.topics < 1)) = false from (by simp only [Cfg.Ok] at hc; simp; omega)) (by rw [h]; simp)) (fun _ => ?_)
  refine ok_obl rfl ?_
  refine ok_obl rfl ?_
  refine ok_br (fun h => absurd (show (decide (c.topics > 8)) = false from (by simp only [Cfg.Ok] at hc; simp; omega)) (by rw [h]; simp)) (fun _ => ?_)
  refine ok_obl rfl ?_
  refine ok_obl rfl ?_
  refine ok_br (fun h => absurd (show (decide (c.small < 4)) = false from (by simp only [Cfg.Ok] at hc; simp; omega)) (by rw [h]; simp)) (fun _ => ?_)
  refine ok_obl rfl ?_
  refine ok_obl rfl ?_
  refine ok_br (fun h => absurd (show (decide (c.small > 32)) = false from (by simp only [Cfg.Ok] at hc; simp; omega)) (by rw [h]; simp)) (fun _ => ?_)
  refine ok_obl rfl ?_
  refine ok_obl rfl ?_
  refine ok_br (fun h => absurd (show (decide (c.slots < 1)) = false from (by simp only [Cfg.Ok] at hc; simp; omega)) (by rw [h]; simp)) (fun _ => ?_)
  refine ok_obl rfl ?_
  refine ok_obl rfl ?_
  refine ok_br (fun h => absurd (show (decide (c.slots > 8)) = false from (by simp only [Cfg.Ok] at hc; simp; omega)) (by rw [h]; simp)) (fun _ => ?_)
  refine ok_obl rfl ?_
  refine ok_obl rfl ?_
  refine ok_br (fun h => absurd (show (decide (c.clients < 1)) = false from (by simp only [Cfg.Ok] at hc; simp; omega)) (by rw [h]; simp)) (fun _ => ?_)
  refine ok_obl rfl ?_
  refine ok_obl rfl ?_
  refine ok_br (fun h => absurd (show (decide (c.clients > 8)) = false from (by simp only [Cfg.Ok] at hc; simp; omega)) (by rw [h]; simp)) (fun _ => ?_)
  refine ok_obl rfl ?_
  refine ok_obl rfl ?_
  refine ok_br (fun h => absurd (show (decide (c.retry < 1)) = false from (by simp only [Cfg.Ok] at hc; simp; omega)) (by rw [h]; simp)) (fun _ => ?_)
  refine ok_obl rfl ?_
  refine ok_obl rfl ?_
  refine ok_br (fun h => absurd (show (decide (c.retry > 8)) = false from (by simp only [Cfg.Ok] at hc; simp; omega)) (by rw [h]; simp)) (fun _ => ?_)
  refine ok_obl rfl ?_
  refine ok_obl rfl ?_
  refine ok_br (fun h => absurd (show (decide (c.s0 < 4)) = false from (by simp only [Cfg.Ok] at hc; simp; omega)) (by rw [h]; simp)) (fun _ => ?_)
  refine ok_obl rfl ?_
  refine ok_obl rfl ?_
  refine ok_br (fun h => absurd (show (decide (c.s0 > 96)) = false from (by simp only [Cfg.Ok] at hc; simp; omega)) (by rw [h]; simp)) (fun _ => ?_)
  refine ok_obl rfl ?_
  refine ok_obl rfl ?_
  refine ok_br (fun h => absurd (show (decide (c.n0 < 0)) = false from (by simp only [Cfg.Ok] at hc; simp; omega)) (by rw [h]; simp)) (fun _ => ?_)
  refine ok_obl rfl ?_
  refine ok_obl rfl ?_
  refine ok_br (fun h => absurd (show (decide (c.n0 > 12)) = false from (by simp only [Cfg.Ok] at hc; simp; omega)) (by rw [h]; simp)) (fun _ => ?_)
  refine ok_obl rfl ?_
  refine ok_obl rfl ?_
  refine ok_br (fun h => absurd (show (decide (c.s1 < 4)) = false from (by simp only [Cfg.Ok] at hc; simp; omega)) (by rw [h]; simp)) (fun _ => ?_)
  refine ok_obl rfl ?_
  refine ok_obl rfl ?_
  refine ok_br (fun h => absurd (show (decide (c.s1 > 96)) = false from (by simp only [Cfg.Ok] at hc; simp; omega)) (by rw [h]; simp)) (fun _ => ?_)
  refine ok_obl rfl ?_
  refine ok_obl rfl ?_
  refine ok_br (fun h => absurd (show (decide (c.n1 < 0)) = false from (by simp only [Cfg.Ok] at hc; simp; omega)) (by rw [h]; simp)) (fun _ => ?_)
  refine ok_obl rfl ?_
  refine ok_obl rfl ?_
  refine ok_br (fun h => absurd (show (decide (c.n1 > 12)) = false from (by simp only [Cfg.Ok] at hc; simp; omega)) (by rw [h]; simp)) (fun _ => ?_)
  refine ok_obl rfl ?_
  refine ok_obl rfl ?_
  exact ret_ok (post := []) [] (by kernel_rfl) ⟨(congrArg Value.bool (by simp only [Cfg.Ok] at hc; simp; omega)), (by kernel_rfl)⟩


noncomputable def B50 : Code := (Tryz.f50.body).getD .skip

theorem plan_Check (c : Cfg) (hc : c.Ok) :
    Ctr Tryz.prog 50 #[cfgV c] [] (Ret (.nilIface) []) := by
  refine ctr_of (args := [cfgV c]) (fn := Tryz.f50) (body := B50) (nt := 7) Tryz.func50 (by kernel_rfl) (by kernel_rfl) ?_
  intro F
  refine go_exec (rs := [.tmp 2]) (by kernel_rfl) 4000 [.e 0, .z [0, 0, 1] 1 [3]] (o := .new fun b_1 => .obl (b_1 = b_1) (.stop [.o [0, 0, 1] 1, .c [1, 0, 1], .c [1, 1]] [(3, cfgV c)] [Efdc04 b_1 c])) (by kernel_rfl) ?_
  refine ok_new fun b_1 => ?_
  refine ok_obl rfl ?_
  refine ok_stop ?_
  refine go_call (some 4) [] Tryz.call97 (plan_right c (by first | assumption | omega | (simp only [InK] at *; omega))) (by kernel_rfl) ?_
  rintro v post ⟨rfl, rfl⟩
  refine go_exec (rs := [.tmp 2]) (by kernel_rfl) 4000 [] (o := .ret (.nilIface) [Efdc04 b_1 c]) (by kernel_rfl) ?_
  exact ret_ok (post := []) [] (by kernel_rfl) ⟨rfl, (by kernel_rfl)⟩

noncomputable def B36 : Code := (Tryz.f36.body).getD .skip

noncomputable def B55 : Code := (Tryz.f55.body).getD .skip

theorem plan_Blocks (c : Cfg) (hc : c.Ok) :
    Ctr Tryz.prog 55 #[cfgV c] [] (Ret (vI (c.n0 + c.n1)) []) := by
  refine ctr_of (args := [cfgV c]) (fn := Tryz.f55) (body := B55) (nt := 15) Tryz.func55 (by kernel_rfl) (by kernel_rfl) ?_
  intro F
  refine go_exec (rs := [.tmp 2]) (by kernel_rfl) 4000 [.e 0, .z [0, 0, 1] 1 [1, 3]] (o := .new fun b_1 => .obl (b_1 = b_1) (.stop [.o [0, 0, 1] 1, .c [1, 0, 1], .c [1, 1]] [(1, vP b_1), (3, cfgV c)] [Efdc04 b_1 c])) (by kernel_rfl) ?_
  refine ok_new fun b_1 => ?_
  refine ok_obl rfl ?_
  refine ok_stop ?_
  refine go_call (some 4) [] Tryz.call97 (plan_right c (by first | assumption | omega | (simp only [InK] at *; omega))) (by kernel_rfl) ?_
  rintro v post ⟨rfl, rfl⟩
  refine go_exec (rs := [.tmp 2]) (by kernel_rfl) 4000 [.w, .e 0, .w, .e 0, .n] (o := .obl (b_1 = b_1) (.obl (b_1 = b_1) (.obl (InK .i64 (c.n0 + c.n1)) (.ret (vI (c.n0 + c.n1)) [Efdc04 b_1 c])))) (by kernel_rfl) ?_
  refine ok_obl rfl ?_
  refine ok_obl rfl ?_
  refine ok_obl (by simp only [Cfg.Ok, InK] at *; omega) ?_
  exact ret_ok (post := []) [] (by kernel_rfl) ⟨rfl, (by kernel_rfl)⟩

noncomputable def B54 : Code := (Tryz.f54.body).getD .skip

theorem plan_Head (k : Int) (h : 0 ≤ k ∧ k ≤ 1) :
    Ctr Tryz.prog 54 #[vI k] [] (Ret (vI (3 + k)) []) := by
  refine ctr_of (args := [vI k]) (fn := Tryz.f54) (body := B54) (nt := 11) Tryz.func54 (by kernel_rfl) (by kernel_rfl) ?_
  intro F
  refine go_exec (rs := [.tmp 2]) (by kernel_rfl) 4000 [.sp [5, 4] [.dead] [.sp [8, 7] [.dead] [.n]]] (o := .obl ((decide (k < 0)) = (decide (k < 0))) (.br (decide (k < 0)) (.bad) (.obl ((decide (k > 1)) = (decide (k > 1))) (.br (decide (k > 1)) (.bad) (.obl (InK .i64 (3 + k)) (.ret (vI (3 + k)) [])))))) (by kernel_rfl) ?_
  refine ok_obl rfl ?_
  refine ok_br (fun h => absurd (show (decide (k < 0)) = false from (by simp; omega)) (by rw [h]; simp)) (fun _ => ?_)
  refine ok_obl rfl ?_
  refine ok_br (fun h => absurd (show (decide (k > 1)) = false from (by simp; omega)) (by rw [h]; simp)) (fun _ => ?_)
  refine ok_obl (by simp only [InK] at *; omega) ?_
  exact ret_ok (post := []) [] (by kernel_rfl) ⟨rfl, (by kernel_rfl)⟩

noncomputable def B63 : Code := (Tryz.f63.body).getD .skip

theorem clo_Slot (b : Nat) (i : Int) (hr : 0 ≤ i ∧ i ≤ 100) :
    Ctr Tryz.prog 63 #[vP b] [.pts b [vI i] 3] (Ret (vI (5 + i)) [.pts b [vI i] 3]) := by
  refine ctr_of (args := [vP b]) (fn := Tryz.f63) (body := B63) (nt := 4) Tryz.func63 (by kernel_rfl) (by kernel_rfl) ?_
  intro F
  refine go_exec (rs := [.tmp 1]) (by kernel_rfl) 4000 [.e 0, .n] (o := .obl (b = b) (.obl (InK .i64 (5 + i)) (.ret (vI (5 + i)) [.pts b [vI i] 3]))) (by kernel_rfl) ?_
  refine ok_obl rfl ?_
  refine ok_obl (by simp only [InK] at *; omega) ?_
  exact ret_ok (post := [.pts b [vI i] 3]) [0] (by kernel_rfl) ⟨rfl, (by kernel_rfl)⟩

noncomputable def B58 : Code := (Tryz.f58.body).getD .skip

theorem place_Slot (c : Cfg) (i many : Int) (b : Nat) (hc : c.Ok) (hm : many ≤ 100) :
    Ctr Tryz.prog 58 #[cfgV c, vI i, vI many, .func (.func 63) #[] #[vP b]] [.pts b [vI i] 3] (Ret (vI (if (0 : Int) ≤ i ∧ i < many then (5 + i) else -1)) [.pts b [vI i] 3]) := by
  refine ctr_of (args := [cfgV c, vI i, vI many, .func (.func 63) #[] #[vP b]]) (fn := Tryz.f58) (body := B58) (nt := 23) Tryz.func58 (by kernel_rfl) (by kernel_rfl) ?_
  intro F
  refine go_exec (rs := [.tmp 8]) (by kernel_rfl) 4000 [.e 1, .z [0, 0, 1] 1 [1, 2, 3, 9]] (o := .new fun b_1 => .obl (b_1 = b_1) (.stop [.o [0, 0, 1] 1, .c [1, 0, 1], .c [1, 1]] [(1, vI i), (2, vI many), (3, .func (.func 63) #[] #[vP b]), (9, cfgV c)] [.pts b [vI i] 3, Efdc04 b_1 c])) (by kernel_rfl) ?_
  refine ok_new fun b_1 => ?_
  refine ok_obl rfl ?_
  refine ok_stop ?_
  refine go_call (some 10) [] Tryz.call97 (plan_right c (by first | assumption | omega | (simp only [InK] at *; omega))) (by kernel_rfl) ?_
  rintro v post ⟨rfl, rfl⟩
  refine go_exec (rs := [.tmp 8]) (by kernel_rfl) 4000 [.sp [16, 14, 15] [] [.sp [20, 19] [] [.z [0, 1, 1] 1 [21]]]] (o := .obl ((decide (i < 0)) = (decide (i < 0))) (.obl ((decide (i < 0)) = (decide (i < 0))) (.br (decide (i < 0)) (.ret (vI (-1)) [.pts b [vI i] 3, Efdc04 b_1 c]) (.obl ((decide (i ≥ many)) = (decide (i ≥ many))) (.br (decide (i ≥ many)) (.ret (vI (-1)) [.pts b [vI i] 3, Efdc04 b_1 c]) (.stop [.o [0, 1, 1] 1, .c [1, 1, 1]] [(21, .func (.func 63) #[] #[vP b])] [.pts b [vI i] 3, Efdc04 b_1 c])))))) (by kernel_rfl) ?_
  refine ok_obl rfl ?_
  refine ok_obl rfl ?_
  refine ok_br (fun h_2 => ?_) (fun h_2 => ?_)
  · replace h_2 := decT h_2
    exact ret_ok (post := [.pts b [vI i] 3]) [0] (by kernel_rfl) ⟨(congrArg (Value.int .i64) (by (repeat' split) <;> omega)), (by kernel_rfl)⟩
  · replace h_2 := decF h_2
    refine ok_obl rfl ?_
    refine ok_br (fun h_3 => ?_) (fun h_3 => ?_)
    · replace h_3 := decT h_3
      exact ret_ok (post := [.pts b [vI i] 3]) [0] (by kernel_rfl) ⟨(congrArg (Value.int .i64) (by (repeat' split) <;> omega)), (by kernel_rfl)⟩
    · replace h_3 := decF h_3
      refine ok_stop ?_
      refine go_call (some 22) [0] Tryz.call63 (clo_Slot b i (by simp only [Cfg.Ok] at hc; omega)) (by kernel_rfl) ?_
      rintro v post ⟨rfl, rfl⟩
      refine go_exec (rs := [.tmp 8]) (by kernel_rfl) 4000 [] (o := .ret (vI (5 + i)) [Efdc04 b_1 c, .pts b [vI i] 3]) (by kernel_rfl) ?_
      exact ret_ok (post := [.pts b [vI i] 3]) [1] (by kernel_rfl) ⟨(congrArg (Value.int .i64) (by (repeat' split) <;> omega)), (by kernel_rfl)⟩

noncomputable def B24 : Code := (Tryz.f24.body).getD .skip

theorem plan_Slot (c : Cfg) (i : Int) (hc : c.Ok) :
    Ctr Tryz.prog 24 #[cfgV c, vI i] [] (Ret (vI (slotAt c i)) []) := by
  refine ctr_of (args := [cfgV c, vI i]) (fn := Tryz.f24) (body := B24) (nt := 11) Tryz.func24 (by kernel_rfl) (by kernel_rfl) ?_
  intro F
  refine go_exec (rs := [.tmp 4]) (by kernel_rfl) 4000 [.e 0, .e 1, .e 0, .z [0, 1] 5 [5, 6, 8, 9]] (o := .new fun b_1 => .new fun b_2 => .obl (b_1 = b_1) (.obl (b_2 = b_2) (.obl (b_1 = b_1) (.stop [.o [0, 1] 5, .c [1, 1]] [(5, cfgV c), (6, vI i), (8, vI c.slots), (9, .func (.func 63) #[] #[vP b_2])] [Efdc04 b_1 c, .pts b_2 [vI i] 3])))) (by kernel_rfl) ?_
  refine ok_new fun b_1 => ?_
  refine ok_new fun b_2 => ?_
  refine ok_obl rfl ?_
  refine ok_obl rfl ?_
  refine ok_obl rfl ?_
  refine ok_stop ?_
  refine go_call (some 10) [1] Tryz.call58 (place_Slot c i c.slots b_2 (by first | assumption | omega | (simp only [InK] at *; omega)) (by simp only [Cfg.Ok] at hc; omega)) (by kernel_rfl) ?_
  rintro v post ⟨rfl, rfl⟩
  refine go_exec (rs := [.tmp 4]) (by kernel_rfl) 4000 [] (o := .ret (vI (if (0 : Int) ≤ i ∧ i < c.slots then (5 + i) else -1)) [Efdc04 b_1 c, .pts b_2 [vI i] 3]) (by kernel_rfl) ?_
  exact ret_ok (post := []) [] (by kernel_rfl) ⟨rfl, (by kernel_rfl)⟩

noncomputable def B59 : Code := (Tryz.f59.body).getD .skip

theorem clo_Ctl (c : Cfg) (b b2 : Nat) (i : Int) (hc : c.Ok) (hr : 0 ≤ i ∧ i < c.topics) :
    Ctr Tryz.prog 59 #[vP b, vP b2] [Efdc04 b c, .pts b2 [vI i] 3] (Ret (vI ((5 + c.slots + c.topics) + i * (1 + 2 * c.small))) [Efdc04 b c, .pts b2 [vI i] 3]) := by
  refine ctr_of (args := [vP b, vP b2]) (fn := Tryz.f59) (body := B59) (nt := 15) Tryz.func59 (by kernel_rfl) (by kernel_rfl) ?_
  intro F
  refine go_exec (rs := [.tmp 2]) (by kernel_rfl) 4000 [.e 0, .z [0, 1] 1 [1, 6]] (o := .obl (b = b) (.stop [.o [0, 1] 1, .c [1, 1]] [(1, vP b2), (6, cfgV c)] [Efdc04 b c, .pts b2 [vI i] 3])) (by kernel_rfl) ?_
  refine ok_obl rfl ?_
  refine ok_stop ?_
  refine go_call (some 7) [] Tryz.call60 (plan_cells c (by first | assumption | omega | (simp only [InK] at *; omega))) (by kernel_rfl) ?_
  rintro v post ⟨rfl, rfl⟩
  refine go_exec (rs := [.tmp 2]) (by kernel_rfl) 4000 [.e 1, .n, .n] (o := .obl (b2 = b2) (.obl (InK .i64 (i * (1 + 2 * c.small))) (.obl (InK .i64 ((5 + c.slots + c.topics) + (i * (1 + 2 * c.small)))) (.ret (vI ((5 + c.slots + c.topics) + (i * (1 + 2 * c.small)))) [Efdc04 b c, .pts b2 [vI i] 3])))) (by kernel_rfl) ?_
  refine ok_obl rfl ?_
  refine ok_obl (by have hnl := ctl_nl hc ‹_›; simp only [Cfg.Ok, InK] at *; omega) ?_
  refine ok_obl (by have hnl := ctl_nl hc ‹_›; simp only [Cfg.Ok, InK] at *; omega) ?_
  exact ret_ok (post := [Efdc04 b c, .pts b2 [vI i] 3]) [0, 1] (by kernel_rfl) ⟨rfl, (by kernel_rfl)⟩


theorem place_Ctl (c : Cfg) (i many : Int) (b b2 : Nat) (hc : c.Ok) (hm : many = c.topics) :
    Ctr Tryz.prog 58 #[cfgV c, vI i, vI many, .func (.func 59) #[] #[vP b, vP b2]] [Efdc04 b c, .pts b2 [vI i] 3] (Ret (vI (if (0 : Int) ≤ i ∧ i < many then ((5 + c.slots + c.topics) + i * (1 + 2 * c.small)) else -1)) [Efdc04 b c, .pts b2 [vI i] 3]) := by
  refine ctr_of (args := [cfgV c, vI i, vI many, .func (.func 59) #[] #[vP b, vP b2]]) (fn := Tryz.f58) (body := B58) (nt := 23) Tryz.func58 (by kernel_rfl) (by kernel_rfl) ?_
  intro F
  refine go_exec (rs := [.tmp 8]) (by kernel_rfl) 4000 [.e 2, .z [0, 0, 1] 1 [1, 2, 3, 9]] (o := .new fun b_1 => .obl (b_1 = b_1) (.stop [.o [0, 0, 1] 1, .c [1, 0, 1], .c [1, 1]] [(1, vI i), (2, vI many), (3, .func (.func 59) #[] #[vP b, vP b2]), (9, cfgV c)] [Efdc04 b c, .pts b2 [vI i] 3, Efdc04 b_1 c])) (by kernel_rfl) ?_
  refine ok_new fun b_1 => ?_
  refine ok_obl rfl ?_
  refine ok_stop ?_
  refine go_call (some 10) [] Tryz.call97 (plan_right c (by first | assumption | omega | (simp only [InK] at *; omega))) (by kernel_rfl) ?_
  rintro v post ⟨rfl, rfl⟩
  refine go_exec (rs := [.tmp 8]) (by kernel_rfl) 4000 [.sp [16, 14, 15] [] [.sp [20, 19] [] [.z [0, 1, 1] 1 [21]]]] (o := .obl ((decide (i < 0)) = (decide (i < 0))) (.obl ((decide (i < 0)) = (decide (i < 0))) (.br (decide (i < 0)) (.ret (vI (-1)) [Efdc04 b c, .pts b2 [vI i] 3, Efdc04 b_1 c]) (.obl ((decide (i ≥ many)) = (decide (i ≥ many))) (.br (decide (i ≥ many)) (.ret (vI (-1)) [Efdc04 b c, .pts b2 [vI i] 3, Efdc04 b_1 c]) (.stop [.o [0, 1, 1] 1, .c [1, 1, 1]] [(21, .func (.func 59) #[] #[vP b, vP b2])] [Efdc04 b c, .pts b2 [vI i] 3, Efdc04 b_1 c])))))) (by kernel_rfl) ?_
  refine ok_obl rfl ?_
  refine ok_obl rfl ?_
  refine ok_br (fun h_2 => ?_) (fun h_2 => ?_)
  · replace h_2 := decT h_2
    exact ret_ok (post := [Efdc04 b c, .pts b2 [vI i] 3]) [0, 1] (by kernel_rfl) ⟨(congrArg (Value.int .i64) (by (repeat' split) <;> omega)), (by kernel_rfl)⟩
  · replace h_2 := decF h_2
    refine ok_obl rfl ?_
    refine ok_br (fun h_3 => ?_) (fun h_3 => ?_)
    · replace h_3 := decT h_3
      exact ret_ok (post := [Efdc04 b c, .pts b2 [vI i] 3]) [0, 1] (by kernel_rfl) ⟨(congrArg (Value.int .i64) (by (repeat' split) <;> omega)), (by kernel_rfl)⟩
    · replace h_3 := decF h_3
      refine ok_stop ?_
      refine go_call (some 22) [0, 1] Tryz.call59 (clo_Ctl c b b2 i (by first | assumption | omega | (simp only [InK] at *; omega)) (by simp only [Cfg.Ok] at hc; omega)) (by kernel_rfl) ?_
      rintro v post ⟨rfl, rfl⟩
      refine go_exec (rs := [.tmp 8]) (by kernel_rfl) 4000 [] (o := .ret (vI ((5 + c.slots + c.topics) + i * (1 + 2 * c.small))) [Efdc04 b_1 c, Efdc04 b c, .pts b2 [vI i] 3]) (by kernel_rfl) ?_
      exact ret_ok (post := [Efdc04 b c, .pts b2 [vI i] 3]) [1, 2] (by kernel_rfl) ⟨(congrArg (Value.int .i64) (by (repeat' split) <;> omega)), (by kernel_rfl)⟩

noncomputable def B21 : Code := (Tryz.f21.body).getD .skip

theorem plan_Control (c : Cfg) (i : Int) (hc : c.Ok) :
    Ctr Tryz.prog 21 #[cfgV c, vI i] [] (Ret (vI (ctlAt c i)) []) := by
  refine ctr_of (args := [cfgV c, vI i]) (fn := Tryz.f21) (body := B21) (nt := 11) Tryz.func21 (by kernel_rfl) (by kernel_rfl) ?_
  intro F
  refine go_exec (rs := [.tmp 4]) (by kernel_rfl) 4000 [.e 0, .e 1, .e 0, .z [0, 1] 5 [5, 6, 8, 9]] (o := .new fun b_1 => .new fun b_2 => .obl (b_1 = b_1) (.obl (b_2 = b_2) (.obl (b_1 = b_1) (.stop [.o [0, 1] 5, .c [1, 1]] [(5, cfgV c), (6, vI i), (8, vI c.topics), (9, .func (.func 59) #[] #[vP b_1, vP b_2])] [Efdc04 b_1 c, .pts b_2 [vI i] 3])))) (by kernel_rfl) ?_
  refine ok_new fun b_1 => ?_
  refine ok_new fun b_2 => ?_
  refine ok_obl rfl ?_
  refine ok_obl rfl ?_
  refine ok_obl rfl ?_
  refine ok_stop ?_
  refine go_call (some 10) [0, 1] Tryz.call58 (place_Ctl c i c.topics b_1 b_2 (by first | assumption | omega | (simp only [InK] at *; omega)) rfl) (by kernel_rfl) ?_
  rintro v post ⟨rfl, rfl⟩
  refine go_exec (rs := [.tmp 4]) (by kernel_rfl) 4000 [] (o := .ret (vI (if (0 : Int) ≤ i ∧ i < c.topics then ((5 + c.slots + c.topics) + i * (1 + 2 * c.small)) else -1)) [Efdc04 b_1 c, .pts b_2 [vI i] 3]) (by kernel_rfl) ?_
  exact ret_ok (post := []) [] (by kernel_rfl) ⟨rfl, (by kernel_rfl)⟩

noncomputable def B95 : Code := (Tryz.f95.body).getD .skip

theorem clo_Class (c : Cfg) (b b2 : Nat) (k : Int)  :
    Ctr Tryz.prog 95 #[vP b, vP b2] [.pts b [vI k] 3, Efdc04 b2 c] (Ret (vI (if k ≤ c.n0 then 0 else 1)) [.pts b [vI k] 3, Efdc04 b2 c]) := by
  refine ctr_of (args := [vP b, vP b2]) (fn := Tryz.f95) (body := B95) (nt := 9) Tryz.func95 (by kernel_rfl) (by kernel_rfl) ?_
  intro F
  refine go_exec (rs := [.tmp 2]) (by kernel_rfl) 4000 [.e 0, .w, .e 1, .sp [8] [] []] (o := .obl (b = b) (.obl (b2 = b2) (.br (decide (k ≤ c.n0)) (.ret (vI 0) [.pts b [vI k] 3, Efdc04 b2 c]) (.ret (vI 1) [.pts b [vI k] 3, Efdc04 b2 c])))) (by kernel_rfl) ?_
  refine ok_obl rfl ?_
  refine ok_obl rfl ?_
  refine ok_br (fun h_1 => ?_) (fun h_1 => ?_)
  · replace h_1 := decT h_1
    exact ret_ok (post := [.pts b [vI k] 3, Efdc04 b2 c]) [0, 1] (by kernel_rfl) ⟨(congrArg (Value.int .i64) (by (repeat' split) <;> omega)), (by kernel_rfl)⟩
  · replace h_1 := decF h_1
    exact ret_ok (post := [.pts b [vI k] 3, Efdc04 b2 c]) [0, 1] (by kernel_rfl) ⟨(congrArg (Value.int .i64) (by (repeat' split) <;> omega)), (by kernel_rfl)⟩


theorem place_Class (c : Cfg) (i many : Int) (b b2 : Nat) (k : Int) (hc : c.Ok) :
    Ctr Tryz.prog 58 #[cfgV c, vI i, vI many, .func (.func 95) #[] #[vP b, vP b2]] [.pts b [vI k] 3, Efdc04 b2 c] (Ret (vI (if (0 : Int) ≤ i ∧ i < many then (if k ≤ c.n0 then 0 else 1) else -1)) [.pts b [vI k] 3, Efdc04 b2 c]) := by
  refine ctr_of (args := [cfgV c, vI i, vI many, .func (.func 95) #[] #[vP b, vP b2]]) (fn := Tryz.f58) (body := B58) (nt := 23) Tryz.func58 (by kernel_rfl) (by kernel_rfl) ?_
  intro F
  refine go_exec (rs := [.tmp 8]) (by kernel_rfl) 4000 [.e 2, .z [0, 0, 1] 1 [1, 2, 3, 9]] (o := .new fun b_1 => .obl (b_1 = b_1) (.stop [.o [0, 0, 1] 1, .c [1, 0, 1], .c [1, 1]] [(1, vI i), (2, vI many), (3, .func (.func 95) #[] #[vP b, vP b2]), (9, cfgV c)] [.pts b [vI k] 3, Efdc04 b2 c, Efdc04 b_1 c])) (by kernel_rfl) ?_
  refine ok_new fun b_1 => ?_
  refine ok_obl rfl ?_
  refine ok_stop ?_
  refine go_call (some 10) [] Tryz.call97 (plan_right c (by first | assumption | omega | (simp only [InK] at *; omega))) (by kernel_rfl) ?_
  rintro v post ⟨rfl, rfl⟩
  refine go_exec (rs := [.tmp 8]) (by kernel_rfl) 4000 [.sp [16, 14, 15] [] [.sp [20, 19] [] [.z [0, 1, 1] 1 [21]]]] (o := .obl ((decide (i < 0)) = (decide (i < 0))) (.obl ((decide (i < 0)) = (decide (i < 0))) (.br (decide (i < 0)) (.ret (vI (-1)) [.pts b [vI k] 3, Efdc04 b2 c, Efdc04 b_1 c]) (.obl ((decide (i ≥ many)) = (decide (i ≥ many))) (.br (decide (i ≥ many)) (.ret (vI (-1)) [.pts b [vI k] 3, Efdc04 b2 c, Efdc04 b_1 c]) (.stop [.o [0, 1, 1] 1, .c [1, 1, 1]] [(21, .func (.func 95) #[] #[vP b, vP b2])] [.pts b [vI k] 3, Efdc04 b2 c, Efdc04 b_1 c])))))) (by kernel_rfl) ?_
  refine ok_obl rfl ?_
  refine ok_obl rfl ?_
  refine ok_br (fun h_2 => ?_) (fun h_2 => ?_)
  · replace h_2 := decT h_2
    exact ret_ok (post := [.pts b [vI k] 3, Efdc04 b2 c]) [0, 1] (by kernel_rfl) ⟨(congrArg (Value.int .i64) (by (repeat' split) <;> omega)), (by kernel_rfl)⟩
  · replace h_2 := decF h_2
    refine ok_obl rfl ?_
    refine ok_br (fun h_3 => ?_) (fun h_3 => ?_)
    · replace h_3 := decT h_3
      exact ret_ok (post := [.pts b [vI k] 3, Efdc04 b2 c]) [0, 1] (by kernel_rfl) ⟨(congrArg (Value.int .i64) (by (repeat' split) <;> omega)), (by kernel_rfl)⟩
    · replace h_3 := decF h_3
      refine ok_stop ?_
      refine go_call (some 22) [0, 1] Tryz.call95 (clo_Class c b b2 k) (by kernel_rfl) ?_
      rintro v post ⟨rfl, rfl⟩
      refine go_exec (rs := [.tmp 8]) (by kernel_rfl) 4000 [] (o := .ret (vI (if k ≤ c.n0 then 0 else 1)) [Efdc04 b_1 c, .pts b [vI k] 3, Efdc04 b2 c]) (by kernel_rfl) ?_
      exact ret_ok (post := [.pts b [vI k] 3, Efdc04 b2 c]) [1, 2] (by kernel_rfl) ⟨(congrArg (Value.int .i64) (by (repeat' split) <;> omega)), (by kernel_rfl)⟩

noncomputable def B48 : Code := (Tryz.f48.body).getD .skip

theorem plan_Class (c : Cfg) (k : Int) (hc : c.Ok) (hk : InK .i64 (k - 1)) :
    Ctr Tryz.prog 48 #[cfgV c, vI k] [] (Ret (vI (clsOf c k)) []) := by
  refine ctr_of (args := [cfgV c, vI k]) (fn := Tryz.f48) (body := B48) (nt := 12) Tryz.func48 (by kernel_rfl) (by kernel_rfl) ?_
  intro F
  refine go_exec (rs := [.tmp 4]) (by kernel_rfl) 4000 [.z [0, 1] 0 [2, 3]] (o := .new fun b_1 => .new fun b_2 => .stop [.c [0, 1], .c [1, 1]] [(2, vP b_1), (3, vP b_2)] [Efdc04 b_1 c, .pts b_2 [vI k] 3]) (by kernel_rfl) ?_
  refine ok_new fun b_1 => ?_
  refine ok_new fun b_2 => ?_
  refine ok_stop ?_
  refine go_quiet (tm' := [(4, vI (if (0 : Int) ≤ (k - 1) ∧ (k - 1) < (c.n0 + c.n1) then (if k ≤ c.n0 then 0 else 1) else -1))]) (ps := [b_1 = b_1, b_2 = b_2, InK .i64 (k - 1), b_1 = b_1]) (cs := [(55, #[cfgV c], vI (c.n0 + c.n1)), (58, #[cfgV c, vI (k - 1), vI (c.n0 + c.n1), .func (.func 95) #[] #[vP b_2, vP b_1]], vI (if (0 : Int) ≤ (k - 1) ∧ (k - 1) < (c.n0 + c.n1) then (if k ≤ c.n0 then 0 else 1) else -1))]) [(0, .h (.e 0)), (1, .h (.e 1)), (2, .h (.n)), (3, .h (.e 0)), (4, .q (vI (c.n0 + c.n1))), (5, .h .w), (6, .q (vI (if (0 : Int) ≤ (k - 1) ∧ (k - 1) < (c.n0 + c.n1) then (if k ≤ c.n0 then 0 else 1) else -1))), (7, .h .w)] [4] (by kernel_rfl) (by kernel_rfl) ⟨rfl, rfl, (by simp only [InK] at *; omega), rfl, trivial⟩ ⟨⟨Tryz.call55, quiet_of [] (plan_Blocks c (by first | assumption | omega | (simp only [InK] at *; omega))) (by kernel_rfl) (by rintro v post ⟨rfl, rfl⟩; exact ⟨rfl, rfl⟩)⟩, ⟨Tryz.call58, quiet_of [1, 0] (place_Class c (k - 1) (c.n0 + c.n1) b_2 b_1 k (by first | assumption | omega | (simp only [InK] at *; omega))) (by kernel_rfl) (by rintro v post ⟨rfl, rfl⟩; exact ⟨rfl, rfl⟩)⟩, trivial⟩ ?_
  refine go_exec (rs := [.tmp 4]) (by kernel_rfl) 4000 [] (o := .ret (vI (if (0 : Int) ≤ (k - 1) ∧ (k - 1) < (c.n0 + c.n1) then (if k ≤ c.n0 then 0 else 1) else -1)) [Efdc04 b_1 c, .pts b_2 [vI k] 3]) (by kernel_rfl) ?_
  exact ret_ok (post := []) [] (by kernel_rfl) ⟨rfl, (by kernel_rfl)⟩

noncomputable def B79 : Code := (Tryz.f79.body).getD .skip

theorem clo_Block (c : Cfg) (b b2 : Nat) (k : Int) (hc : c.Ok) (hr : 0 ≤ k - 1 ∧ k - 1 < c.n0 + c.n1) :
    Ctr Tryz.prog 79 #[vP b, vP b2] [Efdc04 b c, .pts b2 [vI k] 3] (Ret (vI (5 + c.slots + c.topics + c.topics * (1 + 2 * c.small) + bMin (k - 1) c.n0 * (1 + c.s0) + (k - 1 - bMin (k - 1) c.n0) * (1 + c.s1))) [Efdc04 b c, .pts b2 [vI k] 3]) := by
  refine ctr_of (args := [vP b, vP b2]) (fn := Tryz.f79) (body := B79) (nt := 44) Tryz.func79 (by kernel_rfl) (by kernel_rfl) ?_
  intro F
  refine go_exec (rs := [.tmp 2]) (by kernel_rfl) 4000 [.e 0, .z [0, 1] 1 [0, 1, 7]] (o := .obl (b = b) (.stop [.o [0, 1] 1, .c [1, 1]] [(0, vP b), (1, vP b2), (7, cfgV c)] [Efdc04 b c, .pts b2 [vI k] 3])) (by kernel_rfl) ?_
  refine ok_obl rfl ?_
  refine ok_stop ?_
  refine go_call (some 8) [] Tryz.call60 (plan_cells c (by first | assumption | omega | (simp only [InK] at *; omega))) (by kernel_rfl) ?_
  rintro v post ⟨rfl, rfl⟩
  refine go_exec (rs := [.tmp 2]) (by kernel_rfl) 4000 [.e 0, .n, .n, .e 1, .n, .w, .e 0, .w, .e 0, .n, .n, .n, .e 1, .n, .n, .w, .e 0, .n, .n, .n] (o := .obl (b = b) (.obl (InK .i64 (c.topics * (1 + 2 * c.small))) (.obl (InK .i64 ((5 + c.slots + c.topics) + (c.topics * (1 + 2 * c.small)))) (.obl (b2 = b2) (.obl (InK .i64 (k - 1)) (.obl (b = b) (.obl (b = b) (.obl (InK .i64 (1 + c.s0)) (.obl (InK .i64 ((bMin (k - 1) c.n0) * (1 + c.s0))) (.obl (InK .i64 (((5 + c.slots + c.topics) + (c.topics * (1 + 2 * c.small))) + ((bMin (k - 1) c.n0) * (1 + c.s0)))) (.obl (b2 = b2) (.obl (InK .i64 (k - 1)) (.obl (InK .i64 ((k - 1) - (bMin (k - 1) c.n0))) (.obl (b = b) (.obl (InK .i64 (1 + c.s1)) (.obl (InK .i64 (((k - 1) - (bMin (k - 1) c.n0)) * (1 + c.s1))) (.obl (InK .i64 ((((5 + c.slots + c.topics) + (c.topics * (1 + 2 * c.small))) + ((bMin (k - 1) c.n0) * (1 + c.s0))) + (((k - 1) - (bMin (k - 1) c.n0)) * (1 + c.s1)))) (.ret (vI ((((5 + c.slots + c.topics) + (c.topics * (1 + 2 * c.small))) + ((bMin (k - 1) c.n0) * (1 + c.s0))) + (((k - 1) - (bMin (k - 1) c.n0)) * (1 + c.s1)))) [Efdc04 b c, .pts b2 [vI k] 3])))))))))))))))))) (by kernel_rfl) ?_
  refine ok_obl rfl ?_
  refine ok_obl (by have hnl := blk_nl hc hr; simp only [Cfg.Ok, InK] at *; omega) ?_
  refine ok_obl (by have hnl := blk_nl hc hr; simp only [Cfg.Ok, InK] at *; omega) ?_
  refine ok_obl rfl ?_
  refine ok_obl (by have hnl := blk_nl hc hr; simp only [Cfg.Ok, InK] at *; omega) ?_
  refine ok_obl rfl ?_
  refine ok_obl rfl ?_
  refine ok_obl (by have hnl := blk_nl hc hr; simp only [Cfg.Ok, InK] at *; omega) ?_
  refine ok_obl (by have hnl := blk_nl hc hr; simp only [Cfg.Ok, InK] at *; omega) ?_
  refine ok_obl (by have hnl := blk_nl hc hr; simp only [Cfg.Ok, InK] at *; omega) ?_
  refine ok_obl rfl ?_
  refine ok_obl (by have hnl := blk_nl hc hr; simp only [Cfg.Ok, InK] at *; omega) ?_
  refine ok_obl (by have hnl := blk_nl hc hr; simp only [Cfg.Ok, InK] at *; omega) ?_
  refine ok_obl rfl ?_
  refine ok_obl (by have hnl := blk_nl hc hr; simp only [Cfg.Ok, InK] at *; omega) ?_
  refine ok_obl (by have hnl := blk_nl hc hr; simp only [Cfg.Ok, InK] at *; omega) ?_
  refine ok_obl (by have hnl := blk_nl hc hr; simp only [Cfg.Ok, InK] at *; omega) ?_
  exact ret_ok (post := [Efdc04 b c, .pts b2 [vI k] 3]) [0, 1] (by kernel_rfl) ⟨rfl, (by kernel_rfl)⟩


theorem place_Block (c : Cfg) (i many : Int) (b b2 : Nat) (k : Int) (hc : c.Ok) (hm : many = c.n0 + c.n1) (hi : i = k - 1) :
    Ctr Tryz.prog 58 #[cfgV c, vI i, vI many, .func (.func 79) #[] #[vP b, vP b2]] [Efdc04 b c, .pts b2 [vI k] 3] (Ret (vI (if (0 : Int) ≤ i ∧ i < many then (5 + c.slots + c.topics + c.topics * (1 + 2 * c.small) + bMin (k - 1) c.n0 * (1 + c.s0) + (k - 1 - bMin (k - 1) c.n0) * (1 + c.s1)) else -1)) [Efdc04 b c, .pts b2 [vI k] 3]) := by
  refine ctr_of (args := [cfgV c, vI i, vI many, .func (.func 79) #[] #[vP b, vP b2]]) (fn := Tryz.f58) (body := B58) (nt := 23) Tryz.func58 (by kernel_rfl) (by kernel_rfl) ?_
  intro F
  refine go_exec (rs := [.tmp 8]) (by kernel_rfl) 4000 [.e 2, .z [0, 0, 1] 1 [1, 2, 3, 9]] (o := .new fun b_1 => .obl (b_1 = b_1) (.stop [.o [0, 0, 1] 1, .c [1, 0, 1], .c [1, 1]] [(1, vI i), (2, vI many), (3, .func (.func 79) #[] #[vP b, vP b2]), (9, cfgV c)] [Efdc04 b c, .pts b2 [vI k] 3, Efdc04 b_1 c])) (by kernel_rfl) ?_
  refine ok_new fun b_1 => ?_
  refine ok_obl rfl ?_
  refine ok_stop ?_
  refine go_call (some 10) [] Tryz.call97 (plan_right c (by first | assumption | omega | (simp only [InK] at *; omega))) (by kernel_rfl) ?_
  rintro v post ⟨rfl, rfl⟩
  refine go_exec (rs := [.tmp 8]) (by kernel_rfl) 4000 [.sp [16, 14, 15] [] [.sp [20, 19] [] [.z [0, 1, 1] 1 [21]]]] (o := .obl ((decide (i < 0)) = (decide (i < 0))) (.obl ((decide (i < 0)) = (decide (i < 0))) (.br (decide (i < 0)) (.ret (vI (-1)) [Efdc04 b c, .pts b2 [vI k] 3, Efdc04 b_1 c]) (.obl ((decide (i ≥ many)) = (decide (i ≥ many))) (.br (decide (i ≥ many)) (.ret (vI (-1)) [Efdc04 b c, .pts b2 [vI k] 3, Efdc04 b_1 c]) (.stop [.o [0, 1, 1] 1, .c [1, 1, 1]] [(21, .func (.func 79) #[] #[vP b, vP b2])] [Efdc04 b c, .pts b2 [vI k] 3, Efdc04 b_1 c])))))) (by kernel_rfl) ?_
  refine ok_obl rfl ?_
  refine ok_obl rfl ?_
  refine ok_br (fun h_2 => ?_) (fun h_2 => ?_)
  · replace h_2 := decT h_2
    exact ret_ok (post := [Efdc04 b c, .pts b2 [vI k] 3]) [0, 1] (by kernel_rfl) ⟨(congrArg (Value.int .i64) (by (repeat' split) <;> omega)), (by kernel_rfl)⟩
  · replace h_2 := decF h_2
    refine ok_obl rfl ?_
    refine ok_br (fun h_3 => ?_) (fun h_3 => ?_)
    · replace h_3 := decT h_3
      exact ret_ok (post := [Efdc04 b c, .pts b2 [vI k] 3]) [0, 1] (by kernel_rfl) ⟨(congrArg (Value.int .i64) (by (repeat' split) <;> omega)), (by kernel_rfl)⟩
    · replace h_3 := decF h_3
      refine ok_stop ?_
      refine go_call (some 22) [0, 1] Tryz.call79 (clo_Block c b b2 k (by first | assumption | omega | (simp only [InK] at *; omega)) (by simp only [Cfg.Ok] at hc; omega)) (by kernel_rfl) ?_
      rintro v post ⟨rfl, rfl⟩
      refine go_exec (rs := [.tmp 8]) (by kernel_rfl) 4000 [] (o := .ret (vI (5 + c.slots + c.topics + c.topics * (1 + 2 * c.small) + bMin (k - 1) c.n0 * (1 + c.s0) + (k - 1 - bMin (k - 1) c.n0) * (1 + c.s1))) [Efdc04 b_1 c, Efdc04 b c, .pts b2 [vI k] 3]) (by kernel_rfl) ?_
      exact ret_ok (post := [Efdc04 b c, .pts b2 [vI k] 3]) [1, 2] (by kernel_rfl) ⟨(congrArg (Value.int .i64) (by (repeat' split) <;> omega)), (by kernel_rfl)⟩

noncomputable def B37 : Code := (Tryz.f37.body).getD .skip

theorem plan_Block (c : Cfg) (k : Int) (hc : c.Ok) (hk : InK .i64 (k - 1)) :
    Ctr Tryz.prog 37 #[cfgV c, vI k] [] (Ret (vI (blockAt c k)) []) := by
  refine ctr_of (args := [cfgV c, vI k]) (fn := Tryz.f37) (body := B37) (nt := 12) Tryz.func37 (by kernel_rfl) (by kernel_rfl) ?_
  intro F
  refine go_exec (rs := [.tmp 4]) (by kernel_rfl) 4000 [.z [0, 1] 0 [2, 3]] (o := .new fun b_1 => .new fun b_2 => .stop [.c [0, 1], .c [1, 1]] [(2, vP b_1), (3, vP b_2)] [Efdc04 b_1 c, .pts b_2 [vI k] 3]) (by kernel_rfl) ?_
  refine ok_new fun b_1 => ?_
  refine ok_new fun b_2 => ?_
  refine ok_stop ?_
  refine go_quiet (tm' := [(4, vI (if (0 : Int) ≤ (k - 1) ∧ (k - 1) < (c.n0 + c.n1) then (5 + c.slots + c.topics + c.topics * (1 + 2 * c.small) + bMin (k - 1) c.n0 * (1 + c.s0) + (k - 1 - bMin (k - 1) c.n0) * (1 + c.s1)) else -1))]) (ps := [b_1 = b_1, b_2 = b_2, InK .i64 (k - 1), b_1 = b_1]) (cs := [(55, #[cfgV c], vI (c.n0 + c.n1)), (58, #[cfgV c, vI (k - 1), vI (c.n0 + c.n1), .func (.func 79) #[] #[vP b_1, vP b_2]], vI (if (0 : Int) ≤ (k - 1) ∧ (k - 1) < (c.n0 + c.n1) then (5 + c.slots + c.topics + c.topics * (1 + 2 * c.small) + bMin (k - 1) c.n0 * (1 + c.s0) + (k - 1 - bMin (k - 1) c.n0) * (1 + c.s1)) else -1))]) [(0, .h (.e 0)), (1, .h (.e 1)), (2, .h (.n)), (3, .h (.e 0)), (4, .q (vI (c.n0 + c.n1))), (5, .h .w), (6, .q (vI (if (0 : Int) ≤ (k - 1) ∧ (k - 1) < (c.n0 + c.n1) then (5 + c.slots + c.topics + c.topics * (1 + 2 * c.small) + bMin (k - 1) c.n0 * (1 + c.s0) + (k - 1 - bMin (k - 1) c.n0) * (1 + c.s1)) else -1))), (7, .h .w)] [4] (by kernel_rfl) (by kernel_rfl) ⟨rfl, rfl, (by simp only [InK] at *; omega), rfl, trivial⟩ ⟨⟨Tryz.call55, quiet_of [] (plan_Blocks c (by first | assumption | omega | (simp only [InK] at *; omega))) (by kernel_rfl) (by rintro v post ⟨rfl, rfl⟩; exact ⟨rfl, rfl⟩)⟩, ⟨Tryz.call58, quiet_of [0, 1] (place_Block c (k - 1) (c.n0 + c.n1) b_1 b_2 k (by first | assumption | omega | (simp only [InK] at *; omega)) rfl rfl) (by kernel_rfl) (by rintro v post ⟨rfl, rfl⟩; exact ⟨rfl, rfl⟩)⟩, trivial⟩ ?_
  refine go_exec (rs := [.tmp 4]) (by kernel_rfl) 4000 [] (o := .ret (vI (if (0 : Int) ≤ (k - 1) ∧ (k - 1) < (c.n0 + c.n1) then (5 + c.slots + c.topics + c.topics * (1 + 2 * c.small) + bMin (k - 1) c.n0 * (1 + c.s0) + (k - 1 - bMin (k - 1) c.n0) * (1 + c.s1)) else -1)) [Efdc04 b_1 c, .pts b_2 [vI k] 3]) (by kernel_rfl) ?_
  exact ret_ok (post := []) [] (by kernel_rfl) ⟨rfl, (by kernel_rfl)⟩

noncomputable def B85 : Code := (Tryz.f85.body).getD .skip

theorem clo_Load (aw : Option Addr) (cw : Nat) (ws : List Int) (j b : Nat) (v0 : Int) (hj : j < ws.length) :
    Ctr Tryz.prog 85 #[slAt aw j 1, vP b] [E89d8b aw cw ws, .pts b [vU v0] 41] (Ret (.bool false) [E89d8b aw cw ws, .pts b [vU (ws.getD j 0)] 41]) := by
  refine ctr_of (args := [slAt aw j 1, vP b]) (fn := Tryz.f85) (body := B85) (nt := 7) Tryz.func85 (by kernel_rfl) (by kernel_rfl) ?_
  intro F
  refine go_exec (rs := [.tmp 3]) (by kernel_rfl) 4000 [.j 0 j, .e 1] (o := .obl (slAt aw j 1 = slAt aw j 1) (.obl (j < ws.length) (.obl (b = b) (.ret (.bool false) [E89d8b aw cw ws, .pts b [vU (ws.getD j 0)] 41])))) (by kernel_rfl) ?_
  refine ok_obl rfl ?_
  refine ok_obl (by first | omega | (simp; done) | (simp; omega)) ?_
  refine ok_obl rfl ?_
  exact ret_ok (post := [E89d8b aw cw ws, .pts b [vU (ws.getD j 0)] 41]) [0, 1] (by kernel_rfl) ⟨rfl, (by kernel_rfl)⟩

noncomputable def B57 : Code := (Tryz.f57.body).getD .skip

theorem clo_Store (aw : Option Addr) (cw : Nat) (ws : List Int) (j b : Nat) (v0 : Int) (hj : j < ws.length) :
    Ctr Tryz.prog 57 #[slAt aw j 1, vP b] [E89d8b aw cw ws, .pts b [vU v0] 41] (Ret (.bool true) [E89d8b aw cw (ws.set j v0), .pts b [vU v0] 41]) := by
  refine ctr_of (args := [slAt aw j 1, vP b]) (fn := Tryz.f57) (body := B57) (nt := 7) Tryz.func57 (by kernel_rfl) (by kernel_rfl) ?_
  intro F
  refine go_exec (rs := [.tmp 3]) (by kernel_rfl) 4000 [.e 1, .j 0 j] (o := .obl (b = b) (.obl (slAt aw j 1 = slAt aw j 1) (.obl (j < ws.length) (.ex fun x_1 : Int => .obl ([vU v0] = (encI .u64) x_1) (.ret (.bool true) [E89d8b aw cw (ws.set j x_1), .pts b [vU v0] 41]))))) (by kernel_rfl) ?_
  refine ok_obl rfl ?_
  refine ok_obl rfl ?_
  refine ok_obl (by first | omega | (simp; done) | (simp; omega)) ?_
  refine ok_ex (v0 : Int) ?_
  refine ok_obl rfl ?_
  exact ret_ok (post := [E89d8b aw cw (ws.set j v0), .pts b [vU v0] 41]) [0, 1] (by kernel_rfl) ⟨rfl, (by kernel_rfl)⟩

noncomputable def B100 : Code := (Tryz.f100.body).getD .skip

theorem atomic_Add (ba : Nat) (sa : Option Addr) (sn sc : Nat) (s k1 k2 k3 : Int) (k4 : Bool) (d : Int) (h : InK .i64 (s + d)) :
    Ctr Tryz.prog 100 #[.pointer (some ⟨ba, 1, none⟩), vI d] [Ee9d7e ba sa sn sc s k1 k2 k3 k4] (Ret (vI (s + d)) [Ee9d7e ba sa sn sc (s + d) k1 k2 k3 k4]) := by
  refine ctr_of (args := [.pointer (some ⟨ba, 1, none⟩), vI d]) (fn := Tryz.f100) (body := B100) (nt := 10) Tryz.func100 (by kernel_rfl) (by kernel_rfl) ?_
  intro F
  refine go_exec (rs := [.tmp 4]) (by kernel_rfl) 4000 [.z [0, 1] 4 [7, 8]] (o := .stop [.o [0, 1] 4, .c [1, 1]] [(7, .pointer (some ⟨ba, 1, none⟩)), (8, vI d)] [Ee9d7e ba sa sn sc s k1 k2 k3 k4]) (by kernel_rfl) ?_
  refine ok_stop ?_
  refine go_extern (some 9) (f := 130) (args := #[.pointer (some ⟨ba, 1, none⟩), vI d]) (by kernel_rfl) (ext_add Tryz.func130 (by kernel_rfl) (by kernel_rfl) (by kernel_rfl) .i64 (by kernel_rfl)  (L := [Ee9d7e ba sa sn sc s k1 k2 k3 k4]) (i := 0) (b := ba) (off := 1) (cs := [.slice sa sn sc, vI s, vI k1, vI k2, vU k3, .bool k4, .nilIface]) (t := 131) (x := s) (y := d) (by kernel_rfl) (by kernel_rfl) (by simp only [InK] at *; omega)) ?_
  rintro v L2 ⟨rfl, rfl⟩
  refine go_exec (rs := [.tmp 4]) (by kernel_rfl) 4000 [] (o := .ret (vI (s + d)) [Ee9d7e ba sa sn sc (s + d) k1 k2 k3 k4]) (by kernel_rfl) ?_
  exact ret_ok (post := [Ee9d7e ba sa sn sc (s + d) k1 k2 k3 k4]) [0] (by kernel_rfl) ⟨rfl, (by kernel_rfl)⟩

noncomputable def B78 : Code := (Tryz.f78.body).getD .skip

theorem atomic_Load (ba : Nat) (sa : Option Addr) (sn sc : Nat) (s k1 k2 k3 : Int) (k4 : Bool)  :
    Ctr Tryz.prog 78 #[.pointer (some ⟨ba, 1, none⟩)] [Ee9d7e ba sa sn sc s k1 k2 k3 k4] (Ret (vI s) [Ee9d7e ba sa sn sc s k1 k2 k3 k4]) := by
  refine ctr_of (args := [.pointer (some ⟨ba, 1, none⟩)]) (fn := Tryz.f78) (body := B78) (nt := 7) Tryz.func78 (by kernel_rfl) (by kernel_rfl) ?_
  intro F
  refine go_exec (rs := [.tmp 2]) (by kernel_rfl) 4000 [.z [0, 1] 3 [5]] (o := .stop [.o [0, 1] 3, .c [1, 1]] [(5, .pointer (some ⟨ba, 1, none⟩))] [Ee9d7e ba sa sn sc s k1 k2 k3 k4]) (by kernel_rfl) ?_
  refine ok_stop ?_
  refine go_extern (some 6) (f := 110) (args := #[.pointer (some ⟨ba, 1, none⟩)]) (by kernel_rfl) (ext_load Tryz.func110 (by kernel_rfl) (by kernel_rfl) (by kernel_rfl) .i64 (by kernel_rfl)  (L := [Ee9d7e ba sa sn sc s k1 k2 k3 k4]) (i := 0) (b := ba) (off := 1) (cs := [.slice sa sn sc, vI s, vI k1, vI k2, vU k3, .bool k4, .nilIface]) (t := 131) (x := s) (by kernel_rfl) (by kernel_rfl)) ?_
  rintro v L2 ⟨rfl, rfl⟩
  refine go_exec (rs := [.tmp 2]) (by kernel_rfl) 4000 [] (o := .ret (vI s) [Ee9d7e ba sa sn sc s k1 k2 k3 k4]) (by kernel_rfl) ?_
  exact ret_ok (post := [Ee9d7e ba sa sn sc s k1 k2 k3 k4]) [0] (by kernel_rfl) ⟨rfl, (by kernel_rfl)⟩

noncomputable def B56 : Code := (Tryz.f56.body).getD .skip

theorem step_Load (ba : Nat) (A : Ar) (i : Int) (b : Nat) (v0 : Int) (hn : A.ws.length = A.n) (hi : 0 ≤ i ∧ i < A.n) (hs : 0 ≤ A.steps ∧ A.steps ≤ 1000000000) :
    Ctr Tryz.prog 56 #[vP ba, vI 1, vI i, .func (.func 85) #[] #[vP b]] [Ebed9f ba A, E632c4 A, .pts b [vU v0] 41] (Ret (.bool false) [Ebed9f ba (A.load i), E632c4 (A.load i), .pts b [vU (A.ws.getD i.toNat 0)] 41]) := by
  refine ctr_of (args := [vP ba, vI 1, vI i, .func (.func 85) #[] #[vP b]]) (fn := Tryz.f56) (body := B56) (nt := 71) Tryz.func56 (by kernel_rfl) (by kernel_rfl) ?_
  intro F
  refine go_exec (rs := [.tmp 8]) (by kernel_rfl) 4000 [.z [0, 1, 1] 3 [0, 1, 2, 3, 13]] (o := .stop [.o [0, 1, 1] 3, .c [1, 1, 1]] [(0, vP ba), (1, vI 1), (2, vI i), (3, .func (.func 85) #[] #[vP b]), (13, .pointer (some ⟨ba, 1, none⟩))] [Ebed9f ba A, E632c4 A, .pts b [vU v0] 41]) (by kernel_rfl) ?_
  refine ok_stop ?_
  refine go_call (some 14) [0] Tryz.call100 (atomic_Add ba A.aw A.n A.cw A.steps A.lk A.lw A.lv A.lc 1 (by first | assumption | omega | (simp only [InK] at *; omega))) (by kernel_rfl) ?_
  rintro v post ⟨rfl, rfl⟩
  refine go_exec (rs := [.tmp 8]) (by kernel_rfl) 4000 [.e 2, .sp [23, 22] [.dead] [.e 2, .sp [31, 30] [.dead] [.e 2, .s 0, .z [0, 1, 1, 1, 1, 1] 8 [0, 2, 43, 44, 50]]]] (o := .obl (ba = ba) (.obl ((decide (i < 0)) = (decide (i < 0))) (.br (decide (i < 0)) (.bad) (.obl (ba = ba) (.obl ((decide (i ≥ ((A.n : Nat) : Int))) = (decide (i ≥ ((A.n : Nat) : Int)))) (.br (decide (i ≥ ((A.n : Nat) : Int))) (.bad) (.obl (ba = ba) (.obl (A.aw = A.aw ∧ A.n = A.ws.length) (.obl ((0 : Int) ≤ i ∧ i < ((A.ws.length : Nat) : Int)) (.stop [.o [0, 1, 1, 1, 1, 1] 8, .c [1, 1, 1, 1, 1, 1]] [(0, vP ba), (2, vI i), (43, vP ba), (44, .func (.func 85) #[] #[vP b]), (50, slAt A.aw i.toNat 1)] [E632c4 A, .pts b [vU v0] 41, E4e09e ba A (A.steps + 1) 1 i 0 false])))))))))) (by kernel_rfl) ?_
  refine ok_obl rfl ?_
  refine ok_obl rfl ?_
  refine ok_br (fun h => absurd (show (decide (i < 0)) = false from (by simp; omega)) (by rw [h]; simp)) (fun _ => ?_)
  refine ok_obl rfl ?_
  refine ok_obl rfl ?_
  refine ok_br (fun h => absurd (show (decide (i ≥ ((A.n : Nat) : Int))) = false from (by simp; omega)) (by rw [h]; simp)) (fun _ => ?_)
  refine ok_obl rfl ?_
  refine ok_obl ⟨rfl, (by first | rfl | omega | (simp; done) | (simp; omega))⟩ ?_
  refine ok_obl (by first | omega | (simp; omega)) ?_
  refine ok_stop ?_
  refine go_call (some 51) [0, 1] Tryz.call85 (clo_Load A.aw A.cw A.ws i.toNat b v0 (by first | assumption | omega | (simp only [InK] at *; omega))) (by kernel_rfl) ?_
  rintro v post ⟨rfl, rfl⟩
  refine go_exec (rs := [.tmp 8]) (by kernel_rfl) 4000 [.e 0, .e 0, .s 1, .j 1 i.toNat, .e 0, .e 0] (o := .obl (ba = ba) (.obl (ba = ba) (.obl (A.aw = A.aw ∧ A.n = A.ws.length) (.obl ((0 : Int) ≤ i ∧ i < ((A.ws.length : Nat) : Int)) (.obl (slAt A.aw i.toNat 1 = slAt A.aw i.toNat 1) (.obl (i.toNat < A.ws.length) (.obl (ba = ba) (.obl (ba = ba) (.ret (.bool false) [E4e09e ba A (A.steps + 1) 1 i (A.ws.getD i.toNat 0) false, E632c4 A, .pts b [vU (A.ws.getD i.toNat 0)] 41]))))))))) (by kernel_rfl) ?_
  refine ok_obl rfl ?_
  refine ok_obl rfl ?_
  refine ok_obl ⟨rfl, (by first | rfl | omega | (simp; done) | (simp; omega))⟩ ?_
  refine ok_obl (by first | omega | (simp; omega)) ?_
  refine ok_obl rfl ?_
  refine ok_obl (by first | omega | (simp; omega)) ?_
  refine ok_obl rfl ?_
  refine ok_obl rfl ?_
  exact ret_ok (post := [E4e09e ba A (A.steps + 1) 1 i (A.ws.getD i.toNat 0) false, E632c4 A, .pts b [vU (A.ws.getD i.toNat 0)] 41]) [0, 1, 2] (by kernel_rfl) ⟨rfl, (by kernel_rfl)⟩


theorem step_Store (ba : Nat) (A : Ar) (i : Int) (b : Nat) (v0 : Int) (hn : A.ws.length = A.n) (hi : 0 ≤ i ∧ i < A.n) (hs : 0 ≤ A.steps ∧ A.steps ≤ 1000000000) :
    Ctr Tryz.prog 56 #[vP ba, vI 2, vI i, .func (.func 57) #[] #[vP b]] [Ebed9f ba A, E632c4 A, .pts b [vU v0] 41] (Ret (.bool true) [Ebed9f ba (A.store i v0), E632c4 (A.store i v0), .pts b [vU v0] 41]) := by
  refine ctr_of (args := [vP ba, vI 2, vI i, .func (.func 57) #[] #[vP b]]) (fn := Tryz.f56) (body := B56) (nt := 71) Tryz.func56 (by kernel_rfl) (by kernel_rfl) ?_
  intro F
  refine go_exec (rs := [.tmp 8]) (by kernel_rfl) 4000 [.z [0, 1, 1] 3 [0, 1, 2, 3, 13]] (o := .stop [.o [0, 1, 1] 3, .c [1, 1, 1]] [(0, vP ba), (1, vI 2), (2, vI i), (3, .func (.func 57) #[] #[vP b]), (13, .pointer (some ⟨ba, 1, none⟩))] [Ebed9f ba A, E632c4 A, .pts b [vU v0] 41]) (by kernel_rfl) ?_
  refine ok_stop ?_
  refine go_call (some 14) [0] Tryz.call100 (atomic_Add ba A.aw A.n A.cw A.steps A.lk A.lw A.lv A.lc 1 (by first | assumption | omega | (simp only [InK] at *; omega))) (by kernel_rfl) ?_
  rintro v post ⟨rfl, rfl⟩
  refine go_exec (rs := [.tmp 8]) (by kernel_rfl) 4000 [.e 2, .sp [23, 22] [.dead] [.e 2, .sp [31, 30] [.dead] [.e 2, .s 0, .z [0, 1, 1, 1, 1, 1] 8 [0, 2, 43, 44, 50]]]] (o := .obl (ba = ba) (.obl ((decide (i < 0)) = (decide (i < 0))) (.br (decide (i < 0)) (.bad) (.obl (ba = ba) (.obl ((decide (i ≥ ((A.n : Nat) : Int))) = (decide (i ≥ ((A.n : Nat) : Int)))) (.br (decide (i ≥ ((A.n : Nat) : Int))) (.bad) (.obl (ba = ba) (.obl (A.aw = A.aw ∧ A.n = A.ws.length) (.obl ((0 : Int) ≤ i ∧ i < ((A.ws.length : Nat) : Int)) (.stop [.o [0, 1, 1, 1, 1, 1] 8, .c [1, 1, 1, 1, 1, 1]] [(0, vP ba), (2, vI i), (43, vP ba), (44, .func (.func 57) #[] #[vP b]), (50, slAt A.aw i.toNat 1)] [E632c4 A, .pts b [vU v0] 41, E4e09e ba A (A.steps + 1) 2 i 0 false])))))))))) (by kernel_rfl) ?_
  refine ok_obl rfl ?_
  refine ok_obl rfl ?_
  refine ok_br (fun h => absurd (show (decide (i < 0)) = false from (by simp; omega)) (by rw [h]; simp)) (fun _ => ?_)
  refine ok_obl rfl ?_
  refine ok_obl rfl ?_
  refine ok_br (fun h => absurd (show (decide (i ≥ ((A.n : Nat) : Int))) = false from (by simp; omega)) (by rw [h]; simp)) (fun _ => ?_)
  refine ok_obl rfl ?_
  refine ok_obl ⟨rfl, (by first | rfl | omega | (simp; done) | (simp; omega))⟩ ?_
  refine ok_obl (by first | omega | (simp; omega)) ?_
  refine ok_stop ?_
  refine go_call (some 51) [0, 1] Tryz.call57 (clo_Store A.aw A.cw A.ws i.toNat b v0 (by first | assumption | omega | (simp only [InK] at *; omega))) (by kernel_rfl) ?_
  rintro v post ⟨rfl, rfl⟩
  refine go_exec (rs := [.tmp 8]) (by kernel_rfl) 4000 [.e 0, .e 0, .s 1, .j 1 i.toNat, .e 0, .e 0] (o := .obl (ba = ba) (.obl (ba = ba) (.obl (A.aw = A.aw ∧ A.n = (A.ws.set i.toNat v0).length) (.obl ((0 : Int) ≤ i ∧ i < (((A.ws.set i.toNat v0).length : Nat) : Int)) (.obl (slAt A.aw i.toNat 1 = slAt A.aw i.toNat 1) (.obl (i.toNat < (A.ws.set i.toNat v0).length) (.obl (ba = ba) (.obl (ba = ba) (.ret (.bool true) [E4e09e ba A (A.steps + 1) 2 i ((A.ws.set i.toNat v0).getD i.toNat 0) true, E46446 A (A.ws.set i.toNat v0), .pts b [vU v0] 41]))))))))) (by kernel_rfl) ?_
  refine ok_obl rfl ?_
  refine ok_obl rfl ?_
  refine ok_obl ⟨rfl, (by first | rfl | omega | (simp; done) | (simp; omega))⟩ ?_
  refine ok_obl (by first | omega | (simp; omega)) ?_
  refine ok_obl rfl ?_
  refine ok_obl (by first | omega | (simp; omega)) ?_
  refine ok_obl rfl ?_
  refine ok_obl rfl ?_
  exact ret_ok (post := [E4e09e ba A (A.steps + 1) 2 i ((A.ws.set i.toNat v0).getD i.toNat 0) true, E46446 A (A.ws.set i.toNat v0), .pts b [vU v0] 41]) [0, 1, 2] (by kernel_rfl) ⟨rfl, (by kernel_rfl)⟩

noncomputable def B40 : Code := (Tryz.f40.body).getD .skip

theorem arena_Load (ba : Nat) (A : Ar) (i : Int) (hn : A.ws.length = A.n) (hi : 0 ≤ i ∧ i < A.n) (hs : 0 ≤ A.steps ∧ A.steps ≤ 1000000000) :
    Ctr Tryz.prog 40 #[vP ba, vI i] [Ebed9f ba A, E632c4 A] (Ret (vU (A.ws.getD i.toNat 0)) [Ebed9f ba (A.load i), E632c4 (A.load i)]) := by
  refine ctr_of (args := [vP ba, vI i]) (fn := Tryz.f40) (body := B40) (nt := 10) Tryz.func40 (by kernel_rfl) (by kernel_rfl) ?_
  intro F
  refine go_exec (rs := [.cell 4 41]) (by kernel_rfl) 4000 [.z [0, 1] 3 [4, 5, 6, 7]] (o := .new fun b_1 => .stop [.o [0, 1] 3, .c [1, 1]] [(4, vP b_1), (5, vP ba), (6, vI i), (7, .func (.func 85) #[] #[vP b_1])] [Ebed9f ba A, E632c4 A, .pts b_1 [vU 0] 41]) (by kernel_rfl) ?_
  refine ok_new fun b_1 => ?_
  refine ok_stop ?_
  refine go_call (some 8) [0, 1, 2] Tryz.call56 (step_Load ba A i b_1 0 (by first | assumption | omega | (simp only [InK] at *; omega)) (by first | assumption | omega | (simp only [InK] at *; omega)) (by first | assumption | omega | (simp only [InK] at *; omega))) (by kernel_rfl) ?_
  rintro v post ⟨rfl, rfl⟩
  refine go_exec (rs := [.cell 4 41]) (by kernel_rfl) 4000 [.e 2, .e 2, .e 2] (o := .obl (b_1 = b_1) (.obl (b_1 = b_1) (.obl (b_1 = b_1) (.ret (vU (A.ws.getD i.toNat 0)) [Ebed9f ba (A.load i), E632c4 (A.load i), .pts b_1 [vU (A.ws.getD i.toNat 0)] 41])))) (by kernel_rfl) ?_
  refine ok_obl rfl ?_
  refine ok_obl rfl ?_
  refine ok_obl rfl ?_
  exact ret_ok (post := [Ebed9f ba (A.load i), E632c4 (A.load i)]) [0, 1] (by kernel_rfl) ⟨rfl, (by kernel_rfl)⟩

noncomputable def B20 : Code := (Tryz.f20.body).getD .skip

theorem arena_Store (ba : Nat) (A : Ar) (i v : Int) (hn : A.ws.length = A.n) (hi : 0 ≤ i ∧ i < A.n) (hs : 0 ≤ A.steps ∧ A.steps ≤ 1000000000) :
    Ctr Tryz.prog 20 #[vP ba, vI i, vU v] [Ebed9f ba A, E632c4 A] (Ret (undef) [Ebed9f ba (A.store i v), E632c4 (A.store i v)]) := by
  refine ctr_of (args := [vP ba, vI i, vU v]) (fn := Tryz.f20) (body := B20) (nt := 10) Tryz.func20 (by kernel_rfl) (by kernel_rfl) ?_
  intro F
  refine go_exec (rs := []) (by kernel_rfl) 4000 [.z [1] 3 [6, 7, 8]] (o := .new fun b_1 => .stop [.o [1] 3] [(6, vP ba), (7, vI i), (8, .func (.func 57) #[] #[vP b_1])] [Ebed9f ba A, E632c4 A, .pts b_1 [vU v] 41]) (by kernel_rfl) ?_
  refine ok_new fun b_1 => ?_
  refine ok_stop ?_
  refine go_call (some 9) [0, 1, 2] Tryz.call56 (step_Store ba A i b_1 v (by first | assumption | omega | (simp only [InK] at *; omega)) (by first | assumption | omega | (simp only [InK] at *; omega)) (by first | assumption | omega | (simp only [InK] at *; omega))) (by kernel_rfl) ?_
  rintro v post ⟨rfl, rfl⟩
  refine go_exec (rs := []) (by kernel_rfl) 4000 [] (o := .ret (undef) [Ebed9f ba (A.store i v), E632c4 (A.store i v), .pts b_1 [vU v] 41]) (by kernel_rfl) ?_
  exact ret_ok (post := [Ebed9f ba (A.store i v), E632c4 (A.store i v)]) [0, 1] (by kernel_rfl) ⟨rfl, (by kernel_rfl)⟩

noncomputable def B135 : Code := (Tryz.f135.body).getD .skip

theorem clo_SwapT (aw : Option Addr) (cw : Nat) (ws : List Int) (j b b2 : Nat) (old new : Int) (hj : j < ws.length) (hw : ws.getD j 0 = old) :
    Ctr Tryz.prog 135 #[slAt aw j 1, vP b, vP b2] [E89d8b aw cw ws, .pts b [vU old] 41, .pts b2 [vU new] 41] (Ret (.bool true) [E89d8b aw cw (ws.set j new), .pts b [vU old] 41, .pts b2 [vU new] 41]) := by
  refine ctr_of (args := [slAt aw j 1, vP b, vP b2]) (fn := Tryz.f135) (body := B135) (nt := 13) Tryz.func135 (by kernel_rfl) (by kernel_rfl) ?_
  intro F
  refine go_exec (rs := [.tmp 4]) (by kernel_rfl) 4000 [.z [0, 0, 1] 0 [0, 1, 2]] (o := .stop [.c [0, 0, 1], .c [1, 0, 1], .c [1, 1]] [(0, slAt aw j 1), (1, vP b), (2, vP b2)] [E89d8b aw cw ws, .pts b [vU old] 41, .pts b2 [vU new] 41]) (by kernel_rfl) ?_
  refine ok_stop ?_
  refine go_quiet (tm' := [(0, slAt aw j 1), (2, vP b2), (9, .bool false)]) (ps := [slAt aw j 1 = slAt aw j 1, j < ws.length, b = b, ((ws.getD j 0) != old) = false]) (cs := []) [(0, .h .w), (1, .h .w), (2, .h (.j 0 j)), (3, .h (.e 1)), (4, .h (.t false))] [0, 2, 9] (by kernel_rfl) (by kernel_rfl) ⟨rfl, (by first | omega | (simp; done) | (simp; omega)), rfl, (by rw [hw]; simp), trivial⟩ trivial ?_
  refine go_exec (rs := [.tmp 4]) (by kernel_rfl) 4000 [.e 2, .j 0 j] (o := .obl (b2 = b2) (.obl (slAt aw j 1 = slAt aw j 1) (.obl (j < ws.length) (.ex fun x_1 : Int => .obl ([vU new] = (encI .u64) x_1) (.ret (.bool true) [E89d8b aw cw (ws.set j x_1), .pts b [vU old] 41, .pts b2 [vU new] 41]))))) (by kernel_rfl) ?_
  refine ok_obl rfl ?_
  refine ok_obl rfl ?_
  refine ok_obl (by first | omega | (simp; done) | (simp; omega)) ?_
  refine ok_ex (new : Int) ?_
  refine ok_obl rfl ?_
  exact ret_ok (post := [E89d8b aw cw (ws.set j new), .pts b [vU old] 41, .pts b2 [vU new] 41]) [0, 1, 2] (by kernel_rfl) ⟨rfl, (by kernel_rfl)⟩


theorem step_SwapT (ba : Nat) (A : Ar) (i : Int) (b b2 : Nat) (old new : Int) (hn : A.ws.length = A.n) (hi : 0 ≤ i ∧ i < A.n) (hs : 0 ≤ A.steps ∧ A.steps ≤ 1000000000) (hw : A.ws.getD i.toNat 0 = old) :
    Ctr Tryz.prog 56 #[vP ba, vI 3, vI i, .func (.func 135) #[] #[vP b, vP b2]] [Ebed9f ba A, E632c4 A, .pts b [vU old] 41, .pts b2 [vU new] 41] (Ret (.bool true) [Ebed9f ba (A.swapT i new), E632c4 (A.swapT i new), .pts b [vU old] 41, .pts b2 [vU new] 41]) := by
  refine ctr_of (args := [vP ba, vI 3, vI i, .func (.func 135) #[] #[vP b, vP b2]]) (fn := Tryz.f56) (body := B56) (nt := 71) Tryz.func56 (by kernel_rfl) (by kernel_rfl) ?_
  intro F
  refine go_exec (rs := [.tmp 8]) (by kernel_rfl) 4000 [.z [0, 1, 1] 3 [0, 1, 2, 3, 13]] (o := .stop [.o [0, 1, 1] 3, .c [1, 1, 1]] [(0, vP ba), (1, vI 3), (2, vI i), (3, .func (.func 135) #[] #[vP b, vP b2]), (13, .pointer (some ⟨ba, 1, none⟩))] [Ebed9f ba A, E632c4 A, .pts b [vU old] 41, .pts b2 [vU new] 41]) (by kernel_rfl) ?_
  refine ok_stop ?_
  refine go_call (some 14) [0] Tryz.call100 (atomic_Add ba A.aw A.n A.cw A.steps A.lk A.lw A.lv A.lc 1 (by first | assumption | omega | (simp only [InK] at *; omega))) (by kernel_rfl) ?_
  rintro v post ⟨rfl, rfl⟩
  refine go_exec (rs := [.tmp 8]) (by kernel_rfl) 4000 [.e 3, .sp [23, 22] [.dead] [.e 3, .sp [31, 30] [.dead] [.e 3, .s 0, .z [0, 1, 1, 1, 1, 1] 8 [0, 2, 43, 44, 50]]]] (o := .obl (ba = ba) (.obl ((decide (i < 0)) = (decide (i < 0))) (.br (decide (i < 0)) (.bad) (.obl (ba = ba) (.obl ((decide (i ≥ ((A.n : Nat) : Int))) = (decide (i ≥ ((A.n : Nat) : Int)))) (.br (decide (i ≥ ((A.n : Nat) : Int))) (.bad) (.obl (ba = ba) (.obl (A.aw = A.aw ∧ A.n = A.ws.length) (.obl ((0 : Int) ≤ i ∧ i < ((A.ws.length : Nat) : Int)) (.stop [.o [0, 1, 1, 1, 1, 1] 8, .c [1, 1, 1, 1, 1, 1]] [(0, vP ba), (2, vI i), (43, vP ba), (44, .func (.func 135) #[] #[vP b, vP b2]), (50, slAt A.aw i.toNat 1)] [E632c4 A, .pts b [vU old] 41, .pts b2 [vU new] 41, E4e09e ba A (A.steps + 1) 3 i 0 false])))))))))) (by kernel_rfl) ?_
  refine ok_obl rfl ?_
  refine ok_obl rfl ?_
  refine ok_br (fun h => absurd (show (decide (i < 0)) = false from (by simp; omega)) (by rw [h]; simp)) (fun _ => ?_)
  refine ok_obl rfl ?_
  refine ok_obl rfl ?_
  refine ok_br (fun h => absurd (show (decide (i ≥ ((A.n : Nat) : Int))) = false from (by simp; omega)) (by rw [h]; simp)) (fun _ => ?_)
  refine ok_obl rfl ?_
  refine ok_obl ⟨rfl, (by first | rfl | omega | (simp; done) | (simp; omega))⟩ ?_
  refine ok_obl (by first | omega | (simp; omega)) ?_
  refine ok_stop ?_
  refine go_call (some 51) [0, 1, 2] Tryz.call135 (clo_SwapT A.aw A.cw A.ws i.toNat b b2 old new (by first | assumption | omega | (simp only [InK] at *; omega)) (by first | assumption | omega | (simp only [InK] at *; omega))) (by kernel_rfl) ?_
  rintro v post ⟨rfl, rfl⟩
  refine go_exec (rs := [.tmp 8]) (by kernel_rfl) 4000 [.e 0, .e 0, .s 1, .j 1 i.toNat, .e 0, .e 0] (o := .obl (ba = ba) (.obl (ba = ba) (.obl (A.aw = A.aw ∧ A.n = (A.ws.set i.toNat new).length) (.obl ((0 : Int) ≤ i ∧ i < (((A.ws.set i.toNat new).length : Nat) : Int)) (.obl (slAt A.aw i.toNat 1 = slAt A.aw i.toNat 1) (.obl (i.toNat < (A.ws.set i.toNat new).length) (.obl (ba = ba) (.obl (ba = ba) (.ret (.bool true) [E4e09e ba A (A.steps + 1) 3 i ((A.ws.set i.toNat new).getD i.toNat 0) true, E46446 A (A.ws.set i.toNat new), .pts b [vU old] 41, .pts b2 [vU new] 41]))))))))) (by kernel_rfl) ?_
  refine ok_obl rfl ?_
  refine ok_obl rfl ?_
  refine ok_obl ⟨rfl, (by first | rfl | omega | (simp; done) | (simp; omega))⟩ ?_
  refine ok_obl (by first | omega | (simp; omega)) ?_
  refine ok_obl rfl ?_
  refine ok_obl (by first | omega | (simp; omega)) ?_
  refine ok_obl rfl ?_
  refine ok_obl rfl ?_
  exact ret_ok (post := [E4e09e ba A (A.steps + 1) 3 i ((A.ws.set i.toNat new).getD i.toNat 0) true, E46446 A (A.ws.set i.toNat new), .pts b [vU old] 41, .pts b2 [vU new] 41]) [0, 1, 2, 3] (by kernel_rfl) ⟨rfl, (by kernel_rfl)⟩

noncomputable def B122 : Code := (Tryz.f122.body).getD .skip

theorem arena_SwapT (ba : Nat) (A : Ar) (i old new : Int) (hn : A.ws.length = A.n) (hi : 0 ≤ i ∧ i < A.n) (hs : 0 ≤ A.steps ∧ A.steps ≤ 1000000000) (hw : A.ws.getD i.toNat 0 = old) :
    Ctr Tryz.prog 122 #[vP ba, vI i, vU old, vU new] [Ebed9f ba A, E632c4 A] (Ret (.bool true) [Ebed9f ba (A.swapT i new), E632c4 (A.swapT i new)]) := by
  refine ctr_of (args := [vP ba, vI i, vU old, vU new]) (fn := Tryz.f122) (body := B122) (nt := 13) Tryz.func122 (by kernel_rfl) (by kernel_rfl) ?_
  intro F
  refine go_exec (rs := [.tmp 8]) (by kernel_rfl) 4000 [.z [0, 1] 3 [9, 10, 11]] (o := .new fun b_1 => .new fun b_2 => .stop [.o [0, 1] 3, .c [1, 1]] [(9, vP ba), (10, vI i), (11, .func (.func 135) #[] #[vP b_1, vP b_2])] [Ebed9f ba A, E632c4 A, .pts b_1 [vU old] 41, .pts b_2 [vU new] 41]) (by kernel_rfl) ?_
  refine ok_new fun b_1 => ?_
  refine ok_new fun b_2 => ?_
  refine ok_stop ?_
  refine go_call (some 12) [0, 1, 2, 3] Tryz.call56 (step_SwapT ba A i b_1 b_2 old new (by first | assumption | omega | (simp only [InK] at *; omega)) (by first | assumption | omega | (simp only [InK] at *; omega)) (by first | assumption | omega | (simp only [InK] at *; omega)) (by first | assumption | omega | (simp only [InK] at *; omega))) (by kernel_rfl) ?_
  rintro v post ⟨rfl, rfl⟩
  refine go_exec (rs := [.tmp 8]) (by kernel_rfl) 4000 [] (o := .ret (.bool true) [Ebed9f ba (A.swapT i new), E632c4 (A.swapT i new), .pts b_1 [vU old] 41, .pts b_2 [vU new] 41]) (by kernel_rfl) ?_
  exact ret_ok (post := [Ebed9f ba (A.swapT i new), E632c4 (A.swapT i new)]) [0, 1] (by kernel_rfl) ⟨rfl, (by kernel_rfl)⟩


theorem clo_SwapF (aw : Option Addr) (cw : Nat) (ws : List Int) (j b b2 : Nat) (old new : Int) (hj : j < ws.length) (hw : ws.getD j 0 ≠ old) :
    Ctr Tryz.prog 135 #[slAt aw j 1, vP b, vP b2] [E89d8b aw cw ws, .pts b [vU old] 41, .pts b2 [vU new] 41] (Ret (.bool false) [E89d8b aw cw ws, .pts b [vU old] 41, .pts b2 [vU new] 41]) := by
  refine ctr_of (args := [slAt aw j 1, vP b, vP b2]) (fn := Tryz.f135) (body := B135) (nt := 13) Tryz.func135 (by kernel_rfl) (by kernel_rfl) ?_
  intro F
  refine go_exec (rs := [.tmp 4]) (by kernel_rfl) 4000 [.z [0, 0, 1] 0 [0, 1, 2]] (o := .stop [.c [0, 0, 1], .c [1, 0, 1], .c [1, 1]] [(0, slAt aw j 1), (1, vP b), (2, vP b2)] [E89d8b aw cw ws, .pts b [vU old] 41, .pts b2 [vU new] 41]) (by kernel_rfl) ?_
  refine ok_stop ?_
  refine go_quiet (tm' := [(0, slAt aw j 1), (2, vP b2), (9, .bool true)]) (ps := [slAt aw j 1 = slAt aw j 1, j < ws.length, b = b, ((ws.getD j 0) != old) = true]) (cs := []) [(0, .h .w), (1, .h .w), (2, .h (.j 0 j)), (3, .h (.e 1)), (4, .h (.t true))] [0, 2, 9] (by kernel_rfl) (by kernel_rfl) ⟨rfl, (by first | omega | (simp; done) | (simp; omega)), rfl, (bne_iff_ne.2 hw), trivial⟩ trivial ?_
  refine go_exec (rs := [.tmp 4]) (by kernel_rfl) 4000 [] (o := .ret (.bool false) [E89d8b aw cw ws, .pts b [vU old] 41, .pts b2 [vU new] 41]) (by kernel_rfl) ?_
  exact ret_ok (post := [E89d8b aw cw ws, .pts b [vU old] 41, .pts b2 [vU new] 41]) [0, 1, 2] (by kernel_rfl) ⟨rfl, (by kernel_rfl)⟩


theorem step_SwapF (ba : Nat) (A : Ar) (i : Int) (b b2 : Nat) (old new : Int) (hn : A.ws.length = A.n) (hi : 0 ≤ i ∧ i < A.n) (hs : 0 ≤ A.steps ∧ A.steps ≤ 1000000000) (hw : A.ws.getD i.toNat 0 ≠ old) :
    Ctr Tryz.prog 56 #[vP ba, vI 3, vI i, .func (.func 135) #[] #[vP b, vP b2]] [Ebed9f ba A, E632c4 A, .pts b [vU old] 41, .pts b2 [vU new] 41] (Ret (.bool false) [Ebed9f ba (A.swapF i), E632c4 (A.swapF i), .pts b [vU old] 41, .pts b2 [vU new] 41]) := by
  refine ctr_of (args := [vP ba, vI 3, vI i, .func (.func 135) #[] #[vP b, vP b2]]) (fn := Tryz.f56) (body := B56) (nt := 71) Tryz.func56 (by kernel_rfl) (by kernel_rfl) ?_
  intro F
  refine go_exec (rs := [.tmp 8]) (by kernel_rfl) 4000 [.z [0, 1, 1] 3 [0, 1, 2, 3, 13]] (o := .stop [.o [0, 1, 1] 3, .c [1, 1, 1]] [(0, vP ba), (1, vI 3), (2, vI i), (3, .func (.func 135) #[] #[vP b, vP b2]), (13, .pointer (some ⟨ba, 1, none⟩))] [Ebed9f ba A, E632c4 A, .pts b [vU old] 41, .pts b2 [vU new] 41]) (by kernel_rfl) ?_
  refine ok_stop ?_
  refine go_call (some 14) [0] Tryz.call100 (atomic_Add ba A.aw A.n A.cw A.steps A.lk A.lw A.lv A.lc 1 (by first | assumption | omega | (simp only [InK] at *; omega))) (by kernel_rfl) ?_
  rintro v post ⟨rfl, rfl⟩
  refine go_exec (rs := [.tmp 8]) (by kernel_rfl) 4000 [.e 3, .sp [23, 22] [.dead] [.e 3, .sp [31, 30] [.dead] [.e 3, .s 0, .z [0, 1, 1, 1, 1, 1] 8 [0, 2, 43, 44, 50]]]] (o := .obl (ba = ba) (.obl ((decide (i < 0)) = (decide (i < 0))) (.br (decide (i < 0)) (.bad) (.obl (ba = ba) (.obl ((decide (i ≥ ((A.n : Nat) : Int))) = (decide (i ≥ ((A.n : Nat) : Int)))) (.br (decide (i ≥ ((A.n : Nat) : Int))) (.bad) (.obl (ba = ba) (.obl (A.aw = A.aw ∧ A.n = A.ws.length) (.obl ((0 : Int) ≤ i ∧ i < ((A.ws.length : Nat) : Int)) (.stop [.o [0, 1, 1, 1, 1, 1] 8, .c [1, 1, 1, 1, 1, 1]] [(0, vP ba), (2, vI i), (43, vP ba), (44, .func (.func 135) #[] #[vP b, vP b2]), (50, slAt A.aw i.toNat 1)] [E632c4 A, .pts b [vU old] 41, .pts b2 [vU new] 41, E4e09e ba A (A.steps + 1) 3 i 0 false])))))))))) (by kernel_rfl) ?_
  refine ok_obl rfl ?_
  refine ok_obl rfl ?_
  refine ok_br (fun h => absurd (show (decide (i < 0)) = false from (by simp; omega)) (by rw [h]; simp)) (fun _ => ?_)
  refine ok_obl rfl ?_
  refine ok_obl rfl ?_
  refine ok_br (fun h => absurd (show (decide (i ≥ ((A.n : Nat) : Int))) = false from (by simp; omega)) (by rw [h]; simp)) (fun _ => ?_)
  refine ok_obl rfl ?_
  refine ok_obl ⟨rfl, (by first | rfl | omega | (simp; done) | (simp; omega))⟩ ?_
  refine ok_obl (by first | omega | (simp; omega)) ?_
  refine ok_stop ?_
  refine go_call (some 51) [0, 1, 2] Tryz.call135 (clo_SwapF A.aw A.cw A.ws i.toNat b b2 old new (by first | assumption | omega | (simp only [InK] at *; omega)) (by first | assumption | omega | (simp only [InK] at *; omega))) (by kernel_rfl) ?_
  rintro v post ⟨rfl, rfl⟩
  refine go_exec (rs := [.tmp 8]) (by kernel_rfl) 4000 [.e 0, .e 0, .s 1, .j 1 i.toNat, .e 0, .e 0] (o := .obl (ba = ba) (.obl (ba = ba) (.obl (A.aw = A.aw ∧ A.n = A.ws.length) (.obl ((0 : Int) ≤ i ∧ i < ((A.ws.length : Nat) : Int)) (.obl (slAt A.aw i.toNat 1 = slAt A.aw i.toNat 1) (.obl (i.toNat < A.ws.length) (.obl (ba = ba) (.obl (ba = ba) (.ret (.bool false) [E4e09e ba A (A.steps + 1) 3 i (A.ws.getD i.toNat 0) false, E632c4 A, .pts b [vU old] 41, .pts b2 [vU new] 41]))))))))) (by kernel_rfl) ?_
  refine ok_obl rfl ?_
  refine ok_obl rfl ?_
  refine ok_obl ⟨rfl, (by first | rfl | omega | (simp; done) | (simp; omega))⟩ ?_
  refine ok_obl (by first | omega | (simp; omega)) ?_
  refine ok_obl rfl ?_
  refine ok_obl (by first | omega | (simp; omega)) ?_
  refine ok_obl rfl ?_
  refine ok_obl rfl ?_
  exact ret_ok (post := [E4e09e ba A (A.steps + 1) 3 i (A.ws.getD i.toNat 0) false, E632c4 A, .pts b [vU old] 41, .pts b2 [vU new] 41]) [0, 1, 2, 3] (by kernel_rfl) ⟨rfl, (by kernel_rfl)⟩


theorem arena_SwapF (ba : Nat) (A : Ar) (i old new : Int) (hn : A.ws.length = A.n) (hi : 0 ≤ i ∧ i < A.n) (hs : 0 ≤ A.steps ∧ A.steps ≤ 1000000000) (hw : A.ws.getD i.toNat 0 ≠ old) :
    Ctr Tryz.prog 122 #[vP ba, vI i, vU old, vU new] [Ebed9f ba A, E632c4 A] (Ret (.bool false) [Ebed9f ba (A.swapF i), E632c4 (A.swapF i)]) := by
  refine ctr_of (args := [vP ba, vI i, vU old, vU new]) (fn := Tryz.f122) (body := B122) (nt := 13) Tryz.func122 (by kernel_rfl) (by kernel_rfl) ?_
  intro F
  refine go_exec (rs := [.tmp 8]) (by kernel_rfl) 4000 [.z [0, 1] 3 [9, 10, 11]] (o := .new fun b_1 => .new fun b_2 => .stop [.o [0, 1] 3, .c [1, 1]] [(9, vP ba), (10, vI i), (11, .func (.func 135) #[] #[vP b_1, vP b_2])] [Ebed9f ba A, E632c4 A, .pts b_1 [vU old] 41, .pts b_2 [vU new] 41]) (by kernel_rfl) ?_
  refine ok_new fun b_1 => ?_
  refine ok_new fun b_2 => ?_
  refine ok_stop ?_
  refine go_call (some 12) [0, 1, 2, 3] Tryz.call56 (step_SwapF ba A i b_1 b_2 old new (by first | assumption | omega | (simp only [InK] at *; omega)) (by first | assumption | omega | (simp only [InK] at *; omega)) (by first | assumption | omega | (simp only [InK] at *; omega)) (by first | assumption | omega | (simp only [InK] at *; omega))) (by kernel_rfl) ?_
  rintro v post ⟨rfl, rfl⟩
  refine go_exec (rs := [.tmp 8]) (by kernel_rfl) 4000 [] (o := .ret (.bool false) [Ebed9f ba (A.swapF i), E632c4 (A.swapF i), .pts b_1 [vU old] 41, .pts b_2 [vU new] 41]) (by kernel_rfl) ?_
  exact ret_ok (post := [Ebed9f ba (A.swapF i), E632c4 (A.swapF i)]) [0, 1] (by kernel_rfl) ⟨rfl, (by kernel_rfl)⟩

noncomputable def B33 : Code := (Tryz.f33.body).getD .skip

theorem arena_Steps (ba : Nat) (A : Ar)  :
    Ctr Tryz.prog 33 #[vP ba] [Ebed9f ba A, E632c4 A] (Ret (vI A.steps) [Ebed9f ba A, E632c4 A]) := by
  refine ctr_of (args := [vP ba]) (fn := Tryz.f33) (body := B33) (nt := 9) Tryz.func33 (by kernel_rfl) (by kernel_rfl) ?_
  intro F
  refine go_exec (rs := [.tmp 2]) (by kernel_rfl) 4000 [.z [0, 1, 1] 3 [7]] (o := .stop [.o [0, 1, 1] 3, .c [1, 1, 1]] [(7, .pointer (some ⟨ba, 1, none⟩))] [Ebed9f ba A, E632c4 A]) (by kernel_rfl) ?_
  refine ok_stop ?_
  refine go_call (some 8) [0] Tryz.call78 (atomic_Load ba A.aw A.n A.cw A.steps A.lk A.lw A.lv A.lc) (by kernel_rfl) ?_
  rintro v post ⟨rfl, rfl⟩
  refine go_exec (rs := [.tmp 2]) (by kernel_rfl) 4000 [] (o := .ret (vI A.steps) [E632c4 A, Ebed9f ba A]) (by kernel_rfl) ?_
  exact ret_ok (post := [Ebed9f ba A, E632c4 A]) [1, 0] (by kernel_rfl) ⟨rfl, (by kernel_rfl)⟩

noncomputable def B32 : Code := (Tryz.f32.body).getD .skip

theorem arena_Last (ba : Nat) (A : Ar)  :
    Ctr Tryz.prog 32 #[vP ba] [Ebed9f ba A, E632c4 A] (Ret (.agg #[vI A.lk, vI A.lw, vU A.lv, .bool A.lc]) [Ebed9f ba A, E632c4 A]) := by
  refine ctr_of (args := [vP ba]) (fn := Tryz.f32) (body := B32) (nt := 10) Tryz.func32 (by kernel_rfl) (by kernel_rfl) ?_
  intro F
  refine go_exec (rs := [.cell 2 82]) (by kernel_rfl) 4000 [.e 0, .e 2, .e 2] (o := .new fun b_1 => .obl (ba = ba) (.obl (b_1 = b_1) (.obl (b_1 = b_1) (.ret (.agg #[vI A.lk, vI A.lw, vU A.lv, .bool A.lc]) [Ebed9f ba A, E632c4 A, E77e2b b_1 A])))) (by kernel_rfl) ?_
  refine ok_new fun b_1 => ?_
  refine ok_obl rfl ?_
  refine ok_obl rfl ?_
  refine ok_obl rfl ?_
  exact ret_ok (post := [Ebed9f ba A, E632c4 A]) [0, 1] (by kernel_rfl) ⟨rfl, (by kernel_rfl)⟩

end Go.Proofs.YtiiepkjckmdmkaaGreatDoor


namespace Go.Proofs.YtiiepkjckmdmkaaGreatDoor
open Go.Sx
noncomputable def B62 : Code := (Tryz.f62.body).getD .skip

theorem clone_some_u64 (ad : Addr) (c : Nat) (xs : List Int) (hl : xs.length ≤ 1000000) :
    Ctr Tryz.prog 62 #[.slice (some ad) xs.length c] [E89d8b (some ad) c xs] (fun v L => ∃ (a2 : Option Addr) (c2 : Nat), v = .slice a2 xs.length c2 ∧ L = [E89d8b (some ad) c xs, E89d8b a2 c2 xs]) := by
  refine ctr_of (args := [.slice (some ad) xs.length c]) (fn := Tryz.f62) (body := B62) (nt := 8) Tryz.func62 (by kernel_rfl) (by kernel_rfl) ?_
  intro F
  refine go_exec (rs := [.tmp 2]) (by kernel_rfl) 4000 [.z [0, 1, 1] 2 [5, 6]] (o := .new fun b_1 => .stop [.o [0, 1, 1] 2, .c [1, 1, 1]] [(5, .slice (some ⟨b_1, 0, none⟩) 0 0), (6, .slice (some ad) xs.length c)] [E89d8b (some ad) c xs, .pts b_1 [] 41]) (by kernel_rfl) ?_
  refine ok_new fun b_1 => ?_
  refine ok_stop ?_
  refine go_view (L' := [E89d8b (some ad) c xs, E89d8b (some ⟨b_1, 0, none⟩) 0 []]) (view_empty 1 (b := b_1) (encI .u64) 0 1 41 (sizedI _) (by kernel_rfl)) ?_
  refine go_by (some 7) (appO Tryz.prog _) (some (.slice (some ⟨b_1, 0, none⟩) ([]).length 0, .slice (some ad) xs.length c, (41, 1, 8))) (R_append 1 (a := (some ⟨b_1, 0, none⟩)) (c := 0) (enc := encI .u64) (d := 0) (sz := 1) (xs := []) (te := 41) (by kernel_rfl) (.slice (some ad) xs.length c) xs (src_sl (i := 0) (d := 0) (sz := 1) (t := 41) (by kernel_rfl)) (oneI _) 8 (by first | omega | (simp; done) | (simp; omega)) (by first | omega | (simp; done) | (simp; omega))) (by kernel_rfl) ?_
  rintro v L2 ⟨a_2, c_3, rfl, rfl⟩
  refine go_exec (rs := [.tmp 2]) (by kernel_rfl) 4000 [] (o := .ret (.slice a_2 (([] ++ xs).length) c_3) [E89d8b (some ad) c xs, E89d8b a_2 c_3 ([] ++ xs)]) (by kernel_rfl) ?_
  exact ret_ok (post := [E89d8b (some ad) c xs, E89d8b a_2 c_3 ([] ++ xs)]) [0, 1] (by kernel_rfl) ⟨a_2, c_3, rfl, (by kernel_rfl)⟩


theorem clone_nil_u64   :
    Ctr Tryz.prog 62 #[.slice none 0 0] [] (Ret (.slice none 0 0) []) := by
  refine ctr_of (args := [.slice none 0 0]) (fn := Tryz.f62) (body := B62) (nt := 8) Tryz.func62 (by kernel_rfl) (by kernel_rfl) ?_
  intro F
  refine go_exec (rs := [.tmp 2]) (by kernel_rfl) 4000 [] (o := .ret (.slice none 0 0) []) (by kernel_rfl) ?_
  exact ret_ok (post := []) [] (by kernel_rfl) ⟨rfl, (by kernel_rfl)⟩


theorem clone_u64 (a : Option Addr) (c : Nat) (xs : List Int) (hl : xs.length ≤ 1000000) :
    Ctr Tryz.prog 62 #[.slice a xs.length c] [E89d8b a c xs] (fun v L => ∃ (a2 : Option Addr) (c2 : Nat), v = .slice a2 xs.length c2 ∧ L = [E89d8b a c xs, E89d8b a2 c2 xs]) := by
  cases a with
  | some ad => exact clone_some_u64 ad c xs hl
  | none =>
    refine ctr_sl_nil (i := 0) rfl ?_
    rintro rfl rfl
    exact ctr_post (ctr_pre [] (by kernel_rfl) clone_nil_u64) fun v L h => ⟨_, (view_nil2 _ _ _ _ (sizedI _) _ _ _ _ (sizedI _) h.2), none, 0, h.1, rfl⟩


theorem clone_n (a : Option Addr) (c n : Nat) (xs : List Int) (hn : xs.length = n) (hl : xs.length ≤ 1000000) :
    Ctr Tryz.prog 62 #[.slice a n c] [E89d8b a c xs] (fun v L => ∃ (a2 : Option Addr) (c2 : Nat), v = .slice a2 xs.length c2 ∧ L = [E89d8b a c xs, E89d8b a2 c2 xs]) := by
  subst hn; exact clone_u64 a c xs hl

end Go.Proofs.YtiiepkjckmdmkaaGreatDoor


namespace Go.Proofs.YtiiepkjckmdmkaaGreatDoor
open Go.Sx
abbrev q7_0 : List Nat := [1, 0, 0, 1, 1, 0, 0, 1, 0, 1, 1, 1]
abbrev q7_1 : List Nat := [1, 1, 1, 0, 0, 1, 0, 1, 1, 1]
abbrev q7_2 : List Nat := [0, 1, 0, 1, 0, 0, 1, 1, 0, 0, 1, 0, 1, 1, 1, 1, 1, 1, 1]
abbrev q7_3 : List Nat := [0, 1, 0, 1, 1, 1, 1, 1, 1, 1, 1]
abbrev q7_4 : List Nat := [1, 1, 0, 0, 1, 1, 0, 0, 1, 0, 1, 1, 1, 1, 1, 1, 1]
abbrev q7_5 : List Nat := [1, 1, 1, 0, 0, 1, 0, 1, 1, 1, 1, 1, 1, 1]
abbrev q7_6 : List Nat := [0, 1, 0, 1, 1, 1, 1, 1, 1, 1]
abbrev q7_7 : List Nat := [1, 1, 1, 1, 1, 1, 1, 1]
abbrev q7_8 : List Nat := [1, 1, 1, 1, 1, 1, 1, 1, 1]
abbrev q7_9 : List Nat := [0, 0, 0, 0, 1, 0, 1, 1, 1, 1, 1, 1, 1, 1]
abbrev q7_10 : List Nat := [1, 0, 0, 0, 1, 0, 1, 1, 1, 1, 1, 1, 1, 1]
abbrev q7_11 : List Nat := [1, 0, 0, 1, 0, 1, 1, 1, 1, 1, 1, 1, 1]
abbrev q7_12 : List Nat := [0, 0, 0, 1, 0, 0, 1, 0, 1, 1, 1, 1, 1, 1, 1, 1]
abbrev q7_13 : List Nat := [1, 0, 0, 1, 0, 0, 1, 0, 1, 1, 1, 1, 1, 1, 1, 1]
abbrev q7_14 : List Nat := [1, 1, 0, 0, 1, 0, 1, 1, 1, 1, 1, 1, 1, 1]
abbrev q7_15 : List Nat := [0, 1, 0, 0, 1, 0, 0, 1, 0, 1, 1, 1, 1, 1, 1, 1, 1]
noncomputable def B99 : Code := (Tryz.f99.body).getD .skip

theorem bits_Set (w_ at_ n v_ : Int) (h : 1 ≤ n ∧ n ≤ 64 ∧ 0 ≤ at_ ∧ at_ + n ≤ 64) (hv : bAndNot .u64 v_ (bShr .u64 18446744073709551615 (64 - n)) = 0) :
    Ctr Tryz.prog 99 #[vU w_, vI at_, vI n, vU v_] [] (Ret (.tuple #[vU (setW w_ at_ n v_), .bool true]) []) := by
  refine ctr_of (args := [vU w_, vI at_, vI n, vU v_]) (fn := Tryz.f99) (body := B99) (nt := 32) Tryz.func99 (by kernel_rfl) (by kernel_rfl) ?_
  intro F
  refine go_exec (rs := [.tmp 8, .tmp 9]) (by kernel_rfl) 4000 [.z [0, 0, 1] 2 [0, 1, 2, 3, 10, 11]] (o := .stop [.o [0, 0, 1] 2, .c [1, 0, 1], .c [1, 1]] [(0, vU w_), (1, vI at_), (2, vI n), (3, vU v_), (10, vI at_), (11, vI n)] []) (by kernel_rfl) ?_
  refine ok_stop ?_
  refine go_call (some 12) [] Tryz.call115 (bits_may at_ n (by first | assumption | omega | (simp only [InK] at *; omega))) (by kernel_rfl) ?_
  rintro v post ⟨rfl, rfl⟩
  refine go_exec (rs := [.tmp 8, .tmp 9]) (by kernel_rfl) 4000 [.z [0, 0, 1] 7 [0, 1, 2, 3, 14, 15, 16]] (o := .stop [.o [0, 0, 1] 7, .c [1, 0, 1], .c [1, 1]] [(0, vU w_), (1, vI at_), (2, vI n), (3, vU v_), (14, .bool false), (15, vU v_), (16, vI n)] []) (by kernel_rfl) ?_
  refine ok_stop ?_
  refine go_call (some 17) [] Tryz.call116 (bits_all n (by omega)) (by kernel_rfl) ?_
  rintro v post ⟨rfl, rfl⟩
  refine go_exec (rs := [.tmp 8, .tmp 9]) (by kernel_rfl) 4000 [.sp [20, 19] [.dead] [.z [0, 1, 1] 0 [0, 1, 2, 3]]] (o := .obl (((bAndNot .u64 v_ (bShr .u64 18446744073709551615 (64 - n))) != 0) = ((bAndNot .u64 v_ (bShr .u64 18446744073709551615 (64 - n))) != 0)) (.br ((bAndNot .u64 v_ (bShr .u64 18446744073709551615 (64 - n))) != 0) (.bad) (.stop [.c [0, 1, 1], .c [1, 1, 1]] [(0, vU w_), (1, vI at_), (2, vI n), (3, vU v_)] []))) (by kernel_rfl) ?_
  refine ok_obl rfl ?_
  refine ok_br (fun h => absurd (show ((bAndNot .u64 v_ (bShr .u64 18446744073709551615 (64 - n))) != 0) = false from (by rw [hv]; rfl)) (by rw [h]; simp)) (fun _ => ?_)
  refine ok_stop ?_
  refine go_quiet (tm' := [(8, vU (bOr .u64 (bAndNot .u64 w_ (bShl .u64 (bShr .u64 18446744073709551615 (64 - n)) at_)) (bShl .u64 v_ at_))), (9, .bool true)]) (ps := [(0 : Int) ≤ at_, (0 : Int) ≤ at_]) (cs := [(116, #[vI n], vU (bShr .u64 18446744073709551615 (64 - n)))]) [(0, .h .w), (1, .h .w), (2, .q (vU (bShr .u64 18446744073709551615 (64 - n)))), (3, .h .w), (4, .h (.n)), (5, .h .w), (6, .h .w), (7, .h .w), (8, .h (.n)), (9, .h .w), (10, .h .w), (11, .h .w)] [8, 9] (by kernel_rfl) (by kernel_rfl) ⟨(by first | omega | (simp; done) | (simp; omega)), (by first | omega | (simp; done) | (simp; omega)), trivial⟩ ⟨⟨Tryz.call116, quiet_of [] (bits_all n (by omega)) (by kernel_rfl) (by rintro v post ⟨rfl, rfl⟩; exact ⟨rfl, rfl⟩)⟩, trivial⟩ ?_
  refine go_exec (rs := [.tmp 8, .tmp 9]) (by kernel_rfl) 4000 [] (o := .ret (.tuple #[vU (bOr .u64 (bAndNot .u64 w_ (bShl .u64 (bShr .u64 18446744073709551615 (64 - n)) at_)) (bShl .u64 v_ at_)), .bool true]) []) (by kernel_rfl) ?_
  exact ret_ok (post := []) [] (by kernel_rfl) ⟨rfl, (by kernel_rfl)⟩

noncomputable def B53 : Code := (Tryz.f53.body).getD .skip

theorem plan_Pack (c : Cfg) (hc : c.Ok) :
    Ctr Tryz.prog 53 #[cfgV c] [] (Ret (vU (packW c)) []) := by
  refine ctr_of (args := [cfgV c]) (fn := Tryz.f53) (body := B53) (nt := 27) Tryz.func53 (by kernel_rfl) (by kernel_rfl) ?_
  intro F
  refine go_exec (rs := [.tmp 2]) (by kernel_rfl) 4000 [.e 0, .z [0, 0, 1, 1] 1 [1, 3, 6]] (o := .new fun b_1 => .obl (b_1 = b_1) (.stop [.o [0, 0, 1, 1] 1, .c [1, 0, 1, 1], .c [1, 1, 1]] [(1, vP b_1), (3, vU 0), (6, cfgV c)] [Efdc04 b_1 c])) (by kernel_rfl) ?_
  refine ok_new fun b_1 => ?_
  refine ok_obl rfl ?_
  refine ok_stop ?_
  refine go_call (some 7) [] Tryz.call97 (plan_right c (by first | assumption | omega | (simp only [InK] at *; omega))) (by kernel_rfl) ?_
  rintro v post ⟨rfl, rfl⟩
  refine go_exec (rs := [.tmp 2]) (by kernel_rfl) 4000 [.e 0, .z [0, 0, 1, 1, 1] 1 [3, 10]] (o := .obl (b_1 = b_1) (.stop [.o [0, 0, 1, 1, 1] 1, .c [1, 0, 1, 1, 1], .c [1, 1, 1, 1]] [(3, vU 0), (10, cfgV c)] [Efdc04 b_1 c])) (by kernel_rfl) ?_
  refine ok_obl rfl ?_
  refine ok_stop ?_
  refine go_call (some 11) [] Tryz.call98 (plan_parts c) (by kernel_rfl) ?_
  rintro v post ⟨rfl, rfl⟩
  refine go_exec (rs := [.tmp 2]) (by kernel_rfl) 4000 [.u, .w, .w, .z q7_0 5 [11, 12, 17, 19, 21]] (o := .stop [.o q7_0 5, .b 1, .c q7_1, .r [0, 1, 0, 1, 1, 1], .b 0, .c [1, 1, 1, 1]] [(11, .agg #[vI c.topics, vI c.small, vI c.slots, vI c.clients, vI c.retry, vI c.s0, vI c.n0, vI c.s1, vI c.n1]), (12, vI 0), (17, vU 0), (19, vI 0), (21, vU (IntKind.u64.wrap c.topics))] [Efdc04 b_1 c]) (by kernel_rfl) ?_
  refine ok_stop ?_
  refine go_call (some 22) [] Tryz.call99 (bits_Set 0 0 7 (IntKind.u64.wrap c.topics) (by omega) (part_fits (by simp only [Cfg.Ok] at hc; omega))) (by kernel_rfl) ?_
  rintro v post ⟨rfl, rfl⟩
  refine go_exec (rs := [.tmp 2]) (by kernel_rfl) 4000 [.w, .u, .w, .w, .z q7_0 5 [11, 12, 17, 19, 21]] (o := .stop [.o q7_0 5, .b 1, .c q7_1, .r [0, 1, 0, 1, 1, 1], .b 0, .c [1, 1, 1, 1]] [(11, .agg #[vI c.topics, vI c.small, vI c.slots, vI c.clients, vI c.retry, vI c.s0, vI c.n0, vI c.s1, vI c.n1]), (12, vI 1), (17, vU (setW 0 0 7 (IntKind.u64.wrap c.topics))), (19, vI 7), (21, vU (IntKind.u64.wrap c.small))] [Efdc04 b_1 c]) (by kernel_rfl) ?_
  refine ok_stop ?_
  refine go_call (some 22) [] Tryz.call99 (bits_Set (setW 0 0 7 (IntKind.u64.wrap c.topics)) 7 7 (IntKind.u64.wrap c.small) (by omega) (part_fits (by simp only [Cfg.Ok] at hc; omega))) (by kernel_rfl) ?_
  rintro v post ⟨rfl, rfl⟩
  refine go_exec (rs := [.tmp 2]) (by kernel_rfl) 4000 [.w, .u, .w, .w, .z q7_0 5 [11, 12, 17, 19, 21]] (o := .stop [.o q7_0 5, .b 1, .c q7_1, .r [0, 1, 0, 1, 1, 1], .b 0, .c [1, 1, 1, 1]] [(11, .agg #[vI c.topics, vI c.small, vI c.slots, vI c.clients, vI c.retry, vI c.s0, vI c.n0, vI c.s1, vI c.n1]), (12, vI 2), (17, vU (setW (setW 0 0 7 (IntKind.u64.wrap c.topics)) 7 7 (IntKind.u64.wrap c.small))), (19, vI 14), (21, vU (IntKind.u64.wrap c.slots))] [Efdc04 b_1 c]) (by kernel_rfl) ?_
  refine ok_stop ?_
  refine go_call (some 22) [] Tryz.call99 (bits_Set (setW (setW 0 0 7 (IntKind.u64.wrap c.topics)) 7 7 (IntKind.u64.wrap c.small)) 14 7 (IntKind.u64.wrap c.slots) (by omega) (part_fits (by simp only [Cfg.Ok] at hc; omega))) (by kernel_rfl) ?_
  rintro v post ⟨rfl, rfl⟩
  refine go_exec (rs := [.tmp 2]) (by kernel_rfl) 4000 [.w, .u, .w, .w, .z q7_0 5 [11, 12, 17, 19, 21]] (o := .stop [.o q7_0 5, .b 1, .c q7_1, .r [0, 1, 0, 1, 1, 1], .b 0, .c [1, 1, 1, 1]] [(11, .agg #[vI c.topics, vI c.small, vI c.slots, vI c.clients, vI c.retry, vI c.s0, vI c.n0, vI c.s1, vI c.n1]), (12, vI 3), (17, vU (setW (setW (setW 0 0 7 (IntKind.u64.wrap c.topics)) 7 7 (IntKind.u64.wrap c.small)) 14 7 (IntKind.u64.wrap c.slots))), (19, vI 21), (21, vU (IntKind.u64.wrap c.clients))] [Efdc04 b_1 c]) (by kernel_rfl) ?_
  refine ok_stop ?_
  refine go_call (some 22) [] Tryz.call99 (bits_Set (setW (setW (setW 0 0 7 (IntKind.u64.wrap c.topics)) 7 7 (IntKind.u64.wrap c.small)) 14 7 (IntKind.u64.wrap c.slots)) 21 7 (IntKind.u64.wrap c.clients) (by omega) (part_fits (by simp only [Cfg.Ok] at hc; omega))) (by kernel_rfl) ?_
  rintro v post ⟨rfl, rfl⟩
  refine go_exec (rs := [.tmp 2]) (by kernel_rfl) 4000 [.w, .u, .w, .w, .z q7_0 5 [11, 12, 17, 19, 21]] (o := .stop [.o q7_0 5, .b 1, .c q7_1, .r [0, 1, 0, 1, 1, 1], .b 0, .c [1, 1, 1, 1]] [(11, .agg #[vI c.topics, vI c.small, vI c.slots, vI c.clients, vI c.retry, vI c.s0, vI c.n0, vI c.s1, vI c.n1]), (12, vI 4), (17, vU (setW (setW (setW (setW 0 0 7 (IntKind.u64.wrap c.topics)) 7 7 (IntKind.u64.wrap c.small)) 14 7 (IntKind.u64.wrap c.slots)) 21 7 (IntKind.u64.wrap c.clients))), (19, vI 28), (21, vU (IntKind.u64.wrap c.retry))] [Efdc04 b_1 c]) (by kernel_rfl) ?_
  refine ok_stop ?_
  refine go_call (some 22) [] Tryz.call99 (bits_Set (setW (setW (setW (setW 0 0 7 (IntKind.u64.wrap c.topics)) 7 7 (IntKind.u64.wrap c.small)) 14 7 (IntKind.u64.wrap c.slots)) 21 7 (IntKind.u64.wrap c.clients)) 28 7 (IntKind.u64.wrap c.retry) (by omega) (part_fits (by simp only [Cfg.Ok] at hc; omega))) (by kernel_rfl) ?_
  rintro v post ⟨rfl, rfl⟩
  refine go_exec (rs := [.tmp 2]) (by kernel_rfl) 4000 [.w, .u, .w, .w, .z q7_0 5 [11, 12, 17, 19, 21]] (o := .stop [.o q7_0 5, .b 1, .c q7_1, .r [0, 1, 0, 1, 1, 1], .b 0, .c [1, 1, 1, 1]] [(11, .agg #[vI c.topics, vI c.small, vI c.slots, vI c.clients, vI c.retry, vI c.s0, vI c.n0, vI c.s1, vI c.n1]), (12, vI 5), (17, vU (setW (setW (setW (setW (setW 0 0 7 (IntKind.u64.wrap c.topics)) 7 7 (IntKind.u64.wrap c.small)) 14 7 (IntKind.u64.wrap c.slots)) 21 7 (IntKind.u64.wrap c.clients)) 28 7 (IntKind.u64.wrap c.retry))), (19, vI 35), (21, vU (IntKind.u64.wrap c.s0))] [Efdc04 b_1 c]) (by kernel_rfl) ?_
  refine ok_stop ?_
  refine go_call (some 22) [] Tryz.call99 (bits_Set (setW (setW (setW (setW (setW 0 0 7 (IntKind.u64.wrap c.topics)) 7 7 (IntKind.u64.wrap c.small)) 14 7 (IntKind.u64.wrap c.slots)) 21 7 (IntKind.u64.wrap c.clients)) 28 7 (IntKind.u64.wrap c.retry)) 35 7 (IntKind.u64.wrap c.s0) (by omega) (part_fits (by simp only [Cfg.Ok] at hc; omega))) (by kernel_rfl) ?_
  rintro v post ⟨rfl, rfl⟩
  refine go_exec (rs := [.tmp 2]) (by kernel_rfl) 4000 [.w, .u, .w, .w, .z q7_0 5 [11, 12, 17, 19, 21]] (o := .stop [.o q7_0 5, .b 1, .c q7_1, .r [0, 1, 0, 1, 1, 1], .b 0, .c [1, 1, 1, 1]] [(11, .agg #[vI c.topics, vI c.small, vI c.slots, vI c.clients, vI c.retry, vI c.s0, vI c.n0, vI c.s1, vI c.n1]), (12, vI 6), (17, vU (setW (setW (setW (setW (setW (setW 0 0 7 (IntKind.u64.wrap c.topics)) 7 7 (IntKind.u64.wrap c.small)) 14 7 (IntKind.u64.wrap c.slots)) 21 7 (IntKind.u64.wrap c.clients)) 28 7 (IntKind.u64.wrap c.retry)) 35 7 (IntKind.u64.wrap c.s0))), (19, vI 42), (21, vU (IntKind.u64.wrap c.n0))] [Efdc04 b_1 c]) (by kernel_rfl) ?_
  refine ok_stop ?_
  refine go_call (some 22) [] Tryz.call99 (bits_Set (setW (setW (setW (setW (setW (setW 0 0 7 (IntKind.u64.wrap c.topics)) 7 7 (IntKind.u64.wrap c.small)) 14 7 (IntKind.u64.wrap c.slots)) 21 7 (IntKind.u64.wrap c.clients)) 28 7 (IntKind.u64.wrap c.retry)) 35 7 (IntKind.u64.wrap c.s0)) 42 7 (IntKind.u64.wrap c.n0) (by omega) (part_fits (by simp only [Cfg.Ok] at hc; omega))) (by kernel_rfl) ?_
  rintro v post ⟨rfl, rfl⟩
  refine go_exec (rs := [.tmp 2]) (by kernel_rfl) 4000 [.w, .u, .w, .w, .z q7_0 5 [11, 12, 17, 19, 21]] (o := .stop [.o q7_0 5, .b 1, .c q7_1, .r [0, 1, 0, 1, 1, 1], .b 0, .c [1, 1, 1, 1]] [(11, .agg #[vI c.topics, vI c.small, vI c.slots, vI c.clients, vI c.retry, vI c.s0, vI c.n0, vI c.s1, vI c.n1]), (12, vI 7), (17, vU (setW (setW (setW (setW (setW (setW (setW 0 0 7 (IntKind.u64.wrap c.topics)) 7 7 (IntKind.u64.wrap c.small)) 14 7 (IntKind.u64.wrap c.slots)) 21 7 (IntKind.u64.wrap c.clients)) 28 7 (IntKind.u64.wrap c.retry)) 35 7 (IntKind.u64.wrap c.s0)) 42 7 (IntKind.u64.wrap c.n0))), (19, vI 49), (21, vU (IntKind.u64.wrap c.s1))] [Efdc04 b_1 c]) (by kernel_rfl) ?_
  refine ok_stop ?_
  refine go_call (some 22) [] Tryz.call99 (bits_Set (setW (setW (setW (setW (setW (setW (setW 0 0 7 (IntKind.u64.wrap c.topics)) 7 7 (IntKind.u64.wrap c.small)) 14 7 (IntKind.u64.wrap c.slots)) 21 7 (IntKind.u64.wrap c.clients)) 28 7 (IntKind.u64.wrap c.retry)) 35 7 (IntKind.u64.wrap c.s0)) 42 7 (IntKind.u64.wrap c.n0)) 49 7 (IntKind.u64.wrap c.s1) (by omega) (part_fits (by simp only [Cfg.Ok] at hc; omega))) (by kernel_rfl) ?_
  rintro v post ⟨rfl, rfl⟩
  refine go_exec (rs := [.tmp 2]) (by kernel_rfl) 4000 [.w, .u, .w, .w, .z q7_0 5 [11, 12, 17, 19, 21]] (o := .stop [.o q7_0 5, .b 1, .c q7_1, .r [0, 1, 0, 1, 1, 1], .b 0, .c [1, 1, 1, 1]] [(11, .agg #[vI c.topics, vI c.small, vI c.slots, vI c.clients, vI c.retry, vI c.s0, vI c.n0, vI c.s1, vI c.n1]), (12, vI 8), (17, vU (setW (setW (setW (setW (setW (setW (setW (setW 0 0 7 (IntKind.u64.wrap c.topics)) 7 7 (IntKind.u64.wrap c.small)) 14 7 (IntKind.u64.wrap c.slots)) 21 7 (IntKind.u64.wrap c.clients)) 28 7 (IntKind.u64.wrap c.retry)) 35 7 (IntKind.u64.wrap c.s0)) 42 7 (IntKind.u64.wrap c.n0)) 49 7 (IntKind.u64.wrap c.s1))), (19, vI 56), (21, vU (IntKind.u64.wrap c.n1))] [Efdc04 b_1 c]) (by kernel_rfl) ?_
  refine ok_stop ?_
  refine go_call (some 22) [] Tryz.call99 (bits_Set (setW (setW (setW (setW (setW (setW (setW (setW 0 0 7 (IntKind.u64.wrap c.topics)) 7 7 (IntKind.u64.wrap c.small)) 14 7 (IntKind.u64.wrap c.slots)) 21 7 (IntKind.u64.wrap c.clients)) 28 7 (IntKind.u64.wrap c.retry)) 35 7 (IntKind.u64.wrap c.s0)) 42 7 (IntKind.u64.wrap c.n0)) 49 7 (IntKind.u64.wrap c.s1)) 56 7 (IntKind.u64.wrap c.n1) (by omega) (part_fits (by simp only [Cfg.Ok] at hc; omega))) (by kernel_rfl) ?_
  rintro v post ⟨rfl, rfl⟩
  refine go_exec (rs := [.tmp 2]) (by kernel_rfl) 4000 [.w, .u] (o := .ret (vU (setW (setW (setW (setW (setW (setW (setW (setW (setW 0 0 7 (IntKind.u64.wrap c.topics)) 7 7 (IntKind.u64.wrap c.small)) 14 7 (IntKind.u64.wrap c.slots)) 21 7 (IntKind.u64.wrap c.clients)) 28 7 (IntKind.u64.wrap c.retry)) 35 7 (IntKind.u64.wrap c.s0)) 42 7 (IntKind.u64.wrap c.n0)) 49 7 (IntKind.u64.wrap c.s1)) 56 7 (IntKind.u64.wrap c.n1))) [Efdc04 b_1 c]) (by kernel_rfl) ?_
  exact ret_ok (post := []) [] (by kernel_rfl) ⟨rfl, (by kernel_rfl)⟩

noncomputable def B52 : Code := (Tryz.f52.body).getD .skip

theorem plan_Size (c : Cfg) (hc : c.Ok) :
    Ctr Tryz.prog 52 #[cfgV c] [] (Ret (vI (sizeOfC c)) []) := by
  refine ctr_of (args := [cfgV c]) (fn := Tryz.f52) (body := B52) (nt := 36) Tryz.func52 (by kernel_rfl) (by kernel_rfl) ?_
  intro F
  refine go_exec (rs := [.tmp 2]) (by kernel_rfl) 4000 [.e 0, .z [0, 0, 1] 1 [1, 7]] (o := .new fun b_1 => .obl (b_1 = b_1) (.stop [.o [0, 0, 1] 1, .c [1, 0, 1], .c [1, 1]] [(1, vP b_1), (7, cfgV c)] [Efdc04 b_1 c])) (by kernel_rfl) ?_
  refine ok_new fun b_1 => ?_
  refine ok_obl rfl ?_
  refine ok_stop ?_
  refine go_call (some 8) [] Tryz.call97 (plan_right c (by first | assumption | omega | (simp only [InK] at *; omega))) (by kernel_rfl) ?_
  rintro v post ⟨rfl, rfl⟩
  refine go_exec (rs := [.tmp 2]) (by kernel_rfl) 4000 [.e 0, .z [0, 1, 1] 1 [1, 11]] (o := .obl (b_1 = b_1) (.stop [.o [0, 1, 1] 1, .c [1, 1, 1]] [(1, vP b_1), (11, cfgV c)] [Efdc04 b_1 c])) (by kernel_rfl) ?_
  refine ok_obl rfl ?_
  refine ok_stop ?_
  refine go_call (some 12) [] Tryz.call60 (plan_cells c (by first | assumption | omega | (simp only [InK] at *; omega))) (by kernel_rfl) ?_
  rintro v post ⟨rfl, rfl⟩
  refine go_exec (rs := [.tmp 2]) (by kernel_rfl) 4000 [.e 0, .n, .n, .e 0, .u, .e 1, .e 1, .e 1, .n, .n, .n, .w, .u, .e 2, .e 2, .e 2, .n, .n, .n, .w, .u] (o := .obl (b_1 = b_1) (.obl (InK .i64 (c.topics * (1 + 2 * c.small))) (.obl (InK .i64 ((5 + c.slots + c.topics) + (c.topics * (1 + 2 * c.small)))) (.obl (b_1 = b_1) (.new fun b_2 => .obl (b_2 = b_2) (.obl (b_2 = b_2) (.obl (b_2 = b_2) (.obl (InK .i64 (1 + c.s0)) (.obl (InK .i64 (c.n0 * (1 + c.s0))) (.obl (InK .i64 (((5 + c.slots + c.topics) + (c.topics * (1 + 2 * c.small))) + (c.n0 * (1 + c.s0)))) (.new fun b_3 => .obl (b_3 = b_3) (.obl (b_3 = b_3) (.obl (b_3 = b_3) (.obl (InK .i64 (1 + c.s1)) (.obl (InK .i64 (c.n1 * (1 + c.s1))) (.obl (InK .i64 ((((5 + c.slots + c.topics) + (c.topics * (1 + 2 * c.small))) + (c.n0 * (1 + c.s0))) + (c.n1 * (1 + c.s1)))) (.ret (vI ((((5 + c.slots + c.topics) + (c.topics * (1 + 2 * c.small))) + (c.n0 * (1 + c.s0))) + (c.n1 * (1 + c.s1)))) [Efdc04 b_1 c, .pts b_2 [vI c.s0, vI c.n0] 26, .pts b_3 [vI c.s1, vI c.n1] 26]))))))))))))))))) (by kernel_rfl) ?_
  refine ok_obl rfl ?_
  refine ok_obl (by have hb := size_nl hc; simp only [Cfg.Ok, InK] at *; omega) ?_
  refine ok_obl (by have hb := size_nl hc; simp only [Cfg.Ok, InK] at *; omega) ?_
  refine ok_obl rfl ?_
  refine ok_new fun b_2 => ?_
  refine ok_obl rfl ?_
  refine ok_obl rfl ?_
  refine ok_obl rfl ?_
  refine ok_obl (by have hb := size_nl hc; simp only [Cfg.Ok, InK] at *; omega) ?_
  refine ok_obl (by have hb := size_nl hc; simp only [Cfg.Ok, InK] at *; omega) ?_
  refine ok_obl (by have hb := size_nl hc; simp only [Cfg.Ok, InK] at *; omega) ?_
  refine ok_new fun b_3 => ?_
  refine ok_obl rfl ?_
  refine ok_obl rfl ?_
  refine ok_obl rfl ?_
  refine ok_obl (by have hb := size_nl hc; simp only [Cfg.Ok, InK] at *; omega) ?_
  refine ok_obl (by have hb := size_nl hc; simp only [Cfg.Ok, InK] at *; omega) ?_
  refine ok_obl (by have hb := size_nl hc; simp only [Cfg.Ok, InK] at *; omega) ?_
  exact ret_ok (post := []) [] (by kernel_rfl) ⟨rfl, (by kernel_rfl)⟩

noncomputable def B51 : Code := (Tryz.f51.body).getD .skip

theorem arena_New (n : Int) (h : 1 ≤ n ∧ n ≤ 4096) :
    Ctr Tryz.prog 51 #[vI n] [] (fun v L => ∃ (ba : Nat) (aw : Option Addr) (cw : Nat), v = vP ba ∧ L = [Ee9d7e ba aw ((List.replicate n.toNat (0 : Int)).length) cw 0 0 0 0 false, E89d8b aw cw (List.replicate n.toNat (0 : Int))]) := by
  refine ctr_of (args := [vI n]) (fn := Tryz.f51) (body := B51) (nt := 13) Tryz.func51 (by kernel_rfl) (by kernel_rfl) ?_
  intro F
  refine go_exec (rs := [.tmp 2]) (by kernel_rfl) 4000 [.sp [5, 4] [.dead] [.sp [8, 7] [.dead] [.z [0, 1, 1] 1 [9]]]] (o := .obl ((decide (n < 1)) = (decide (n < 1))) (.br (decide (n < 1)) (.bad) (.obl ((decide (n > 4096)) = (decide (n > 4096))) (.br (decide (n > 4096)) (.bad) (.stop [.o [0, 1, 1] 1, .c [1, 1, 1]] [(9, vI n)] []))))) (by kernel_rfl) ?_
  refine ok_obl rfl ?_
  refine ok_br (fun h => absurd (show (decide (n < 1)) = false from (by first | (simp; done) | (simp; omega))) (by rw [h]; simp)) (fun _ => ?_)
  refine ok_obl rfl ?_
  refine ok_br (fun h => absurd (show (decide (n > 4096)) = false from (by first | (simp; done) | (simp; omega))) (by rw [h]; simp)) (fun _ => ?_)
  refine ok_stop ?_
  refine go_make (kl := .i64) (kc := .i64) (encI .u64) 0 (0 : Int) 1 (sizedI _) 41 8 (some 10) n n (by kernel_rfl) (by omega) (by omega) (by omega) (by omega) ?_
  intro a_1 c_2
  refine go_exec (rs := [.tmp 2]) (by kernel_rfl) 4000 [] (o := .new fun b_3 => .ret (vP b_3) [E89d8b a_1 c_2 (List.replicate n.toNat (0 : Int)), Ee9d7e b_3 a_1 ((List.replicate n.toNat (0 : Int)).length) c_2 0 0 0 0 false]) (by kernel_rfl) ?_
  refine ok_new fun b_3 => ?_
  exact ret_ok (post := [Ee9d7e b_3 a_1 ((List.replicate n.toNat (0 : Int)).length) c_2 0 0 0 0 false, E89d8b a_1 c_2 (List.replicate n.toNat (0 : Int))]) [1, 0] (by kernel_rfl) ⟨b_3, a_1, c_2, rfl, (by kernel_rfl)⟩

noncomputable def B19 : Code := (Tryz.f19.body).getD .skip

theorem plan_Make (c : Cfg) (hc : c.Ok) :
    Ctr Tryz.prog 19 #[cfgV c] [] (fun v L => ∃ (ba : Nat) (aw : Option Addr) (cw : Nat), v = .tuple #[vP ba, .nilIface] ∧ L = [Ebed9f ba (mkAr c aw cw), E632c4 (mkAr c aw cw)]) := by
  refine ctr_of (args := [cfgV c]) (fn := Tryz.f19) (body := B19) (nt := 67) Tryz.func19 (by kernel_rfl) (by kernel_rfl) ?_
  intro F
  refine go_exec (rs := [.tmp 2, .tmp 3]) (by kernel_rfl) 4000 [.e 0, .z [0, 1] 1 [1, 10]] (o := .new fun b_1 => .obl (b_1 = b_1) (.stop [.o [0, 1] 1, .c [1, 1]] [(1, vP b_1), (10, cfgV c)] [Efdc04 b_1 c])) (by kernel_rfl) ?_
  refine ok_new fun b_1 => ?_
  refine ok_obl rfl ?_
  refine ok_stop ?_
  refine go_call (some 11) [] Tryz.call50 (plan_Check c (by first | assumption | omega | (simp only [InK] at *; omega))) (by kernel_rfl) ?_
  rintro v post ⟨rfl, rfl⟩
  refine go_exec (rs := [.tmp 2, .tmp 3]) (by kernel_rfl) 4000 [.e 0, .z [0, 1, 1, 1] 1 [1, 15]] (o := .obl (b_1 = b_1) (.stop [.o [0, 1, 1, 1] 1, .c [1, 1, 1, 1]] [(1, vP b_1), (15, cfgV c)] [Efdc04 b_1 c])) (by kernel_rfl) ?_
  refine ok_obl rfl ?_
  refine ok_stop ?_
  refine go_call (some 16) [] Tryz.call52 (plan_Size c (by first | assumption | omega | (simp only [InK] at *; omega))) (by kernel_rfl) ?_
  rintro v post ⟨rfl, rfl⟩
  refine go_call (some 17) [] Tryz.call51 (arena_New (sizeOfC c) (by have := sizeOfC_ok hc; omega)) (by kernel_rfl) ?_
  rintro v post ⟨ba_2, aw_3, cw_4, rfl, rfl⟩
  refine go_exec (rs := [.tmp 2, .tmp 3]) (by kernel_rfl) 4000 [.z [0, 1, 1, 1, 1] 1 [1, 5, 18]] (o := .stop [.o [0, 1, 1, 1, 1] 1, .c [1, 1, 1, 1, 1]] [(1, vP b_1), (5, vP ba_2), (18, vP ba_2)] [Efdc04 b_1 c, Ee9d7e ba_2 aw_3 ((List.replicate (sizeOfC c).toNat (0 : Int)).length) cw_4 0 0 0 0 false, E89d8b aw_3 cw_4 (List.replicate (sizeOfC c).toNat (0 : Int))]) (by kernel_rfl) ?_
  refine ok_stop ?_
  refine go_call (some 19) [1, 2] Tryz.call20 (arena_Store ba_2 (⟨aw_3, cw_4, (List.replicate (sizeOfC c).toNat (0 : Int)).length, (List.replicate (sizeOfC c).toNat (0 : Int)), 0, 0, 0, 0, false⟩ : Ar) 0 7597137583116413295 (by first | exact hx.2.1 | (simp [Ar.store]; done)) (by have := sizeOfC_ok hc; first | omega | (simp [Ar.store]; omega) | (have hq := blockAt_ok hc (clsOf_pos (c := c) (b := i.1) (by omega)); have := hx.2.2.1; omega)) (by simp only [Cfg.Ok] at hc; first | omega | (simp [Ar.store]; done) | (simp [Ar.store]; omega))) (by kernel_rfl) ?_
  rintro v post ⟨rfl, rfl⟩
  refine go_exec (rs := [.tmp 2, .tmp 3]) (by kernel_rfl) 4000 [.e 0, .z [0, 1, 1, 1, 1, 1] 2 [1, 5, 20, 21]] (o := .obl (b_1 = b_1) (.stop [.o [0, 1, 1, 1, 1, 1] 2, .c [1, 1, 1, 1, 1, 1]] [(1, vP b_1), (5, vP ba_2), (20, vP ba_2), (21, cfgV c)] [Efdc04 b_1 c, Ebed9f ba_2 ((⟨aw_3, cw_4, (List.replicate (sizeOfC c).toNat (0 : Int)).length, (List.replicate (sizeOfC c).toNat (0 : Int)), 0, 0, 0, 0, false⟩ : Ar).store 0 7597137583116413295), E632c4 ((⟨aw_3, cw_4, (List.replicate (sizeOfC c).toNat (0 : Int)).length, (List.replicate (sizeOfC c).toNat (0 : Int)), 0, 0, 0, 0, false⟩ : Ar).store 0 7597137583116413295)])) (by kernel_rfl) ?_
  refine ok_obl rfl ?_
  refine ok_stop ?_
  refine go_call (some 22) [] Tryz.call53 (plan_Pack c (by first | assumption | omega | (simp only [InK] at *; omega))) (by kernel_rfl) ?_
  rintro v post ⟨rfl, rfl⟩
  refine go_call (some 23) [1, 2] Tryz.call20 (arena_Store ba_2 ((⟨aw_3, cw_4, (List.replicate (sizeOfC c).toNat (0 : Int)).length, (List.replicate (sizeOfC c).toNat (0 : Int)), 0, 0, 0, 0, false⟩ : Ar).store 0 7597137583116413295) 1 (packW c) (by first | exact hx.2.1 | (simp [Ar.store]; done)) (by have := sizeOfC_ok hc; first | omega | (simp [Ar.store]; omega) | (have hq := blockAt_ok hc (clsOf_pos (c := c) (b := i.1) (by omega)); have := hx.2.2.1; omega)) (by simp only [Cfg.Ok] at hc; first | omega | (simp [Ar.store]; done) | (simp [Ar.store]; omega))) (by kernel_rfl) ?_
  rintro v post ⟨rfl, rfl⟩
  refine go_exec (rs := [.tmp 2, .tmp 3]) (by kernel_rfl) 4000 [.e 0, .u, .e 3, .e 3, .sp [32] [.z q7_2 2 [1, 5, 6, 8, 25, 26, 33, 34]] [.e 3, .n, .w, .u, .e 4, .e 4, .sp [32] [.z q7_2 2 [1, 5, 6, 8, 25, 26, 33, 34]] [.e 4, .n, .w, .u, .z q7_3 0 [1, 5, 9]]]] (o := .obl (b_1 = b_1) (.new fun b_5 => .obl (b_5 = b_5) (.obl (b_5 = b_5) (.br (decide (c.n0 > 0)) (.stop [.o q7_2 2, .c q7_4, .b 1, .c q7_5, .r q7_6, .b 0, .c q7_7] [(1, vP b_1), (5, vP ba_2), (6, vI 1), (8, vP b_5), (25, .agg #[vI c.s0, vI c.n0, vI c.s1, vI c.n1]), (26, vI 0), (33, vP ba_2), (34, vI 0)] [Efdc04 b_1 c, Ebed9f ba_2 (((⟨aw_3, cw_4, (List.replicate (sizeOfC c).toNat (0 : Int)).length, (List.replicate (sizeOfC c).toNat (0 : Int)), 0, 0, 0, 0, false⟩ : Ar).store 0 7597137583116413295).store 1 (packW c)), E632c4 (((⟨aw_3, cw_4, (List.replicate (sizeOfC c).toNat (0 : Int)).length, (List.replicate (sizeOfC c).toNat (0 : Int)), 0, 0, 0, 0, false⟩ : Ar).store 0 7597137583116413295).store 1 (packW c)), .pts b_5 [vI c.s0, vI c.n0] 26]) (.obl (b_5 = b_5) (.obl (InK .i64 (1 + c.n0)) (.new fun b_6 => .obl (b_6 = b_6) (.obl (b_6 = b_6) (.br (decide (c.n1 > 0)) (.stop [.o q7_2 2, .c q7_4, .b 1, .c q7_5, .r q7_6, .b 0, .c q7_7] [(1, vP b_1), (5, vP ba_2), (6, vI (1 + c.n0)), (8, vP b_6), (25, .agg #[vI c.s0, vI c.n0, vI c.s1, vI c.n1]), (26, vI 1), (33, vP ba_2), (34, vI 1)] [Efdc04 b_1 c, Ebed9f ba_2 (((⟨aw_3, cw_4, (List.replicate (sizeOfC c).toNat (0 : Int)).length, (List.replicate (sizeOfC c).toNat (0 : Int)), 0, 0, 0, 0, false⟩ : Ar).store 0 7597137583116413295).store 1 (packW c)), E632c4 (((⟨aw_3, cw_4, (List.replicate (sizeOfC c).toNat (0 : Int)).length, (List.replicate (sizeOfC c).toNat (0 : Int)), 0, 0, 0, 0, false⟩ : Ar).store 0 7597137583116413295).store 1 (packW c)), .pts b_5 [vI c.s0, vI c.n0] 26, .pts b_6 [vI c.s1, vI c.n1] 26]) (.obl (b_6 = b_6) (.obl (InK .i64 ((1 + c.n0) + c.n1)) (.stop [.c q7_3, .b 2, .c q7_8] [(1, vP b_1), (5, vP ba_2), (9, vI 1)] [Efdc04 b_1 c, Ebed9f ba_2 (((⟨aw_3, cw_4, (List.replicate (sizeOfC c).toNat (0 : Int)).length, (List.replicate (sizeOfC c).toNat (0 : Int)), 0, 0, 0, 0, false⟩ : Ar).store 0 7597137583116413295).store 1 (packW c)), E632c4 (((⟨aw_3, cw_4, (List.replicate (sizeOfC c).toNat (0 : Int)).length, (List.replicate (sizeOfC c).toNat (0 : Int)), 0, 0, 0, 0, false⟩ : Ar).store 0 7597137583116413295).store 1 (packW c)), .pts b_5 [vI c.s0, vI c.n0] 26, .pts b_6 [vI c.s1, vI c.n1] 26])))))))))))) (by kernel_rfl) ?_
  refine ok_obl rfl ?_
  refine ok_new fun b_5 => ?_
  refine ok_obl rfl ?_
  refine ok_obl rfl ?_
  refine ok_br (fun h_7 => ?_) (fun h_7 => ?_)
  · replace h_7 := decT h_7
    refine ok_stop ?_
    refine go_call (some 35) [] Tryz.call54 (plan_Head 0 (by first | assumption | omega | (simp only [InK] at *; omega))) (by kernel_rfl) ?_
    rintro v post ⟨rfl, rfl⟩
    refine go_exec (rs := [.tmp 2, .tmp 3]) (by kernel_rfl) 4000 [.w, .z q7_2 5 [1, 5, 6, 8, 25, 26, 33, 35, 37]] (o := .stop [.o q7_2 5, .c q7_4, .b 1, .c q7_5, .r q7_6, .b 0, .c q7_7] [(1, vP b_1), (5, vP ba_2), (6, vI 1), (8, vP b_5), (25, .agg #[vI c.s0, vI c.n0, vI c.s1, vI c.n1]), (26, vI 0), (33, vP ba_2), (35, vI (3 + 0)), (37, vU 1)] [Efdc04 b_1 c, Ebed9f ba_2 (((⟨aw_3, cw_4, (List.replicate (sizeOfC c).toNat (0 : Int)).length, (List.replicate (sizeOfC c).toNat (0 : Int)), 0, 0, 0, 0, false⟩ : Ar).store 0 7597137583116413295).store 1 (packW c)), E632c4 (((⟨aw_3, cw_4, (List.replicate (sizeOfC c).toNat (0 : Int)).length, (List.replicate (sizeOfC c).toNat (0 : Int)), 0, 0, 0, 0, false⟩ : Ar).store 0 7597137583116413295).store 1 (packW c)), .pts b_5 [vI c.s0, vI c.n0] 26]) (by kernel_rfl) ?_
    refine ok_stop ?_
    refine go_call (some 38) [1, 2] Tryz.call20 (arena_Store ba_2 (((⟨aw_3, cw_4, (List.replicate (sizeOfC c).toNat (0 : Int)).length, (List.replicate (sizeOfC c).toNat (0 : Int)), 0, 0, 0, 0, false⟩ : Ar).store 0 7597137583116413295).store 1 (packW c)) (3 + 0) 1 (by first | exact hx.2.1 | (simp [Ar.store]; done)) (by have := sizeOfC_ok hc; first | omega | (simp [Ar.store]; omega) | (have hq := blockAt_ok hc (clsOf_pos (c := c) (b := i.1) (by omega)); have := hx.2.2.1; omega)) (by simp only [Cfg.Ok] at hc; first | omega | (simp [Ar.store]; done) | (simp [Ar.store]; omega))) (by kernel_rfl) ?_
    rintro v post ⟨rfl, rfl⟩
    refine go_exec (rs := [.tmp 2, .tmp 3]) (by kernel_rfl) 4000 [.e 1, .n, .w, .u, .e 4, .e 4, .sp [32] [.z q7_2 2 [1, 5, 6, 8, 25, 26, 33, 34]] [.e 4, .n, .w, .u, .z q7_3 0 [1, 5, 9]]] (o := .obl (b_5 = b_5) (.obl (InK .i64 (1 + c.n0)) (.new fun b_8 => .obl (b_8 = b_8) (.obl (b_8 = b_8) (.br (decide (c.n1 > 0)) (.stop [.o q7_2 2, .c q7_4, .b 1, .c q7_5, .r q7_6, .b 0, .c q7_7] [(1, vP b_1), (5, vP ba_2), (6, vI (1 + c.n0)), (8, vP b_8), (25, .agg #[vI c.s0, vI c.n0, vI c.s1, vI c.n1]), (26, vI 1), (33, vP ba_2), (34, vI 1)] [Efdc04 b_1 c, .pts b_5 [vI c.s0, vI c.n0] 26, Ebed9f ba_2 ((((⟨aw_3, cw_4, (List.replicate (sizeOfC c).toNat (0 : Int)).length, (List.replicate (sizeOfC c).toNat (0 : Int)), 0, 0, 0, 0, false⟩ : Ar).store 0 7597137583116413295).store 1 (packW c)).store (3 + 0) 1), E632c4 ((((⟨aw_3, cw_4, (List.replicate (sizeOfC c).toNat (0 : Int)).length, (List.replicate (sizeOfC c).toNat (0 : Int)), 0, 0, 0, 0, false⟩ : Ar).store 0 7597137583116413295).store 1 (packW c)).store (3 + 0) 1), .pts b_8 [vI c.s1, vI c.n1] 26]) (.obl (b_8 = b_8) (.obl (InK .i64 ((1 + c.n0) + c.n1)) (.stop [.c q7_3, .b 2, .c q7_8] [(1, vP b_1), (5, vP ba_2), (9, vI 1)] [Efdc04 b_1 c, .pts b_5 [vI c.s0, vI c.n0] 26, Ebed9f ba_2 ((((⟨aw_3, cw_4, (List.replicate (sizeOfC c).toNat (0 : Int)).length, (List.replicate (sizeOfC c).toNat (0 : Int)), 0, 0, 0, 0, false⟩ : Ar).store 0 7597137583116413295).store 1 (packW c)).store (3 + 0) 1), E632c4 ((((⟨aw_3, cw_4, (List.replicate (sizeOfC c).toNat (0 : Int)).length, (List.replicate (sizeOfC c).toNat (0 : Int)), 0, 0, 0, 0, false⟩ : Ar).store 0 7597137583116413295).store 1 (packW c)).store (3 + 0) 1), .pts b_8 [vI c.s1, vI c.n1] 26])))))))) (by kernel_rfl) ?_
    refine ok_obl rfl ?_
    refine ok_obl (by simp only [Cfg.Ok, InK] at *; omega) ?_
    refine ok_new fun b_8 => ?_
    refine ok_obl rfl ?_
    refine ok_obl rfl ?_
    refine ok_br (fun h_9 => ?_) (fun h_9 => ?_)
    · replace h_9 := decT h_9
      refine ok_stop ?_
      refine go_call (some 35) [] Tryz.call54 (plan_Head 1 (by first | assumption | omega | (simp only [InK] at *; omega))) (by kernel_rfl) ?_
      rintro v post ⟨rfl, rfl⟩
      refine go_exec (rs := [.tmp 2, .tmp 3]) (by kernel_rfl) 4000 [.n, .z q7_2 5 [1, 5, 6, 8, 25, 26, 33, 35, 37]] (o := .obl (InK .u64 (1 + c.n0)) (.stop [.o q7_2 5, .c q7_4, .b 1, .c q7_5, .r q7_6, .b 0, .c q7_7] [(1, vP b_1), (5, vP ba_2), (6, vI (1 + c.n0)), (8, vP b_8), (25, .agg #[vI c.s0, vI c.n0, vI c.s1, vI c.n1]), (26, vI 1), (33, vP ba_2), (35, vI (3 + 1)), (37, vU (1 + c.n0))] [Efdc04 b_1 c, .pts b_5 [vI c.s0, vI c.n0] 26, Ebed9f ba_2 ((((⟨aw_3, cw_4, (List.replicate (sizeOfC c).toNat (0 : Int)).length, (List.replicate (sizeOfC c).toNat (0 : Int)), 0, 0, 0, 0, false⟩ : Ar).store 0 7597137583116413295).store 1 (packW c)).store (3 + 0) 1), E632c4 ((((⟨aw_3, cw_4, (List.replicate (sizeOfC c).toNat (0 : Int)).length, (List.replicate (sizeOfC c).toNat (0 : Int)), 0, 0, 0, 0, false⟩ : Ar).store 0 7597137583116413295).store 1 (packW c)).store (3 + 0) 1), .pts b_8 [vI c.s1, vI c.n1] 26])) (by kernel_rfl) ?_
      refine ok_obl (by simp only [Cfg.Ok, InK] at *; omega) ?_
      refine ok_stop ?_
      refine go_call (some 38) [2, 3] Tryz.call20 (arena_Store ba_2 ((((⟨aw_3, cw_4, (List.replicate (sizeOfC c).toNat (0 : Int)).length, (List.replicate (sizeOfC c).toNat (0 : Int)), 0, 0, 0, 0, false⟩ : Ar).store 0 7597137583116413295).store 1 (packW c)).store (3 + 0) 1) (3 + 1) (1 + c.n0) (by first | exact hx.2.1 | (simp [Ar.store]; done)) (by have := sizeOfC_ok hc; first | omega | (simp [Ar.store]; omega) | (have hq := blockAt_ok hc (clsOf_pos (c := c) (b := i.1) (by omega)); have := hx.2.2.1; omega)) (by simp only [Cfg.Ok] at hc; first | omega | (simp [Ar.store]; done) | (simp [Ar.store]; omega))) (by kernel_rfl) ?_
      rintro v post ⟨rfl, rfl⟩
      refine go_exec (rs := [.tmp 2, .tmp 3]) (by kernel_rfl) 4000 [.e 2, .n, .w, .u, .z q7_3 0 [1, 5, 9]] (o := .obl (b_8 = b_8) (.obl (InK .i64 ((1 + c.n0) + c.n1)) (.stop [.c q7_3, .b 2, .c q7_8] [(1, vP b_1), (5, vP ba_2), (9, vI 1)] [Efdc04 b_1 c, .pts b_5 [vI c.s0, vI c.n0] 26, .pts b_8 [vI c.s1, vI c.n1] 26, Ebed9f ba_2 (((((⟨aw_3, cw_4, (List.replicate (sizeOfC c).toNat (0 : Int)).length, (List.replicate (sizeOfC c).toNat (0 : Int)), 0, 0, 0, 0, false⟩ : Ar).store 0 7597137583116413295).store 1 (packW c)).store (3 + 0) 1).store (3 + 1) (1 + c.n0)), E632c4 (((((⟨aw_3, cw_4, (List.replicate (sizeOfC c).toNat (0 : Int)).length, (List.replicate (sizeOfC c).toNat (0 : Int)), 0, 0, 0, 0, false⟩ : Ar).store 0 7597137583116413295).store 1 (packW c)).store (3 + 0) 1).store (3 + 1) (1 + c.n0))]))) (by kernel_rfl) ?_
      refine ok_obl rfl ?_
      refine ok_obl (by simp only [Cfg.Ok, InK] at *; omega) ?_
      refine ok_stop ?_
      have hA0 : (((((⟨aw_3, cw_4, (List.replicate (sizeOfC c).toNat (0 : Int)).length, (List.replicate (sizeOfC c).toNat (0 : Int)), 0, 0, 0, 0, false⟩ : Ar).store 0 7597137583116413295).store 1 (packW c)).store (3 + 0) 1).store (3 + 1) (1 + c.n0)).ws.length = (((((⟨aw_3, cw_4, (List.replicate (sizeOfC c).toNat (0 : Int)).length, (List.replicate (sizeOfC c).toNat (0 : Int)), 0, 0, 0, 0, false⟩ : Ar).store 0 7597137583116413295).store 1 (packW c)).store (3 + 0) 1).store (3 + 1) (1 + c.n0)).n ∧ ((((((⟨aw_3, cw_4, (List.replicate (sizeOfC c).toNat (0 : Int)).length, (List.replicate (sizeOfC c).toNat (0 : Int)), 0, 0, 0, 0, false⟩ : Ar).store 0 7597137583116413295).store 1 (packW c)).store (3 + 0) 1).store (3 + 1) (1 + c.n0)).n : Int) = sizeOfC c ∧ 0 ≤ (((((⟨aw_3, cw_4, (List.replicate (sizeOfC c).toNat (0 : Int)).length, (List.replicate (sizeOfC c).toNat (0 : Int)), 0, 0, 0, 0, false⟩ : Ar).store 0 7597137583116413295).store 1 (packW c)).store (3 + 0) 1).store (3 + 1) (1 + c.n0)).steps ∧ (((((⟨aw_3, cw_4, (List.replicate (sizeOfC c).toNat (0 : Int)).length, (List.replicate (sizeOfC c).toNat (0 : Int)), 0, 0, 0, 0, false⟩ : Ar).store 0 7597137583116413295).store 1 (packW c)).store (3 + 0) 1).store (3 + 1) (1 + c.n0)).steps ≤ 4 := by have := sizeOfC_ok hc; simp [Ar.store]; omega
      refine go_loop (ι := Int × Ar) (fun i => [(1, vP b_1), (5, vP ba_2), (9, vI i.1)]) (fun i => [Efdc04 b_1 c, Ebed9f ba_2 i.2, E632c4 i.2]) (fun i => mkLink c (c.n0 + c.n1 - i.1).toNat i.1 i.2 = mkAr c aw_3 cw_4 ∧ i.2.ws.length = i.2.n ∧ (i.2.n : Int) = sizeOfC c ∧ (0 ≤ i.2.steps ∧ i.2.steps ≤ 4 + i.1) ∧ 1 ≤ i.1) (fun i => (c.n0 + c.n1 - i.1).toNat) (1, (((((⟨aw_3, cw_4, (List.replicate (sizeOfC c).toNat (0 : Int)).length, (List.replicate (sizeOfC c).toNat (0 : Int)), 0, 0, 0, 0, false⟩ : Ar).store 0 7597137583116413295).store 1 (packW c)).store (3 + 0) 1).store (3 + 1) (1 + c.n0))) [1, 5, 9] [0, 3, 4] (by kernel_rfl) rfl (by kernel_rfl) (by kernel_rfl) ⟨(by unfold mkAr mkHead; (repeat' (first | rw [if_pos (show 0 < c.n1 by omega)] | rw [if_pos (show 0 < c.n0 by omega)] | rw [if_neg (show ¬ 0 < c.n1 by omega)] | rw [if_neg (show ¬ 0 < c.n0 by omega)])); first | done | kernel_rfl), hA0.1, hA0.2.1, (by dsimp only; omega), (by dsimp only; omega)⟩ ?_
      intro i J_10 hIJ_10 hJ_10
      have hx := hIJ_10
      refine go_exec (rs := [.tmp 2, .tmp 3]) (by kernel_rfl) 4000 [.e 0, .z q7_9 2 [1, 5, 9, 44, 45]] (o := .obl (b_1 = b_1) (.stop [.o q7_9 2, .c q7_10, .c q7_11, .j J_10, .b 2, .c q7_8] [(1, vP b_1), (5, vP ba_2), (9, vI i.1), (44, vI i.1), (45, cfgV c)] [Efdc04 b_1 c, Ebed9f ba_2 i.2, E632c4 i.2])) (by kernel_rfl) ?_
      refine ok_obl rfl ?_
      refine ok_stop ?_
      refine go_call (some 46) [] Tryz.call55 (plan_Blocks c (by first | assumption | omega | (simp only [InK] at *; omega))) (by kernel_rfl) ?_
      rintro v post ⟨rfl, rfl⟩
      refine go_exec (rs := [.tmp 2, .tmp 3]) (by kernel_rfl) 4000 [.sp [47] [.z q7_12 0 [1, 5, 9]] []] (o := .br (decide (i.1 < (c.n0 + c.n1))) (.stop [.c q7_12, .c q7_13, .b 3, .c q7_14, .j J_10, .b 2, .c q7_8] [(1, vP b_1), (5, vP ba_2), (9, vI i.1)] [Efdc04 b_1 c, Ebed9f ba_2 i.2, E632c4 i.2]) (.ret (.tuple #[vP ba_2, .nilIface]) [Efdc04 b_1 c, Ebed9f ba_2 i.2, E632c4 i.2])) (by kernel_rfl) ?_
      refine ok_br (fun h_11 => ?_) (fun h_11 => ?_)
      · replace h_11 := decT h_11
        refine ok_stop ?_
        refine go_quiet (tm' := [(1, vP b_1), (5, vP ba_2), (9, vI i.1), (57, .bool ((clsOf c i.1) == (clsOf c (i.1 + 1))))]) (ps := [b_1 = b_1, b_1 = b_1, InK .i64 (i.1 + 1)]) (cs := [(48, #[cfgV c, vI i.1], vI (clsOf c i.1)), (48, #[cfgV c, vI (i.1 + 1)], vI (clsOf c (i.1 + 1)))]) [(0, .h (.e 0)), (1, .h .w), (2, .q (vI (clsOf c i.1))), (3, .h (.e 0)), (4, .h .w), (5, .h (.n)), (6, .q (vI (clsOf c (i.1 + 1)))), (7, .h .w)] [1, 5, 9, 57] (by kernel_rfl) (by kernel_rfl) ⟨rfl, rfl, (by simp only [Cfg.Ok, InK] at *; omega), trivial⟩ ⟨⟨Tryz.call48, quiet_of [] (plan_Class c i.1 (by first | assumption | omega | (simp only [InK] at *; omega)) (by simp only [Cfg.Ok, InK] at *; omega)) (by kernel_rfl) (by rintro v post ⟨rfl, rfl⟩; exact ⟨rfl, rfl⟩)⟩, ⟨Tryz.call48, quiet_of [] (plan_Class c (i.1 + 1) (by first | assumption | omega | (simp only [InK] at *; omega)) (by simp only [Cfg.Ok, InK] at *; omega)) (by kernel_rfl) (by rintro v post ⟨rfl, rfl⟩; exact ⟨rfl, rfl⟩)⟩, trivial⟩ ?_
        refine go_exec (rs := [.tmp 2, .tmp 3]) (by kernel_rfl) 4000 [.sp [57] [.e 0, .z q7_15 3 [1, 5, 9, 58, 59, 60]] [.n, .z [] 0 [1, 5, 9]]] (o := .br ((clsOf c i.1) == (clsOf c (i.1 + 1))) (.obl (b_1 = b_1) (.stop [.o q7_15 3, .b 3, .c q7_14, .j J_10, .b 2, .c q7_8] [(1, vP b_1), (5, vP ba_2), (9, vI i.1), (58, vP ba_2), (59, cfgV c), (60, vI i.1)] [Efdc04 b_1 c, Ebed9f ba_2 i.2, E632c4 i.2])) (.obl (InK .i64 (i.1 + 1)) (.stop [.j J_10, .b 2, .c q7_8] [(1, vP b_1), (5, vP ba_2), (9, vI (i.1 + 1))] [Efdc04 b_1 c, Ebed9f ba_2 i.2, E632c4 i.2]))) (by kernel_rfl) ?_
        refine ok_br (fun h_12 => ?_) (fun h_12 => ?_)
        · replace h_12 := beqT h_12
          refine ok_obl rfl ?_
          refine ok_stop ?_
          refine go_call (some 61) [] Tryz.call37 (plan_Block c i.1 (by first | assumption | omega | (simp only [InK] at *; omega)) (by simp only [Cfg.Ok, InK] at *; omega)) (by kernel_rfl) ?_
          rintro v post ⟨rfl, rfl⟩
          refine go_exec (rs := [.tmp 2, .tmp 3]) (by kernel_rfl) 4000 [.n, .n, .z q7_15 7 [1, 5, 9, 58, 61, 64]] (o := .obl (InK .i64 (i.1 + 1)) (.obl (InK .u64 (i.1 + 1)) (.stop [.o q7_15 7, .b 3, .c q7_14, .j J_10, .b 2, .c q7_8] [(1, vP b_1), (5, vP ba_2), (9, vI i.1), (58, vP ba_2), (61, vI (blockAt c i.1)), (64, vU (i.1 + 1))] [Efdc04 b_1 c, Ebed9f ba_2 i.2, E632c4 i.2]))) (by kernel_rfl) ?_
          refine ok_obl (by simp only [Cfg.Ok, InK] at *; omega) ?_
          refine ok_obl (by simp only [Cfg.Ok, InK] at *; omega) ?_
          refine ok_stop ?_
          refine go_call (some 65) [1, 2] Tryz.call20 (arena_Store ba_2 i.2 (blockAt c i.1) (i.1 + 1) (by first | exact hx.2.1 | (simp [Ar.store]; done)) (by have := sizeOfC_ok hc; first | omega | (simp [Ar.store]; omega) | (have hq := blockAt_ok hc (clsOf_pos (c := c) (b := i.1) (by omega)); have := hx.2.2.1; omega)) (by simp only [Cfg.Ok] at hc; first | omega | (simp [Ar.store]; done) | (simp [Ar.store]; omega))) (by kernel_rfl) ?_
          rintro v post ⟨rfl, rfl⟩
          refine go_exec (rs := [.tmp 2, .tmp 3]) (by kernel_rfl) 4000 [.n, .z [] 0 [1, 5, 9]] (o := .obl (InK .i64 (i.1 + 1)) (.stop [.j J_10, .b 2, .c q7_8] [(1, vP b_1), (5, vP ba_2), (9, vI (i.1 + 1))] [Efdc04 b_1 c, Ebed9f ba_2 (i.2.store (blockAt c i.1) (i.1 + 1)), E632c4 (i.2.store (blockAt c i.1) (i.1 + 1))])) (by kernel_rfl) ?_
          refine ok_obl (by simp only [Cfg.Ok, InK] at *; omega) ?_
          refine ok_stop ?_
          exact go_back hJ_10 ((i.1 + 1), (i.2.store (blockAt c i.1) (i.1 + 1))) [0, 1, 2] (by kernel_rfl) rfl (by kernel_rfl) ⟨(by rw [← hx.1, mkLink_next (c := c) (b := i.1) (A := i.2) (by omega), if_pos (by assumption)]), (by first | exact hx.2.1 | (simp only [Ar.store, List.length_set]; exact hx.2.1)), hx.2.2.1, (by simp only [Ar.store] at *; omega), (by omega)⟩ (by simp; omega)
        · replace h_12 := beqF h_12
          refine ok_obl (by simp only [Cfg.Ok, InK] at *; omega) ?_
          refine ok_stop ?_
          exact go_back hJ_10 ((i.1 + 1), i.2) [0, 1, 2] (by kernel_rfl) rfl (by kernel_rfl) ⟨(by rw [← hx.1, mkLink_next (c := c) (b := i.1) (A := i.2) (by omega), if_neg (by assumption)]), (by first | exact hx.2.1 | (simp only [Ar.store, List.length_set]; exact hx.2.1)), hx.2.2.1, (by simp only [Ar.store] at *; omega), (by omega)⟩ (by simp; omega)
      · replace h_11 := decF h_11
        exact ret_ok (post := [Ebed9f ba_2 i.2, E632c4 i.2]) [1, 2] (by kernel_rfl) ⟨ba_2, aw_3, cw_4, rfl, (by rw [← hx.1, mkLink_end (c := c) (b := i.1) (A := i.2) (by omega)])⟩
    · replace h_9 := decF h_9
      refine ok_obl rfl ?_
      refine ok_obl (by simp only [Cfg.Ok, InK] at *; omega) ?_
      refine ok_stop ?_
      have hA0 : ((((⟨aw_3, cw_4, (List.replicate (sizeOfC c).toNat (0 : Int)).length, (List.replicate (sizeOfC c).toNat (0 : Int)), 0, 0, 0, 0, false⟩ : Ar).store 0 7597137583116413295).store 1 (packW c)).store (3 + 0) 1).ws.length = ((((⟨aw_3, cw_4, (List.replicate (sizeOfC c).toNat (0 : Int)).length, (List.replicate (sizeOfC c).toNat (0 : Int)), 0, 0, 0, 0, false⟩ : Ar).store 0 7597137583116413295).store 1 (packW c)).store (3 + 0) 1).n ∧ (((((⟨aw_3, cw_4, (List.replicate (sizeOfC c).toNat (0 : Int)).length, (List.replicate (sizeOfC c).toNat (0 : Int)), 0, 0, 0, 0, false⟩ : Ar).store 0 7597137583116413295).store 1 (packW c)).store (3 + 0) 1).n : Int) = sizeOfC c ∧ 0 ≤ ((((⟨aw_3, cw_4, (List.replicate (sizeOfC c).toNat (0 : Int)).length, (List.replicate (sizeOfC c).toNat (0 : Int)), 0, 0, 0, 0, false⟩ : Ar).store 0 7597137583116413295).store 1 (packW c)).store (3 + 0) 1).steps ∧ ((((⟨aw_3, cw_4, (List.replicate (sizeOfC c).toNat (0 : Int)).length, (List.replicate (sizeOfC c).toNat (0 : Int)), 0, 0, 0, 0, false⟩ : Ar).store 0 7597137583116413295).store 1 (packW c)).store (3 + 0) 1).steps ≤ 4 := by have := sizeOfC_ok hc; simp [Ar.store]; omega
      refine go_loop (ι := Int × Ar) (fun i => [(1, vP b_1), (5, vP ba_2), (9, vI i.1)]) (fun i => [Efdc04 b_1 c, Ebed9f ba_2 i.2, E632c4 i.2]) (fun i => mkLink c (c.n0 + c.n1 - i.1).toNat i.1 i.2 = mkAr c aw_3 cw_4 ∧ i.2.ws.length = i.2.n ∧ (i.2.n : Int) = sizeOfC c ∧ (0 ≤ i.2.steps ∧ i.2.steps ≤ 4 + i.1) ∧ 1 ≤ i.1) (fun i => (c.n0 + c.n1 - i.1).toNat) (1, ((((⟨aw_3, cw_4, (List.replicate (sizeOfC c).toNat (0 : Int)).length, (List.replicate (sizeOfC c).toNat (0 : Int)), 0, 0, 0, 0, false⟩ : Ar).store 0 7597137583116413295).store 1 (packW c)).store (3 + 0) 1)) [1, 5, 9] [0, 2, 3] (by kernel_rfl) rfl (by kernel_rfl) (by kernel_rfl) ⟨(by unfold mkAr mkHead; (repeat' (first | rw [if_pos (show 0 < c.n1 by omega)] | rw [if_pos (show 0 < c.n0 by omega)] | rw [if_neg (show ¬ 0 < c.n1 by omega)] | rw [if_neg (show ¬ 0 < c.n0 by omega)])); first | done | kernel_rfl), hA0.1, hA0.2.1, (by dsimp only; omega), (by dsimp only; omega)⟩ ?_
      intro i J_13 hIJ_13 hJ_13
      have hx := hIJ_13
      refine go_exec (rs := [.tmp 2, .tmp 3]) (by kernel_rfl) 4000 [.e 0, .z q7_9 2 [1, 5, 9, 44, 45]] (o := .obl (b_1 = b_1) (.stop [.o q7_9 2, .c q7_10, .c q7_11, .j J_13, .b 2, .c q7_8] [(1, vP b_1), (5, vP ba_2), (9, vI i.1), (44, vI i.1), (45, cfgV c)] [Efdc04 b_1 c, Ebed9f ba_2 i.2, E632c4 i.2])) (by kernel_rfl) ?_
      refine ok_obl rfl ?_
      refine ok_stop ?_
      refine go_call (some 46) [] Tryz.call55 (plan_Blocks c (by first | assumption | omega | (simp only [InK] at *; omega))) (by kernel_rfl) ?_
      rintro v post ⟨rfl, rfl⟩
      refine go_exec (rs := [.tmp 2, .tmp 3]) (by kernel_rfl) 4000 [.sp [47] [.z q7_12 0 [1, 5, 9]] []] (o := .br (decide (i.1 < (c.n0 + c.n1))) (.stop [.c q7_12, .c q7_13, .b 3, .c q7_14, .j J_13, .b 2, .c q7_8] [(1, vP b_1), (5, vP ba_2), (9, vI i.1)] [Efdc04 b_1 c, Ebed9f ba_2 i.2, E632c4 i.2]) (.ret (.tuple #[vP ba_2, .nilIface]) [Efdc04 b_1 c, Ebed9f ba_2 i.2, E632c4 i.2])) (by kernel_rfl) ?_
      refine ok_br (fun h_14 => ?_) (fun h_14 => ?_)
      · replace h_14 := decT h_14
        refine ok_stop ?_
        refine go_quiet (tm' := [(1, vP b_1), (5, vP ba_2), (9, vI i.1), (57, .bool ((clsOf c i.1) == (clsOf c (i.1 + 1))))]) (ps := [b_1 = b_1, b_1 = b_1, InK .i64 (i.1 + 1)]) (cs := [(48, #[cfgV c, vI i.1], vI (clsOf c i.1)), (48, #[cfgV c, vI (i.1 + 1)], vI (clsOf c (i.1 + 1)))]) [(0, .h (.e 0)), (1, .h .w), (2, .q (vI (clsOf c i.1))), (3, .h (.e 0)), (4, .h .w), (5, .h (.n)), (6, .q (vI (clsOf c (i.1 + 1)))), (7, .h .w)] [1, 5, 9, 57] (by kernel_rfl) (by kernel_rfl) ⟨rfl, rfl, (by simp only [Cfg.Ok, InK] at *; omega), trivial⟩ ⟨⟨Tryz.call48, quiet_of [] (plan_Class c i.1 (by first | assumption | omega | (simp only [InK] at *; omega)) (by simp only [Cfg.Ok, InK] at *; omega)) (by kernel_rfl) (by rintro v post ⟨rfl, rfl⟩; exact ⟨rfl, rfl⟩)⟩, ⟨Tryz.call48, quiet_of [] (plan_Class c (i.1 + 1) (by first | assumption | omega | (simp only [InK] at *; omega)) (by simp only [Cfg.Ok, InK] at *; omega)) (by kernel_rfl) (by rintro v post ⟨rfl, rfl⟩; exact ⟨rfl, rfl⟩)⟩, trivial⟩ ?_
        refine go_exec (rs := [.tmp 2, .tmp 3]) (by kernel_rfl) 4000 [.sp [57] [.e 0, .z q7_15 3 [1, 5, 9, 58, 59, 60]] [.n, .z [] 0 [1, 5, 9]]] (o := .br ((clsOf c i.1) == (clsOf c (i.1 + 1))) (.obl (b_1 = b_1) (.stop [.o q7_15 3, .b 3, .c q7_14, .j J_13, .b 2, .c q7_8] [(1, vP b_1), (5, vP ba_2), (9, vI i.1), (58, vP ba_2), (59, cfgV c), (60, vI i.1)] [Efdc04 b_1 c, Ebed9f ba_2 i.2, E632c4 i.2])) (.obl (InK .i64 (i.1 + 1)) (.stop [.j J_13, .b 2, .c q7_8] [(1, vP b_1), (5, vP ba_2), (9, vI (i.1 + 1))] [Efdc04 b_1 c, Ebed9f ba_2 i.2, E632c4 i.2]))) (by kernel_rfl) ?_
        refine ok_br (fun h_15 => ?_) (fun h_15 => ?_)
        · replace h_15 := beqT h_15
          refine ok_obl rfl ?_
          refine ok_stop ?_
          refine go_call (some 61) [] Tryz.call37 (plan_Block c i.1 (by first | assumption | omega | (simp only [InK] at *; omega)) (by simp only [Cfg.Ok, InK] at *; omega)) (by kernel_rfl) ?_
          rintro v post ⟨rfl, rfl⟩
          refine go_exec (rs := [.tmp 2, .tmp 3]) (by kernel_rfl) 4000 [.n, .n, .z q7_15 7 [1, 5, 9, 58, 61, 64]] (o := .obl (InK .i64 (i.1 + 1)) (.obl (InK .u64 (i.1 + 1)) (.stop [.o q7_15 7, .b 3, .c q7_14, .j J_13, .b 2, .c q7_8] [(1, vP b_1), (5, vP ba_2), (9, vI i.1), (58, vP ba_2), (61, vI (blockAt c i.1)), (64, vU (i.1 + 1))] [Efdc04 b_1 c, Ebed9f ba_2 i.2, E632c4 i.2]))) (by kernel_rfl) ?_
          refine ok_obl (by simp only [Cfg.Ok, InK] at *; omega) ?_
          refine ok_obl (by simp only [Cfg.Ok, InK] at *; omega) ?_
          refine ok_stop ?_
          refine go_call (some 65) [1, 2] Tryz.call20 (arena_Store ba_2 i.2 (blockAt c i.1) (i.1 + 1) (by first | exact hx.2.1 | (simp [Ar.store]; done)) (by have := sizeOfC_ok hc; first | omega | (simp [Ar.store]; omega) | (have hq := blockAt_ok hc (clsOf_pos (c := c) (b := i.1) (by omega)); have := hx.2.2.1; omega)) (by simp only [Cfg.Ok] at hc; first | omega | (simp [Ar.store]; done) | (simp [Ar.store]; omega))) (by kernel_rfl) ?_
          rintro v post ⟨rfl, rfl⟩
          refine go_exec (rs := [.tmp 2, .tmp 3]) (by kernel_rfl) 4000 [.n, .z [] 0 [1, 5, 9]] (o := .obl (InK .i64 (i.1 + 1)) (.stop [.j J_13, .b 2, .c q7_8] [(1, vP b_1), (5, vP ba_2), (9, vI (i.1 + 1))] [Efdc04 b_1 c, Ebed9f ba_2 (i.2.store (blockAt c i.1) (i.1 + 1)), E632c4 (i.2.store (blockAt c i.1) (i.1 + 1))])) (by kernel_rfl) ?_
          refine ok_obl (by simp only [Cfg.Ok, InK] at *; omega) ?_
          refine ok_stop ?_
          exact go_back hJ_13 ((i.1 + 1), (i.2.store (blockAt c i.1) (i.1 + 1))) [0, 1, 2] (by kernel_rfl) rfl (by kernel_rfl) ⟨(by rw [← hx.1, mkLink_next (c := c) (b := i.1) (A := i.2) (by omega), if_pos (by assumption)]), (by first | exact hx.2.1 | (simp only [Ar.store, List.length_set]; exact hx.2.1)), hx.2.2.1, (by simp only [Ar.store] at *; omega), (by omega)⟩ (by simp; omega)
        · replace h_15 := beqF h_15
          refine ok_obl (by simp only [Cfg.Ok, InK] at *; omega) ?_
          refine ok_stop ?_
          exact go_back hJ_13 ((i.1 + 1), i.2) [0, 1, 2] (by kernel_rfl) rfl (by kernel_rfl) ⟨(by rw [← hx.1, mkLink_next (c := c) (b := i.1) (A := i.2) (by omega), if_neg (by assumption)]), (by first | exact hx.2.1 | (simp only [Ar.store, List.length_set]; exact hx.2.1)), hx.2.2.1, (by simp only [Ar.store] at *; omega), (by omega)⟩ (by simp; omega)
      · replace h_14 := decF h_14
        exact ret_ok (post := [Ebed9f ba_2 i.2, E632c4 i.2]) [1, 2] (by kernel_rfl) ⟨ba_2, aw_3, cw_4, rfl, (by rw [← hx.1, mkLink_end (c := c) (b := i.1) (A := i.2) (by omega)])⟩
  · replace h_7 := decF h_7
    refine ok_obl rfl ?_
    refine ok_obl (by simp only [Cfg.Ok, InK] at *; omega) ?_
    refine ok_new fun b_6 => ?_
    refine ok_obl rfl ?_
    refine ok_obl rfl ?_
    refine ok_br (fun h_16 => ?_) (fun h_16 => ?_)
    · replace h_16 := decT h_16
      refine ok_stop ?_
      refine go_call (some 35) [] Tryz.call54 (plan_Head 1 (by first | assumption | omega | (simp only [InK] at *; omega))) (by kernel_rfl) ?_
      rintro v post ⟨rfl, rfl⟩
      refine go_exec (rs := [.tmp 2, .tmp 3]) (by kernel_rfl) 4000 [.n, .z q7_2 5 [1, 5, 6, 8, 25, 26, 33, 35, 37]] (o := .obl (InK .u64 (1 + c.n0)) (.stop [.o q7_2 5, .c q7_4, .b 1, .c q7_5, .r q7_6, .b 0, .c q7_7] [(1, vP b_1), (5, vP ba_2), (6, vI (1 + c.n0)), (8, vP b_6), (25, .agg #[vI c.s0, vI c.n0, vI c.s1, vI c.n1]), (26, vI 1), (33, vP ba_2), (35, vI (3 + 1)), (37, vU (1 + c.n0))] [Efdc04 b_1 c, Ebed9f ba_2 (((⟨aw_3, cw_4, (List.replicate (sizeOfC c).toNat (0 : Int)).length, (List.replicate (sizeOfC c).toNat (0 : Int)), 0, 0, 0, 0, false⟩ : Ar).store 0 7597137583116413295).store 1 (packW c)), E632c4 (((⟨aw_3, cw_4, (List.replicate (sizeOfC c).toNat (0 : Int)).length, (List.replicate (sizeOfC c).toNat (0 : Int)), 0, 0, 0, 0, false⟩ : Ar).store 0 7597137583116413295).store 1 (packW c)), .pts b_5 [vI c.s0, vI c.n0] 26, .pts b_6 [vI c.s1, vI c.n1] 26])) (by kernel_rfl) ?_
      refine ok_obl (by simp only [Cfg.Ok, InK] at *; omega) ?_
      refine ok_stop ?_
      refine go_call (some 38) [1, 2] Tryz.call20 (arena_Store ba_2 (((⟨aw_3, cw_4, (List.replicate (sizeOfC c).toNat (0 : Int)).length, (List.replicate (sizeOfC c).toNat (0 : Int)), 0, 0, 0, 0, false⟩ : Ar).store 0 7597137583116413295).store 1 (packW c)) (3 + 1) (1 + c.n0) (by first | exact hx.2.1 | (simp [Ar.store]; done)) (by have := sizeOfC_ok hc; first | omega | (simp [Ar.store]; omega) | (have hq := blockAt_ok hc (clsOf_pos (c := c) (b := i.1) (by omega)); have := hx.2.2.1; omega)) (by simp only [Cfg.Ok] at hc; first | omega | (simp [Ar.store]; done) | (simp [Ar.store]; omega))) (by kernel_rfl) ?_
      rintro v post ⟨rfl, rfl⟩
      refine go_exec (rs := [.tmp 2, .tmp 3]) (by kernel_rfl) 4000 [.e 2, .n, .w, .u, .z q7_3 0 [1, 5, 9]] (o := .obl (b_6 = b_6) (.obl (InK .i64 ((1 + c.n0) + c.n1)) (.stop [.c q7_3, .b 2, .c q7_8] [(1, vP b_1), (5, vP ba_2), (9, vI 1)] [Efdc04 b_1 c, .pts b_5 [vI c.s0, vI c.n0] 26, .pts b_6 [vI c.s1, vI c.n1] 26, Ebed9f ba_2 ((((⟨aw_3, cw_4, (List.replicate (sizeOfC c).toNat (0 : Int)).length, (List.replicate (sizeOfC c).toNat (0 : Int)), 0, 0, 0, 0, false⟩ : Ar).store 0 7597137583116413295).store 1 (packW c)).store (3 + 1) (1 + c.n0)), E632c4 ((((⟨aw_3, cw_4, (List.replicate (sizeOfC c).toNat (0 : Int)).length, (List.replicate (sizeOfC c).toNat (0 : Int)), 0, 0, 0, 0, false⟩ : Ar).store 0 7597137583116413295).store 1 (packW c)).store (3 + 1) (1 + c.n0))]))) (by kernel_rfl) ?_
      refine ok_obl rfl ?_
      refine ok_obl (by simp only [Cfg.Ok, InK] at *; omega) ?_
      refine ok_stop ?_
      have hA0 : ((((⟨aw_3, cw_4, (List.replicate (sizeOfC c).toNat (0 : Int)).length, (List.replicate (sizeOfC c).toNat (0 : Int)), 0, 0, 0, 0, false⟩ : Ar).store 0 7597137583116413295).store 1 (packW c)).store (3 + 1) (1 + c.n0)).ws.length = ((((⟨aw_3, cw_4, (List.replicate (sizeOfC c).toNat (0 : Int)).length, (List.replicate (sizeOfC c).toNat (0 : Int)), 0, 0, 0, 0, false⟩ : Ar).store 0 7597137583116413295).store 1 (packW c)).store (3 + 1) (1 + c.n0)).n ∧ (((((⟨aw_3, cw_4, (List.replicate (sizeOfC c).toNat (0 : Int)).length, (List.replicate (sizeOfC c).toNat (0 : Int)), 0, 0, 0, 0, false⟩ : Ar).store 0 7597137583116413295).store 1 (packW c)).store (3 + 1) (1 + c.n0)).n : Int) = sizeOfC c ∧ 0 ≤ ((((⟨aw_3, cw_4, (List.replicate (sizeOfC c).toNat (0 : Int)).length, (List.replicate (sizeOfC c).toNat (0 : Int)), 0, 0, 0, 0, false⟩ : Ar).store 0 7597137583116413295).store 1 (packW c)).store (3 + 1) (1 + c.n0)).steps ∧ ((((⟨aw_3, cw_4, (List.replicate (sizeOfC c).toNat (0 : Int)).length, (List.replicate (sizeOfC c).toNat (0 : Int)), 0, 0, 0, 0, false⟩ : Ar).store 0 7597137583116413295).store 1 (packW c)).store (3 + 1) (1 + c.n0)).steps ≤ 4 := by have := sizeOfC_ok hc; simp [Ar.store]; omega
      refine go_loop (ι := Int × Ar) (fun i => [(1, vP b_1), (5, vP ba_2), (9, vI i.1)]) (fun i => [Efdc04 b_1 c, Ebed9f ba_2 i.2, E632c4 i.2]) (fun i => mkLink c (c.n0 + c.n1 - i.1).toNat i.1 i.2 = mkAr c aw_3 cw_4 ∧ i.2.ws.length = i.2.n ∧ (i.2.n : Int) = sizeOfC c ∧ (0 ≤ i.2.steps ∧ i.2.steps ≤ 4 + i.1) ∧ 1 ≤ i.1) (fun i => (c.n0 + c.n1 - i.1).toNat) (1, ((((⟨aw_3, cw_4, (List.replicate (sizeOfC c).toNat (0 : Int)).length, (List.replicate (sizeOfC c).toNat (0 : Int)), 0, 0, 0, 0, false⟩ : Ar).store 0 7597137583116413295).store 1 (packW c)).store (3 + 1) (1 + c.n0))) [1, 5, 9] [0, 3, 4] (by kernel_rfl) rfl (by kernel_rfl) (by kernel_rfl) ⟨(by unfold mkAr mkHead; (repeat' (first | rw [if_pos (show 0 < c.n1 by omega)] | rw [if_pos (show 0 < c.n0 by omega)] | rw [if_neg (show ¬ 0 < c.n1 by omega)] | rw [if_neg (show ¬ 0 < c.n0 by omega)])); first | done | kernel_rfl), hA0.1, hA0.2.1, (by dsimp only; omega), (by dsimp only; omega)⟩ ?_
      intro i J_17 hIJ_17 hJ_17
      have hx := hIJ_17
      refine go_exec (rs := [.tmp 2, .tmp 3]) (by kernel_rfl) 4000 [.e 0, .z q7_9 2 [1, 5, 9, 44, 45]] (o := .obl (b_1 = b_1) (.stop [.o q7_9 2, .c q7_10, .c q7_11, .j J_17, .b 2, .c q7_8] [(1, vP b_1), (5, vP ba_2), (9, vI i.1), (44, vI i.1), (45, cfgV c)] [Efdc04 b_1 c, Ebed9f ba_2 i.2, E632c4 i.2])) (by kernel_rfl) ?_
      refine ok_obl rfl ?_
      refine ok_stop ?_
      refine go_call (some 46) [] Tryz.call55 (plan_Blocks c (by first | assumption | omega | (simp only [InK] at *; omega))) (by kernel_rfl) ?_
      rintro v post ⟨rfl, rfl⟩
      refine go_exec (rs := [.tmp 2, .tmp 3]) (by kernel_rfl) 4000 [.sp [47] [.z q7_12 0 [1, 5, 9]] []] (o := .br (decide (i.1 < (c.n0 + c.n1))) (.stop [.c q7_12, .c q7_13, .b 3, .c q7_14, .j J_17, .b 2, .c q7_8] [(1, vP b_1), (5, vP ba_2), (9, vI i.1)] [Efdc04 b_1 c, Ebed9f ba_2 i.2, E632c4 i.2]) (.ret (.tuple #[vP ba_2, .nilIface]) [Efdc04 b_1 c, Ebed9f ba_2 i.2, E632c4 i.2])) (by kernel_rfl) ?_
      refine ok_br (fun h_18 => ?_) (fun h_18 => ?_)
      · replace h_18 := decT h_18
        refine ok_stop ?_
        refine go_quiet (tm' := [(1, vP b_1), (5, vP ba_2), (9, vI i.1), (57, .bool ((clsOf c i.1) == (clsOf c (i.1 + 1))))]) (ps := [b_1 = b_1, b_1 = b_1, InK .i64 (i.1 + 1)]) (cs := [(48, #[cfgV c, vI i.1], vI (clsOf c i.1)), (48, #[cfgV c, vI (i.1 + 1)], vI (clsOf c (i.1 + 1)))]) [(0, .h (.e 0)), (1, .h .w), (2, .q (vI (clsOf c i.1))), (3, .h (.e 0)), (4, .h .w), (5, .h (.n)), (6, .q (vI (clsOf c (i.1 + 1)))), (7, .h .w)] [1, 5, 9, 57] (by kernel_rfl) (by kernel_rfl) ⟨rfl, rfl, (by simp only [Cfg.Ok, InK] at *; omega), trivial⟩ ⟨⟨Tryz.call48, quiet_of [] (plan_Class c i.1 (by first | assumption | omega | (simp only [InK] at *; omega)) (by simp only [Cfg.Ok, InK] at *; omega)) (by kernel_rfl) (by rintro v post ⟨rfl, rfl⟩; exact ⟨rfl, rfl⟩)⟩, ⟨Tryz.call48, quiet_of [] (plan_Class c (i.1 + 1) (by first | assumption | omega | (simp only [InK] at *; omega)) (by simp only [Cfg.Ok, InK] at *; omega)) (by kernel_rfl) (by rintro v post ⟨rfl, rfl⟩; exact ⟨rfl, rfl⟩)⟩, trivial⟩ ?_
        refine go_exec (rs := [.tmp 2, .tmp 3]) (by kernel_rfl) 4000 [.sp [57] [.e 0, .z q7_15 3 [1, 5, 9, 58, 59, 60]] [.n, .z [] 0 [1, 5, 9]]] (o := .br ((clsOf c i.1) == (clsOf c (i.1 + 1))) (.obl (b_1 = b_1) (.stop [.o q7_15 3, .b 3, .c q7_14, .j J_17, .b 2, .c q7_8] [(1, vP b_1), (5, vP ba_2), (9, vI i.1), (58, vP ba_2), (59, cfgV c), (60, vI i.1)] [Efdc04 b_1 c, Ebed9f ba_2 i.2, E632c4 i.2])) (.obl (InK .i64 (i.1 + 1)) (.stop [.j J_17, .b 2, .c q7_8] [(1, vP b_1), (5, vP ba_2), (9, vI (i.1 + 1))] [Efdc04 b_1 c, Ebed9f ba_2 i.2, E632c4 i.2]))) (by kernel_rfl) ?_
        refine ok_br (fun h_19 => ?_) (fun h_19 => ?_)
        · replace h_19 := beqT h_19
          refine ok_obl rfl ?_
          refine ok_stop ?_
          refine go_call (some 61) [] Tryz.call37 (plan_Block c i.1 (by first | assumption | omega | (simp only [InK] at *; omega)) (by simp only [Cfg.Ok, InK] at *; omega)) (by kernel_rfl) ?_
          rintro v post ⟨rfl, rfl⟩
          refine go_exec (rs := [.tmp 2, .tmp 3]) (by kernel_rfl) 4000 [.n, .n, .z q7_15 7 [1, 5, 9, 58, 61, 64]] (o := .obl (InK .i64 (i.1 + 1)) (.obl (InK .u64 (i.1 + 1)) (.stop [.o q7_15 7, .b 3, .c q7_14, .j J_17, .b 2, .c q7_8] [(1, vP b_1), (5, vP ba_2), (9, vI i.1), (58, vP ba_2), (61, vI (blockAt c i.1)), (64, vU (i.1 + 1))] [Efdc04 b_1 c, Ebed9f ba_2 i.2, E632c4 i.2]))) (by kernel_rfl) ?_
          refine ok_obl (by simp only [Cfg.Ok, InK] at *; omega) ?_
          refine ok_obl (by simp only [Cfg.Ok, InK] at *; omega) ?_
          refine ok_stop ?_
          refine go_call (some 65) [1, 2] Tryz.call20 (arena_Store ba_2 i.2 (blockAt c i.1) (i.1 + 1) (by first | exact hx.2.1 | (simp [Ar.store]; done)) (by have := sizeOfC_ok hc; first | omega | (simp [Ar.store]; omega) | (have hq := blockAt_ok hc (clsOf_pos (c := c) (b := i.1) (by omega)); have := hx.2.2.1; omega)) (by simp only [Cfg.Ok] at hc; first | omega | (simp [Ar.store]; done) | (simp [Ar.store]; omega))) (by kernel_rfl) ?_
          rintro v post ⟨rfl, rfl⟩
          refine go_exec (rs := [.tmp 2, .tmp 3]) (by kernel_rfl) 4000 [.n, .z [] 0 [1, 5, 9]] (o := .obl (InK .i64 (i.1 + 1)) (.stop [.j J_17, .b 2, .c q7_8] [(1, vP b_1), (5, vP ba_2), (9, vI (i.1 + 1))] [Efdc04 b_1 c, Ebed9f ba_2 (i.2.store (blockAt c i.1) (i.1 + 1)), E632c4 (i.2.store (blockAt c i.1) (i.1 + 1))])) (by kernel_rfl) ?_
          refine ok_obl (by simp only [Cfg.Ok, InK] at *; omega) ?_
          refine ok_stop ?_
          exact go_back hJ_17 ((i.1 + 1), (i.2.store (blockAt c i.1) (i.1 + 1))) [0, 1, 2] (by kernel_rfl) rfl (by kernel_rfl) ⟨(by rw [← hx.1, mkLink_next (c := c) (b := i.1) (A := i.2) (by omega), if_pos (by assumption)]), (by first | exact hx.2.1 | (simp only [Ar.store, List.length_set]; exact hx.2.1)), hx.2.2.1, (by simp only [Ar.store] at *; omega), (by omega)⟩ (by simp; omega)
        · replace h_19 := beqF h_19
          refine ok_obl (by simp only [Cfg.Ok, InK] at *; omega) ?_
          refine ok_stop ?_
          exact go_back hJ_17 ((i.1 + 1), i.2) [0, 1, 2] (by kernel_rfl) rfl (by kernel_rfl) ⟨(by rw [← hx.1, mkLink_next (c := c) (b := i.1) (A := i.2) (by omega), if_neg (by assumption)]), (by first | exact hx.2.1 | (simp only [Ar.store, List.length_set]; exact hx.2.1)), hx.2.2.1, (by simp only [Ar.store] at *; omega), (by omega)⟩ (by simp; omega)
      · replace h_18 := decF h_18
        exact ret_ok (post := [Ebed9f ba_2 i.2, E632c4 i.2]) [1, 2] (by kernel_rfl) ⟨ba_2, aw_3, cw_4, rfl, (by rw [← hx.1, mkLink_end (c := c) (b := i.1) (A := i.2) (by omega)])⟩
    · replace h_16 := decF h_16
      refine ok_obl rfl ?_
      refine ok_obl (by simp only [Cfg.Ok, InK] at *; omega) ?_
      refine ok_stop ?_
      have hA0 : (((⟨aw_3, cw_4, (List.replicate (sizeOfC c).toNat (0 : Int)).length, (List.replicate (sizeOfC c).toNat (0 : Int)), 0, 0, 0, 0, false⟩ : Ar).store 0 7597137583116413295).store 1 (packW c)).ws.length = (((⟨aw_3, cw_4, (List.replicate (sizeOfC c).toNat (0 : Int)).length, (List.replicate (sizeOfC c).toNat (0 : Int)), 0, 0, 0, 0, false⟩ : Ar).store 0 7597137583116413295).store 1 (packW c)).n ∧ ((((⟨aw_3, cw_4, (List.replicate (sizeOfC c).toNat (0 : Int)).length, (List.replicate (sizeOfC c).toNat (0 : Int)), 0, 0, 0, 0, false⟩ : Ar).store 0 7597137583116413295).store 1 (packW c)).n : Int) = sizeOfC c ∧ 0 ≤ (((⟨aw_3, cw_4, (List.replicate (sizeOfC c).toNat (0 : Int)).length, (List.replicate (sizeOfC c).toNat (0 : Int)), 0, 0, 0, 0, false⟩ : Ar).store 0 7597137583116413295).store 1 (packW c)).steps ∧ (((⟨aw_3, cw_4, (List.replicate (sizeOfC c).toNat (0 : Int)).length, (List.replicate (sizeOfC c).toNat (0 : Int)), 0, 0, 0, 0, false⟩ : Ar).store 0 7597137583116413295).store 1 (packW c)).steps ≤ 4 := by have := sizeOfC_ok hc; simp [Ar.store]; omega
      refine go_loop (ι := Int × Ar) (fun i => [(1, vP b_1), (5, vP ba_2), (9, vI i.1)]) (fun i => [Efdc04 b_1 c, Ebed9f ba_2 i.2, E632c4 i.2]) (fun i => mkLink c (c.n0 + c.n1 - i.1).toNat i.1 i.2 = mkAr c aw_3 cw_4 ∧ i.2.ws.length = i.2.n ∧ (i.2.n : Int) = sizeOfC c ∧ (0 ≤ i.2.steps ∧ i.2.steps ≤ 4 + i.1) ∧ 1 ≤ i.1) (fun i => (c.n0 + c.n1 - i.1).toNat) (1, (((⟨aw_3, cw_4, (List.replicate (sizeOfC c).toNat (0 : Int)).length, (List.replicate (sizeOfC c).toNat (0 : Int)), 0, 0, 0, 0, false⟩ : Ar).store 0 7597137583116413295).store 1 (packW c))) [1, 5, 9] [0, 1, 2] (by kernel_rfl) rfl (by kernel_rfl) (by kernel_rfl) ⟨(by unfold mkAr mkHead; (repeat' (first | rw [if_pos (show 0 < c.n1 by omega)] | rw [if_pos (show 0 < c.n0 by omega)] | rw [if_neg (show ¬ 0 < c.n1 by omega)] | rw [if_neg (show ¬ 0 < c.n0 by omega)])); first | done | kernel_rfl), hA0.1, hA0.2.1, (by dsimp only; omega), (by dsimp only; omega)⟩ ?_
      intro i J_20 hIJ_20 hJ_20
      have hx := hIJ_20
      refine go_exec (rs := [.tmp 2, .tmp 3]) (by kernel_rfl) 4000 [.e 0, .z q7_9 2 [1, 5, 9, 44, 45]] (o := .obl (b_1 = b_1) (.stop [.o q7_9 2, .c q7_10, .c q7_11, .j J_20, .b 2, .c q7_8] [(1, vP b_1), (5, vP ba_2), (9, vI i.1), (44, vI i.1), (45, cfgV c)] [Efdc04 b_1 c, Ebed9f ba_2 i.2, E632c4 i.2])) (by kernel_rfl) ?_
      refine ok_obl rfl ?_
      refine ok_stop ?_
      refine go_call (some 46) [] Tryz.call55 (plan_Blocks c (by first | assumption | omega | (simp only [InK] at *; omega))) (by kernel_rfl) ?_
      rintro v post ⟨rfl, rfl⟩
      refine go_exec (rs := [.tmp 2, .tmp 3]) (by kernel_rfl) 4000 [.sp [47] [.z q7_12 0 [1, 5, 9]] []] (o := .br (decide (i.1 < (c.n0 + c.n1))) (.stop [.c q7_12, .c q7_13, .b 3, .c q7_14, .j J_20, .b 2, .c q7_8] [(1, vP b_1), (5, vP ba_2), (9, vI i.1)] [Efdc04 b_1 c, Ebed9f ba_2 i.2, E632c4 i.2]) (.ret (.tuple #[vP ba_2, .nilIface]) [Efdc04 b_1 c, Ebed9f ba_2 i.2, E632c4 i.2])) (by kernel_rfl) ?_
      refine ok_br (fun h_21 => ?_) (fun h_21 => ?_)
      · replace h_21 := decT h_21
        refine ok_stop ?_
        refine go_quiet (tm' := [(1, vP b_1), (5, vP ba_2), (9, vI i.1), (57, .bool ((clsOf c i.1) == (clsOf c (i.1 + 1))))]) (ps := [b_1 = b_1, b_1 = b_1, InK .i64 (i.1 + 1)]) (cs := [(48, #[cfgV c, vI i.1], vI (clsOf c i.1)), (48, #[cfgV c, vI (i.1 + 1)], vI (clsOf c (i.1 + 1)))]) [(0, .h (.e 0)), (1, .h .w), (2, .q (vI (clsOf c i.1))), (3, .h (.e 0)), (4, .h .w), (5, .h (.n)), (6, .q (vI (clsOf c (i.1 + 1)))), (7, .h .w)] [1, 5, 9, 57] (by kernel_rfl) (by kernel_rfl) ⟨rfl, rfl, (by simp only [Cfg.Ok, InK] at *; omega), trivial⟩ ⟨⟨Tryz.call48, quiet_of [] (plan_Class c i.1 (by first | assumption | omega | (simp only [InK] at *; omega)) (by simp only [Cfg.Ok, InK] at *; omega)) (by kernel_rfl) (by rintro v post ⟨rfl, rfl⟩; exact ⟨rfl, rfl⟩)⟩, ⟨Tryz.call48, quiet_of [] (plan_Class c (i.1 + 1) (by first | assumption | omega | (simp only [InK] at *; omega)) (by simp only [Cfg.Ok, InK] at *; omega)) (by kernel_rfl) (by rintro v post ⟨rfl, rfl⟩; exact ⟨rfl, rfl⟩)⟩, trivial⟩ ?_
        refine go_exec (rs := [.tmp 2, .tmp 3]) (by kernel_rfl) 4000 [.sp [57] [.e 0, .z q7_15 3 [1, 5, 9, 58, 59, 60]] [.n, .z [] 0 [1, 5, 9]]] (o := .br ((clsOf c i.1) == (clsOf c (i.1 + 1))) (.obl (b_1 = b_1) (.stop [.o q7_15 3, .b 3, .c q7_14, .j J_20, .b 2, .c q7_8] [(1, vP b_1), (5, vP ba_2), (9, vI i.1), (58, vP ba_2), (59, cfgV c), (60, vI i.1)] [Efdc04 b_1 c, Ebed9f ba_2 i.2, E632c4 i.2])) (.obl (InK .i64 (i.1 + 1)) (.stop [.j J_20, .b 2, .c q7_8] [(1, vP b_1), (5, vP ba_2), (9, vI (i.1 + 1))] [Efdc04 b_1 c, Ebed9f ba_2 i.2, E632c4 i.2]))) (by kernel_rfl) ?_
        refine ok_br (fun h_22 => ?_) (fun h_22 => ?_)
        · replace h_22 := beqT h_22
          refine ok_obl rfl ?_
          refine ok_stop ?_
          refine go_call (some 61) [] Tryz.call37 (plan_Block c i.1 (by first | assumption | omega | (simp only [InK] at *; omega)) (by simp only [Cfg.Ok, InK] at *; omega)) (by kernel_rfl) ?_
          rintro v post ⟨rfl, rfl⟩
          refine go_exec (rs := [.tmp 2, .tmp 3]) (by kernel_rfl) 4000 [.n, .n, .z q7_15 7 [1, 5, 9, 58, 61, 64]] (o := .obl (InK .i64 (i.1 + 1)) (.obl (InK .u64 (i.1 + 1)) (.stop [.o q7_15 7, .b 3, .c q7_14, .j J_20, .b 2, .c q7_8] [(1, vP b_1), (5, vP ba_2), (9, vI i.1), (58, vP ba_2), (61, vI (blockAt c i.1)), (64, vU (i.1 + 1))] [Efdc04 b_1 c, Ebed9f ba_2 i.2, E632c4 i.2]))) (by kernel_rfl) ?_
          refine ok_obl (by simp only [Cfg.Ok, InK] at *; omega) ?_
          refine ok_obl (by simp only [Cfg.Ok, InK] at *; omega) ?_
          refine ok_stop ?_
          refine go_call (some 65) [1, 2] Tryz.call20 (arena_Store ba_2 i.2 (blockAt c i.1) (i.1 + 1) (by first | exact hx.2.1 | (simp [Ar.store]; done)) (by have := sizeOfC_ok hc; first | omega | (simp [Ar.store]; omega) | (have hq := blockAt_ok hc (clsOf_pos (c := c) (b := i.1) (by omega)); have := hx.2.2.1; omega)) (by simp only [Cfg.Ok] at hc; first | omega | (simp [Ar.store]; done) | (simp [Ar.store]; omega))) (by kernel_rfl) ?_
          rintro v post ⟨rfl, rfl⟩
          refine go_exec (rs := [.tmp 2, .tmp 3]) (by kernel_rfl) 4000 [.n, .z [] 0 [1, 5, 9]] (o := .obl (InK .i64 (i.1 + 1)) (.stop [.j J_20, .b 2, .c q7_8] [(1, vP b_1), (5, vP ba_2), (9, vI (i.1 + 1))] [Efdc04 b_1 c, Ebed9f ba_2 (i.2.store (blockAt c i.1) (i.1 + 1)), E632c4 (i.2.store (blockAt c i.1) (i.1 + 1))])) (by kernel_rfl) ?_
          refine ok_obl (by simp only [Cfg.Ok, InK] at *; omega) ?_
          refine ok_stop ?_
          exact go_back hJ_20 ((i.1 + 1), (i.2.store (blockAt c i.1) (i.1 + 1))) [0, 1, 2] (by kernel_rfl) rfl (by kernel_rfl) ⟨(by rw [← hx.1, mkLink_next (c := c) (b := i.1) (A := i.2) (by omega), if_pos (by assumption)]), (by first | exact hx.2.1 | (simp only [Ar.store, List.length_set]; exact hx.2.1)), hx.2.2.1, (by simp only [Ar.store] at *; omega), (by omega)⟩ (by simp; omega)
        · replace h_22 := beqF h_22
          refine ok_obl (by simp only [Cfg.Ok, InK] at *; omega) ?_
          refine ok_stop ?_
          exact go_back hJ_20 ((i.1 + 1), i.2) [0, 1, 2] (by kernel_rfl) rfl (by kernel_rfl) ⟨(by rw [← hx.1, mkLink_next (c := c) (b := i.1) (A := i.2) (by omega), if_neg (by assumption)]), (by first | exact hx.2.1 | (simp only [Ar.store, List.length_set]; exact hx.2.1)), hx.2.2.1, (by simp only [Ar.store] at *; omega), (by omega)⟩ (by simp; omega)
      · replace h_21 := decF h_21
        exact ret_ok (post := [Ebed9f ba_2 i.2, E632c4 i.2]) [1, 2] (by kernel_rfl) ⟨ba_2, aw_3, cw_4, rfl, (by rw [← hx.1, mkLink_end (c := c) (b := i.1) (A := i.2) (by omega)])⟩

end Go.Proofs.YtiiepkjckmdmkaaGreatDoor


namespace Go.Proofs.YtiiepkjckmdmkaaGreatDoor
open Go.Sx

theorem plan_Class_min (c : Cfg) (hc : c.Ok) :
    Ctr Tryz.prog 48 #[cfgV c, vI (-9223372036854775808)] [] (Ret (vI (clsOf c (-9223372036854775808))) []) := by
  refine ctr_of (args := [cfgV c, vI (-9223372036854775808)]) (fn := Tryz.f48) (body := B48) (nt := 12) Tryz.func48 (by kernel_rfl) (by kernel_rfl) ?_
  intro F
  refine go_exec (rs := [.tmp 4]) (by kernel_rfl) 4000 [.z [0, 1] 0 [2, 3]] (o := .new fun b_1 => .new fun b_2 => .stop [.c [0, 1], .c [1, 1]] [(2, vP b_1), (3, vP b_2)] [Efdc04 b_1 c, .pts b_2 [vI (-9223372036854775808)] 3]) (by kernel_rfl) ?_
  refine ok_new fun b_1 => ?_
  refine ok_new fun b_2 => ?_
  refine ok_stop ?_
  refine go_quiet (tm' := [(4, vI (if (0 : Int) ≤ 9223372036854775807 ∧ 9223372036854775807 < (c.n0 + c.n1) then (if (-9223372036854775808) ≤ c.n0 then 0 else 1) else -1))]) (ps := [b_1 = b_1, b_2 = b_2, b_1 = b_1]) (cs := [(55, #[cfgV c], vI (c.n0 + c.n1)), (58, #[cfgV c, vI 9223372036854775807, vI (c.n0 + c.n1), .func (.func 95) #[] #[vP b_2, vP b_1]], vI (if (0 : Int) ≤ 9223372036854775807 ∧ 9223372036854775807 < (c.n0 + c.n1) then (if (-9223372036854775808) ≤ c.n0 then 0 else 1) else -1))]) [(0, .h (.e 0)), (1, .h (.e 1)), (2, .h (.w)), (3, .h (.e 0)), (4, .q (vI (c.n0 + c.n1))), (5, .h .w), (6, .q (vI (if (0 : Int) ≤ 9223372036854775807 ∧ 9223372036854775807 < (c.n0 + c.n1) then (if (-9223372036854775808) ≤ c.n0 then 0 else 1) else -1))), (7, .h .w)] [4] (by kernel_rfl) (by kernel_rfl) ⟨rfl, rfl, rfl, trivial⟩ ⟨⟨Tryz.call55, quiet_of [] (plan_Blocks c (by first | assumption | omega | (simp only [InK] at *; omega))) (by kernel_rfl) (by rintro v post ⟨rfl, rfl⟩; exact ⟨rfl, rfl⟩)⟩, ⟨Tryz.call58, quiet_of [1, 0] (place_Class c 9223372036854775807 (c.n0 + c.n1) b_2 b_1 (-9223372036854775808) (by first | assumption | omega | (simp only [InK] at *; omega))) (by kernel_rfl) (by rintro v post ⟨rfl, rfl⟩; exact ⟨rfl, rfl⟩)⟩, trivial⟩ ?_
  refine go_exec (rs := [.tmp 4]) (by kernel_rfl) 4000 [] (o := .ret (vI (if (0 : Int) ≤ 9223372036854775807 ∧ 9223372036854775807 < (c.n0 + c.n1) then (if (-9223372036854775808) ≤ c.n0 then 0 else 1) else -1)) [Efdc04 b_1 c, .pts b_2 [vI (-9223372036854775808)] 3]) (by kernel_rfl) ?_
  exact ret_ok (post := []) [] (by kernel_rfl) ⟨(congrArg (Value.int .i64) (by simp only [Cfg.Ok] at hc; unfold clsOf; (repeat' split) <;> omega)), (by kernel_rfl)⟩


theorem plan_Class_all (c : Cfg) (k : Int) (hc : c.Ok) (hk : InK .i64 k) :
    Ctr Tryz.prog 48 #[cfgV c, vI k] [] (Ret (vI (clsOf c k)) []) := by
  by_cases h : k = -9223372036854775808
  · subst h; exact plan_Class_min c hc
  · exact plan_Class c k hc (by simp only [InK] at *; omega)

noncomputable def B23 : Code := (Tryz.f23.body).getD .skip

theorem arena_Words (ba : Nat) (A : Ar) (hn : A.ws.length = A.n) (hl : A.ws.length ≤ 10000) :
    Ctr Tryz.prog 23 #[vP ba] [Ebed9f ba A, E632c4 A] (fun v L => ∃ (a2 : Option Addr) (c2 : Nat), v = .slice a2 A.ws.length c2 ∧ L = [Ebed9f ba A, E632c4 A, E89d8b a2 c2 A.ws]) := by
  refine ctr_of (args := [vP ba]) (fn := Tryz.f23) (body := B23) (nt := 10) Tryz.func23 (by kernel_rfl) (by kernel_rfl) ?_
  intro F
  refine go_exec (rs := [.tmp 2]) (by kernel_rfl) 4000 [.e 0, .z [0, 1, 1] 4 [8]] (o := .obl (ba = ba) (.stop [.o [0, 1, 1] 4, .c [1, 1, 1]] [(8, .slice A.aw A.n A.cw)] [Ebed9f ba A, E632c4 A])) (by kernel_rfl) ?_
  refine ok_obl rfl ?_
  refine ok_stop ?_
  refine go_call (some 9) [1] Tryz.call62 (clone_n A.aw A.cw A.n A.ws (by first | assumption | omega | (simp only [InK] at *; omega)) (by first | assumption | omega | (simp only [InK] at *; omega))) (by kernel_rfl) ?_
  rintro v post ⟨a2_1, c2_2, rfl, rfl⟩
  refine go_exec (rs := [.tmp 2]) (by kernel_rfl) 4000 [] (o := .ret (.slice a2_1 A.ws.length c2_2) [Ebed9f ba A, E632c4 A, E89d8b a2_1 c2_2 A.ws]) (by kernel_rfl) ?_
  exact ret_ok (post := [Ebed9f ba A, E632c4 A, E89d8b a2_1 c2_2 A.ws]) [0, 1, 2] (by kernel_rfl) ⟨a2_1, c2_2, rfl, (by kernel_rfl)⟩

end Go.Proofs.YtiiepkjckmdmkaaGreatDoor


namespace Go.Proofs.YtiiepkjckmdmkaaGreatDoor
open Go.Sx
abbrev q9_0 : List Nat := [0, 0, 1, 0, 0, 1, 0, 1, 1]
abbrev q9_1 : List Nat := [1, 1, 0, 0, 1, 0, 1, 1]
abbrev q9_2 : List Nat := [0, 0, 1, 0, 0, 1, 0, 1, 1, 1]
noncomputable def B131 : Code := (Tryz.f131.body).getD .skip

theorem ref_inT (n a b : Int) (h : a ≤ n ∧ n ≤ b) :
    Ctr Tryz.prog 131 #[vI n, vI a, vI b] [] (Ret (.bool true) []) := by
  refine ctr_of (args := [vI n, vI a, vI b]) (fn := Tryz.f131) (body := B131) (nt := 15) Tryz.func131 (by kernel_rfl) (by kernel_rfl) ?_
  intro F
  refine go_exec (rs := [.tmp 6]) (by kernel_rfl) 4000 [.sp [10, 9] [] [.dead]] (o := .obl ((decide (n ≥ a)) = (decide (n ≥ a))) (.br (decide (n ≥ a)) (.ret (.bool (decide (n ≤ b))) []) (.bad))) (by kernel_rfl) ?_
  refine ok_obl rfl ?_
  refine ok_br (fun _ => ?_) (fun h => absurd (show (decide (n ≥ a)) = true from (by first | (simp; done) | (simp; omega))) (by rw [h]; simp))
  exact ret_ok (post := []) [] (by kernel_rfl) ⟨(congrArg Value.bool (by first | rfl | (simp; done) | (simp; omega))), (by kernel_rfl)⟩

noncomputable def B103 : Code := (Tryz.f103.body).getD .skip

theorem ref_right (c : Cfg) (hc : c.Ok) :
    Ctr Tryz.prog 103 #[cfgV c] [] (Ret (.bool true) []) := by
  refine ctr_of (args := [cfgV c]) (fn := Tryz.f103) (body := B103) (nt := 57) Tryz.func103 (by kernel_rfl) (by kernel_rfl) ?_
  intro F
  refine go_exec (rs := [.tmp 2]) (by kernel_rfl) 4000 [.w, .e 0, .e 1, .w, .e 0, .e 2, .e 0, .z [0, 1, 1, 1] 2 [1, 3, 4, 12]] (o := .new fun b_1 => .obl (b_1 = b_1) (.new fun b_2 => .obl (b_2 = b_2) (.obl (b_1 = b_1) (.new fun b_3 => .obl (b_3 = b_3) (.obl (b_1 = b_1) (.stop [.o [0, 1, 1, 1] 2, .c [1, 1, 1, 1]] [(1, vP b_1), (3, vP b_2), (4, vP b_3), (12, vI c.topics)] [Efdc04 b_1 c, .pts b_2 [vI c.s0, vI c.n0] 26, .pts b_3 [vI c.s1, vI c.n1] 26])))))) (by kernel_rfl) ?_
  refine ok_new fun b_1 => ?_
  refine ok_obl rfl ?_
  refine ok_new fun b_2 => ?_
  refine ok_obl rfl ?_
  refine ok_obl rfl ?_
  refine ok_new fun b_3 => ?_
  refine ok_obl rfl ?_
  refine ok_obl rfl ?_
  refine ok_stop ?_
  refine go_call (some 13) [] Tryz.call131 (ref_inT c.topics 1 8 (by simp only [Cfg.Ok] at hc; omega)) (by kernel_rfl) ?_
  rintro v post ⟨rfl, rfl⟩
  refine go_exec (rs := [.tmp 2]) (by kernel_rfl) 4000 [.e 0, .z [0, 1, 1, 1] 6 [1, 3, 4, 14, 16]] (o := .obl (b_1 = b_1) (.stop [.o [0, 1, 1, 1] 6, .c [1, 1, 1, 1]] [(1, vP b_1), (3, vP b_2), (4, vP b_3), (14, .bool true), (16, vI c.small)] [Efdc04 b_1 c, .pts b_2 [vI c.s0, vI c.n0] 26, .pts b_3 [vI c.s1, vI c.n1] 26])) (by kernel_rfl) ?_
  refine ok_obl rfl ?_
  refine ok_stop ?_
  refine go_call (some 17) [] Tryz.call131 (ref_inT c.small 4 32 (by simp only [Cfg.Ok] at hc; omega)) (by kernel_rfl) ?_
  rintro v post ⟨rfl, rfl⟩
  refine go_exec (rs := [.tmp 2]) (by kernel_rfl) 4000 [.e 0, .z [0, 1, 1, 1] 11 [1, 3, 4, 19, 21]] (o := .obl (b_1 = b_1) (.stop [.o [0, 1, 1, 1] 11, .c [1, 1, 1, 1]] [(1, vP b_1), (3, vP b_2), (4, vP b_3), (19, .bool true), (21, vI c.slots)] [Efdc04 b_1 c, .pts b_2 [vI c.s0, vI c.n0] 26, .pts b_3 [vI c.s1, vI c.n1] 26])) (by kernel_rfl) ?_
  refine ok_obl rfl ?_
  refine ok_stop ?_
  refine go_call (some 22) [] Tryz.call131 (ref_inT c.slots 1 8 (by simp only [Cfg.Ok] at hc; omega)) (by kernel_rfl) ?_
  rintro v post ⟨rfl, rfl⟩
  refine go_exec (rs := [.tmp 2]) (by kernel_rfl) 4000 [.e 0, .z [0, 1, 1, 1] 16 [1, 3, 4, 24, 26]] (o := .obl (b_1 = b_1) (.stop [.o [0, 1, 1, 1] 16, .c [1, 1, 1, 1]] [(1, vP b_1), (3, vP b_2), (4, vP b_3), (24, .bool true), (26, vI c.clients)] [Efdc04 b_1 c, .pts b_2 [vI c.s0, vI c.n0] 26, .pts b_3 [vI c.s1, vI c.n1] 26])) (by kernel_rfl) ?_
  refine ok_obl rfl ?_
  refine ok_stop ?_
  refine go_call (some 27) [] Tryz.call131 (ref_inT c.clients 1 8 (by simp only [Cfg.Ok] at hc; omega)) (by kernel_rfl) ?_
  rintro v post ⟨rfl, rfl⟩
  refine go_exec (rs := [.tmp 2]) (by kernel_rfl) 4000 [.e 0, .z [0, 1, 1, 1] 21 [3, 4, 29, 31]] (o := .obl (b_1 = b_1) (.stop [.o [0, 1, 1, 1] 21, .c [1, 1, 1, 1]] [(3, vP b_2), (4, vP b_3), (29, .bool true), (31, vI c.retry)] [Efdc04 b_1 c, .pts b_2 [vI c.s0, vI c.n0] 26, .pts b_3 [vI c.s1, vI c.n1] 26])) (by kernel_rfl) ?_
  refine ok_obl rfl ?_
  refine ok_stop ?_
  refine go_call (some 32) [] Tryz.call131 (ref_inT c.retry 1 8 (by simp only [Cfg.Ok] at hc; omega)) (by kernel_rfl) ?_
  rintro v post ⟨rfl, rfl⟩
  refine go_exec (rs := [.tmp 2]) (by kernel_rfl) 4000 [.e 1, .z [0, 1, 1, 1] 26 [3, 4, 34, 36]] (o := .obl (b_2 = b_2) (.stop [.o [0, 1, 1, 1] 26, .c [1, 1, 1, 1]] [(3, vP b_2), (4, vP b_3), (34, .bool true), (36, vI c.s0)] [Efdc04 b_1 c, .pts b_2 [vI c.s0, vI c.n0] 26, .pts b_3 [vI c.s1, vI c.n1] 26])) (by kernel_rfl) ?_
  refine ok_obl rfl ?_
  refine ok_stop ?_
  refine go_call (some 37) [] Tryz.call131 (ref_inT c.s0 4 96 (by simp only [Cfg.Ok] at hc; omega)) (by kernel_rfl) ?_
  rintro v post ⟨rfl, rfl⟩
  refine go_exec (rs := [.tmp 2]) (by kernel_rfl) 4000 [.e 2, .e 1, .n, .z [0, 1, 1, 1] 34 [3, 4, 39, 41, 44]] (o := .obl (b_3 = b_3) (.obl (b_2 = b_2) (.obl (InK .i64 (c.s0 + 1)) (.stop [.o [0, 1, 1, 1] 34, .c [1, 1, 1, 1]] [(3, vP b_2), (4, vP b_3), (39, .bool true), (41, vI c.s1), (44, vI (c.s0 + 1))] [Efdc04 b_1 c, .pts b_2 [vI c.s0, vI c.n0] 26, .pts b_3 [vI c.s1, vI c.n1] 26])))) (by kernel_rfl) ?_
  refine ok_obl rfl ?_
  refine ok_obl rfl ?_
  refine ok_obl (by simp only [Cfg.Ok, InK] at *; omega) ?_
  refine ok_stop ?_
  refine go_call (some 45) [] Tryz.call131 (ref_inT c.s1 (c.s0 + 1) 96 (by simp only [Cfg.Ok] at hc; omega)) (by kernel_rfl) ?_
  rintro v post ⟨rfl, rfl⟩
  refine go_exec (rs := [.tmp 2]) (by kernel_rfl) 4000 [.e 1, .z [0, 1, 1, 1] 39 [4, 47, 49]] (o := .obl (b_2 = b_2) (.stop [.o [0, 1, 1, 1] 39, .c [1, 1, 1, 1]] [(4, vP b_3), (47, .bool true), (49, vI c.n0)] [Efdc04 b_1 c, .pts b_2 [vI c.s0, vI c.n0] 26, .pts b_3 [vI c.s1, vI c.n1] 26])) (by kernel_rfl) ?_
  refine ok_obl rfl ?_
  refine ok_stop ?_
  refine go_call (some 50) [] Tryz.call131 (ref_inT c.n0 0 12 (by simp only [Cfg.Ok] at hc; omega)) (by kernel_rfl) ?_
  rintro v post ⟨rfl, rfl⟩
  refine go_exec (rs := [.tmp 2]) (by kernel_rfl) 4000 [.e 2, .z [0, 1, 1, 1] 44 [52, 54]] (o := .obl (b_3 = b_3) (.stop [.o [0, 1, 1, 1] 44, .c [1, 1, 1, 1]] [(52, .bool true), (54, vI c.n1)] [Efdc04 b_1 c, .pts b_2 [vI c.s0, vI c.n0] 26, .pts b_3 [vI c.s1, vI c.n1] 26])) (by kernel_rfl) ?_
  refine ok_obl rfl ?_
  refine ok_stop ?_
  refine go_call (some 55) [] Tryz.call131 (ref_inT c.n1 0 12 (by simp only [Cfg.Ok] at hc; omega)) (by kernel_rfl) ?_
  rintro v post ⟨rfl, rfl⟩
  refine go_exec (rs := [.tmp 2]) (by kernel_rfl) 4000 [] (o := .ret (.bool true) [Efdc04 b_1 c, .pts b_2 [vI c.s0, vI c.n0] 26, .pts b_3 [vI c.s1, vI c.n1] 26]) (by kernel_rfl) ?_
  exact ret_ok (post := []) [] (by kernel_rfl) ⟨rfl, (by kernel_rfl)⟩


noncomputable def B67 : Code := (Tryz.f67.body).getD .skip

theorem ref_Blocks (c : Cfg) (hc : c.Ok) :
    Ctr Tryz.prog 67 #[cfgV c] [] (Ret (vI (c.n0 + c.n1)) []) := by
  refine ctr_of (args := [cfgV c]) (fn := Tryz.f67) (body := B67) (nt := 12) Tryz.func67 (by kernel_rfl) (by kernel_rfl) ?_
  intro F
  refine go_exec (rs := [.tmp 2]) (by kernel_rfl) 4000 [.w, .e 0, .w, .e 0, .n] (o := .new fun b_1 => .obl (b_1 = b_1) (.obl (b_1 = b_1) (.obl (InK .i64 (c.n0 + c.n1)) (.ret (vI (c.n0 + c.n1)) [Efdc04 b_1 c])))) (by kernel_rfl) ?_
  refine ok_new fun b_1 => ?_
  refine ok_obl rfl ?_
  refine ok_obl rfl ?_
  refine ok_obl (by simp only [Cfg.Ok, InK] at *; omega) ?_
  exact ret_ok (post := []) [] (by kernel_rfl) ⟨rfl, (by kernel_rfl)⟩

noncomputable def B68 : Code := (Tryz.f68.body).getD .skip

theorem ref_Class (c : Cfg) (k : Int) (hc : c.Ok) :
    Ctr Tryz.prog 68 #[cfgV c, vI k] [] (Ret (vI (clsOf c k)) []) := by
  refine ctr_of (args := [cfgV c, vI k]) (fn := Tryz.f68) (body := B68) (nt := 19) Tryz.func68 (by kernel_rfl) (by kernel_rfl) ?_
  intro F
  refine go_exec (rs := [.tmp 4]) (by kernel_rfl) 4000 [.sp [7, 6] [] [.e 0, .z [0, 0, 1] 5 [1, 2, 7, 8, 9]]] (o := .new fun b_1 => .obl ((decide (k < 1)) = (decide (k < 1))) (.br (decide (k < 1)) (.ret (vI (-1)) [Efdc04 b_1 c]) (.obl (b_1 = b_1) (.stop [.o [0, 0, 1] 5, .c [1, 0, 1], .c [1, 1]] [(1, vI k), (2, vP b_1), (7, .bool false), (8, vI k), (9, cfgV c)] [Efdc04 b_1 c])))) (by kernel_rfl) ?_
  refine ok_new fun b_1 => ?_
  refine ok_obl rfl ?_
  refine ok_br (fun h_2 => ?_) (fun h_2 => ?_)
  · replace h_2 := decT h_2
    exact ret_ok (post := []) [] (by kernel_rfl) ⟨(congrArg (Value.int .i64) (by unfold clsOf; (repeat' split) <;> omega)), (by kernel_rfl)⟩
  · replace h_2 := decF h_2
    refine ok_obl rfl ?_
    refine ok_stop ?_
    refine go_call (some 10) [] Tryz.call67 (ref_Blocks c (by first | assumption | omega | (simp only [InK] at *; omega))) (by kernel_rfl) ?_
    rintro v post ⟨rfl, rfl⟩
    refine go_exec (rs := [.tmp 4]) (by kernel_rfl) 4000 [.sp [12, 11] [] [.w, .e 0, .sp [18] [] []]] (o := .obl ((decide (k > (c.n0 + c.n1))) = (decide (k > (c.n0 + c.n1)))) (.br (decide (k > (c.n0 + c.n1))) (.ret (vI (-1)) [Efdc04 b_1 c]) (.obl (b_1 = b_1) (.br (decide (k ≤ c.n0)) (.ret (vI 0) [Efdc04 b_1 c]) (.ret (vI 1) [Efdc04 b_1 c]))))) (by kernel_rfl) ?_
    refine ok_obl rfl ?_
    refine ok_br (fun h_3 => ?_) (fun h_3 => ?_)
    · replace h_3 := decT h_3
      exact ret_ok (post := []) [] (by kernel_rfl) ⟨(congrArg (Value.int .i64) (by unfold clsOf; (repeat' split) <;> omega)), (by kernel_rfl)⟩
    · replace h_3 := decF h_3
      refine ok_obl rfl ?_
      refine ok_br (fun h_4 => ?_) (fun h_4 => ?_)
      · replace h_4 := decT h_4
        exact ret_ok (post := []) [] (by kernel_rfl) ⟨(congrArg (Value.int .i64) (by unfold clsOf; (repeat' split) <;> omega)), (by kernel_rfl)⟩
      · replace h_4 := decF h_4
        exact ret_ok (post := []) [] (by kernel_rfl) ⟨(congrArg (Value.int .i64) (by unfold clsOf; (repeat' split) <;> omega)), (by kernel_rfl)⟩


theorem ref_Class0 (c : Cfg) (k : Int) (hc : c.Ok) (h : 1 ≤ k ∧ k ≤ c.n0) :
    Ctr Tryz.prog 68 #[cfgV c, vI k] [] (Ret (vI 0) []) := by
  refine ctr_of (args := [cfgV c, vI k]) (fn := Tryz.f68) (body := B68) (nt := 19) Tryz.func68 (by kernel_rfl) (by kernel_rfl) ?_
  intro F
  refine go_exec (rs := [.tmp 4]) (by kernel_rfl) 4000 [.sp [7, 6] [.dead] [.e 0, .z [0, 0, 1] 5 [1, 2, 7, 8, 9]]] (o := .new fun b_1 => .obl ((decide (k < 1)) = (decide (k < 1))) (.br (decide (k < 1)) (.bad) (.obl (b_1 = b_1) (.stop [.o [0, 0, 1] 5, .c [1, 0, 1], .c [1, 1]] [(1, vI k), (2, vP b_1), (7, .bool false), (8, vI k), (9, cfgV c)] [Efdc04 b_1 c])))) (by kernel_rfl) ?_
  refine ok_new fun b_1 => ?_
  refine ok_obl rfl ?_
  refine ok_br (fun h => absurd (show (decide (k < 1)) = false from (by simp only [Cfg.Ok] at hc; simp; omega)) (by rw [h]; simp)) (fun _ => ?_)
  refine ok_obl rfl ?_
  refine ok_stop ?_
  refine go_call (some 10) [] Tryz.call67 (ref_Blocks c (by first | assumption | omega | (simp only [InK] at *; omega))) (by kernel_rfl) ?_
  rintro v post ⟨rfl, rfl⟩
  refine go_exec (rs := [.tmp 4]) (by kernel_rfl) 4000 [.sp [12, 11] [.dead] [.w, .e 0, .sp [18] [] [.dead]]] (o := .obl ((decide (k > (c.n0 + c.n1))) = (decide (k > (c.n0 + c.n1)))) (.br (decide (k > (c.n0 + c.n1))) (.bad) (.obl (b_1 = b_1) (.br (decide (k ≤ c.n0)) (.ret (vI 0) [Efdc04 b_1 c]) (.bad))))) (by kernel_rfl) ?_
  refine ok_obl rfl ?_
  refine ok_br (fun h => absurd (show (decide (k > (c.n0 + c.n1))) = false from (by simp only [Cfg.Ok] at hc; simp; omega)) (by rw [h]; simp)) (fun _ => ?_)
  refine ok_obl rfl ?_
  refine ok_br (fun _ => ?_) (fun h => absurd (show (decide (k ≤ c.n0)) = true from (by simp only [Cfg.Ok] at hc; simp; omega)) (by rw [h]; simp))
  exact ret_ok (post := []) [] (by kernel_rfl) ⟨rfl, (by kernel_rfl)⟩


theorem ref_Class1 (c : Cfg) (k : Int) (hc : c.Ok) (h : c.n0 < k ∧ k ≤ c.n0 + c.n1) :
    Ctr Tryz.prog 68 #[cfgV c, vI k] [] (Ret (vI 1) []) := by
  refine ctr_of (args := [cfgV c, vI k]) (fn := Tryz.f68) (body := B68) (nt := 19) Tryz.func68 (by kernel_rfl) (by kernel_rfl) ?_
  intro F
  refine go_exec (rs := [.tmp 4]) (by kernel_rfl) 4000 [.sp [7, 6] [.dead] [.e 0, .z [0, 0, 1] 5 [1, 2, 7, 8, 9]]] (o := .new fun b_1 => .obl ((decide (k < 1)) = (decide (k < 1))) (.br (decide (k < 1)) (.bad) (.obl (b_1 = b_1) (.stop [.o [0, 0, 1] 5, .c [1, 0, 1], .c [1, 1]] [(1, vI k), (2, vP b_1), (7, .bool false), (8, vI k), (9, cfgV c)] [Efdc04 b_1 c])))) (by kernel_rfl) ?_
  refine ok_new fun b_1 => ?_
  refine ok_obl rfl ?_
  refine ok_br (fun h => absurd (show (decide (k < 1)) = false from (by simp only [Cfg.Ok] at hc; simp; omega)) (by rw [h]; simp)) (fun _ => ?_)
  refine ok_obl rfl ?_
  refine ok_stop ?_
  refine go_call (some 10) [] Tryz.call67 (ref_Blocks c (by first | assumption | omega | (simp only [InK] at *; omega))) (by kernel_rfl) ?_
  rintro v post ⟨rfl, rfl⟩
  refine go_exec (rs := [.tmp 4]) (by kernel_rfl) 4000 [.sp [12, 11] [.dead] [.w, .e 0, .sp [18] [.dead] []]] (o := .obl ((decide (k > (c.n0 + c.n1))) = (decide (k > (c.n0 + c.n1)))) (.br (decide (k > (c.n0 + c.n1))) (.bad) (.obl (b_1 = b_1) (.br (decide (k ≤ c.n0)) (.bad) (.ret (vI 1) [Efdc04 b_1 c]))))) (by kernel_rfl) ?_
  refine ok_obl rfl ?_
  refine ok_br (fun h => absurd (show (decide (k > (c.n0 + c.n1))) = false from (by simp only [Cfg.Ok] at hc; simp; omega)) (by rw [h]; simp)) (fun _ => ?_)
  refine ok_obl rfl ?_
  refine ok_br (fun h => absurd (show (decide (k ≤ c.n0)) = false from (by simp only [Cfg.Ok] at hc; simp; omega)) (by rw [h]; simp)) (fun _ => ?_)
  exact ret_ok (post := []) [] (by kernel_rfl) ⟨rfl, (by kernel_rfl)⟩

noncomputable def B30 : Code := (Tryz.f30.body).getD .skip

theorem ref_Slot (c : Cfg) (i : Int) (hc : c.Ok) (hi : InK .i64 i) :
    Ctr Tryz.prog 30 #[cfgV c, vI i] [] (Ret (vI (slotAt c i)) []) := by
  refine ctr_of (args := [cfgV c, vI i]) (fn := Tryz.f30) (body := B30) (nt := 15) Tryz.func30 (by kernel_rfl) (by kernel_rfl) ?_
  intro F
  refine go_exec (rs := [.tmp 4]) (by kernel_rfl) 4000 [.sp [7, 6] [] [.e 0, .sp [12, 11] [] [.n]]] (o := .new fun b_1 => .obl ((decide (i < 0)) = (decide (i < 0))) (.br (decide (i < 0)) (.ret (vI (-1)) [Efdc04 b_1 c]) (.obl (b_1 = b_1) (.obl ((decide (i ≥ c.slots)) = (decide (i ≥ c.slots))) (.br (decide (i ≥ c.slots)) (.ret (vI (-1)) [Efdc04 b_1 c]) (.obl (InK .i64 (5 + i)) (.ret (vI (5 + i)) [Efdc04 b_1 c]))))))) (by kernel_rfl) ?_
  refine ok_new fun b_1 => ?_
  refine ok_obl rfl ?_
  refine ok_br (fun h_2 => ?_) (fun h_2 => ?_)
  · replace h_2 := decT h_2
    exact ret_ok (post := []) [] (by kernel_rfl) ⟨(congrArg (Value.int .i64) (by unfold slotAt; (repeat' split) <;> omega)), (by kernel_rfl)⟩
  · replace h_2 := decF h_2
    refine ok_obl rfl ?_
    refine ok_obl rfl ?_
    refine ok_br (fun h_3 => ?_) (fun h_3 => ?_)
    · replace h_3 := decT h_3
      exact ret_ok (post := []) [] (by kernel_rfl) ⟨(congrArg (Value.int .i64) (by unfold slotAt; (repeat' split) <;> omega)), (by kernel_rfl)⟩
    · replace h_3 := decF h_3
      refine ok_obl (by simp only [Cfg.Ok, InK] at *; omega) ?_
      exact ret_ok (post := []) [] (by kernel_rfl) ⟨(congrArg (Value.int .i64) (by unfold slotAt; (repeat' split) <;> omega)), (by kernel_rfl)⟩

noncomputable def B65 : Code := (Tryz.f65.body).getD .skip

theorem ref_Size (c : Cfg) (hc : c.Ok) :
    Ctr Tryz.prog 65 #[cfgV c] [] (Ret (vI (sizeOfC c)) []) := by
  refine ctr_of (args := [cfgV c]) (fn := Tryz.f65) (body := B65) (nt := 38) Tryz.func65 (by kernel_rfl) (by kernel_rfl) ?_
  intro F
  refine go_exec (rs := [.tmp 2]) (by kernel_rfl) 4000 [.e 0, .n, .e 0, .n, .e 0, .e 0, .n, .n, .n, .n, .u, .z q9_0 0 [1, 3, 4]] (o := .new fun b_1 => .obl (b_1 = b_1) (.obl (InK .i64 (5 + c.slots)) (.obl (b_1 = b_1) (.obl (InK .i64 ((5 + c.slots) + c.topics)) (.obl (b_1 = b_1) (.obl (b_1 = b_1) (.obl (InK .i64 (2 * c.small)) (.obl (InK .i64 (1 + (2 * c.small))) (.obl (InK .i64 (c.topics * (1 + (2 * c.small)))) (.obl (InK .i64 (((5 + c.slots) + c.topics) + (c.topics * (1 + (2 * c.small))))) (.stop [.c q9_0, .b 1, .c q9_1, .r [0, 1, 0, 1, 1], .b 0, .c [1, 1, 1]] [(1, vP b_1), (3, vI (((5 + c.slots) + c.topics) + (c.topics * (1 + (2 * c.small))))), (4, vI 0)] [Efdc04 b_1 c]))))))))))) (by kernel_rfl) ?_
  refine ok_new fun b_1 => ?_
  refine ok_obl rfl ?_
  refine ok_obl (by have hb := size_nl hc; simp only [Cfg.Ok, InK] at *; omega) ?_
  refine ok_obl rfl ?_
  refine ok_obl (by have hb := size_nl hc; simp only [Cfg.Ok, InK] at *; omega) ?_
  refine ok_obl rfl ?_
  refine ok_obl rfl ?_
  refine ok_obl (by have hb := size_nl hc; simp only [Cfg.Ok, InK] at *; omega) ?_
  refine ok_obl (by have hb := size_nl hc; simp only [Cfg.Ok, InK] at *; omega) ?_
  refine ok_obl (by have hb := size_nl hc; simp only [Cfg.Ok, InK] at *; omega) ?_
  refine ok_obl (by have hb := size_nl hc; simp only [Cfg.Ok, InK] at *; omega) ?_
  refine ok_stop ?_
  have aS2_1 : Any Tryz.prog Tryz.f65 B65 38 F (RetR F (Ret (vI (sizeOfC c)) [])) (regOps B65 q9_0) [.b 1, .c q9_1, .r [0, 1, 0, 1, 1], .b 0, .c [1, 1, 1]] #[true, true, true, true, true, true, true, true, true, true, true, true, true, true, true] [(1, vP b_1), (3, vI ((((5 + c.slots) + c.topics) + (c.topics * (1 + (2 * c.small)))) + (c.n0 * (1 + c.s0)))), (4, vI 0)] [Efdc04 b_1 c] := by
    refine any_done (by kernel_rfl) ?_
    refine go_exec (rs := [.tmp 2]) (by kernel_rfl) 4000 [.w, .u, .z q9_0 0 [1, 3, 4]] (o := .stop [.c q9_0, .b 1, .c q9_1, .r [0, 1, 0, 1, 1], .b 0, .c [1, 1, 1]] [(1, vP b_1), (3, vI ((((5 + c.slots) + c.topics) + (c.topics * (1 + (2 * c.small)))) + (c.n0 * (1 + c.s0)))), (4, vI 1)] [Efdc04 b_1 c]) (by kernel_rfl) ?_
    refine ok_stop ?_
    have aS2_1 : Any Tryz.prog Tryz.f65 B65 38 F (RetR F (Ret (vI (sizeOfC c)) [])) (regOps B65 q9_0) [.b 1, .c q9_1, .r [0, 1, 0, 1, 1], .b 0, .c [1, 1, 1]] #[true, true, true, true, true, true, true, true, true, true, true, true, true, true, true] [(1, vP b_1), (3, vI (((((5 + c.slots) + c.topics) + (c.topics * (1 + (2 * c.small)))) + (c.n0 * (1 + c.s0))) + (c.n1 * (1 + c.s1)))), (4, vI 1)] [Efdc04 b_1 c] := by
      refine any_done (by kernel_rfl) ?_
      refine go_exec (rs := [.tmp 2]) (by kernel_rfl) 4000 [.w, .u] (o := .ret (vI (((((5 + c.slots) + c.topics) + (c.topics * (1 + (2 * c.small)))) + (c.n0 * (1 + c.s0))) + (c.n1 * (1 + c.s1)))) [Efdc04 b_1 c]) (by kernel_rfl) ?_
      exact ret_ok (post := []) [] (by kernel_rfl) ⟨rfl, (by kernel_rfl)⟩
    have aS1_1 : Any Tryz.prog Tryz.f65 B65 38 F (RetR F (Ret (vI (sizeOfC c)) [])) (regOps B65 q9_0) [.b 1, .c q9_1, .r [0, 1, 0, 1, 1], .b 0, .c [1, 1, 1]] #[true, true, true, true, true, true, true, true, true, true, false, false, false, false, false] [(1, vP b_1), (3, vI ((((5 + c.slots) + c.topics) + (c.topics * (1 + (2 * c.small)))) + (c.n0 * (1 + c.s0)))), (4, vI 1), (23, vI ((((5 + c.slots) + c.topics) + (c.topics * (1 + (2 * c.small)))) + (c.n0 * (1 + c.s0)))), (32, .pointer (some ⟨b_1, 6, none⟩)), (28, vI c.n1)] [Efdc04 b_1 c] := by
      refine any_step [10] (by kernel_rfl) rfl ⟨?_, trivial⟩
      · refine any_op (so := .obl (b_1 = b_1) (.ok (.value (vI c.s1)) [Efdc04 b_1 c])) (dst := (some 33)) (.e 0) (by kernel_rfl) ?_
        refine sat_obl rfl ?_
        refine sat_value ?_
        refine any_pure (l' := #[true, true, true, true, true, true, true, true, true, true, true, true, true, true, true]) (tm' := [(1, vP b_1), (3, vI (((((5 + c.slots) + c.topics) + (c.topics * (1 + (2 * c.small)))) + (c.n0 * (1 + c.s0))) + (c.n1 * (1 + c.s1)))), (4, vI 1)]) (ps := [InK .i64 (1 + c.s1), InK .i64 (c.n1 * (1 + c.s1)), InK .i64 (((((5 + c.slots) + c.topics) + (c.topics * (1 + (2 * c.small)))) + (c.n0 * (1 + c.s0))) + (c.n1 * (1 + c.s1)))]) [(11, .n), (12, .n), (13, .n)] [1, 3, 4] (by kernel_rfl) ⟨(by have hb := size_nl hc; simp only [Cfg.Ok, InK] at *; omega), (by have hb := size_nl hc; simp only [Cfg.Ok, InK] at *; omega), (by have hb := size_nl hc; simp only [Cfg.Ok, InK] at *; omega), trivial⟩ ?_
        exact aS2_1
    have aS3_1 : Any Tryz.prog Tryz.f65 B65 38 F (RetR F (Ret (vI (sizeOfC c)) [])) (regOps B65 q9_0) [.b 1, .c q9_1, .r [0, 1, 0, 1, 1], .b 0, .c [1, 1, 1]] #[true, true, true, true, true, false, true, true, true, true, true, true, false, false, false] [(1, vP b_1), (3, vI ((((5 + c.slots) + c.topics) + (c.topics * (1 + (2 * c.small)))) + (c.n0 * (1 + c.s0)))), (4, vI 1), (23, vI ((((5 + c.slots) + c.topics) + (c.topics * (1 + (2 * c.small)))) + (c.n0 * (1 + c.s0)))), (27, .pointer (some ⟨b_1, 7, none⟩)), (34, vI (1 + c.s1))] [Efdc04 b_1 c] := by
      refine any_step [5] (by kernel_rfl) rfl ⟨?_, trivial⟩
      · refine any_op (so := .obl (b_1 = b_1) (.ok (.value (vI c.n1)) [Efdc04 b_1 c])) (dst := (some 28)) (.e 0) (by kernel_rfl) ?_
        refine sat_obl rfl ?_
        refine sat_value ?_
        refine any_pure (l' := #[true, true, true, true, true, true, true, true, true, true, true, true, true, true, true]) (tm' := [(1, vP b_1), (3, vI (((((5 + c.slots) + c.topics) + (c.topics * (1 + (2 * c.small)))) + (c.n0 * (1 + c.s0))) + (c.n1 * (1 + c.s1)))), (4, vI 1)]) (ps := [InK .i64 (c.n1 * (1 + c.s1)), InK .i64 (((((5 + c.slots) + c.topics) + (c.topics * (1 + (2 * c.small)))) + (c.n0 * (1 + c.s0))) + (c.n1 * (1 + c.s1)))]) [(11, .n), (12, .n), (13, .n)] [1, 3, 4] (by kernel_rfl) ⟨(by have hb := size_nl hc; simp only [Cfg.Ok, InK] at *; omega), (by have hb := size_nl hc; simp only [Cfg.Ok, InK] at *; omega), trivial⟩ ?_
        exact aS2_1
    have aS0_1 : Any Tryz.prog Tryz.f65 B65 38 F (RetR F (Ret (vI (sizeOfC c)) [])) (regOps B65 q9_0) [.b 1, .c q9_1, .r [0, 1, 0, 1, 1], .b 0, .c [1, 1, 1]] #[true, true, true, true, true, false, true, true, true, true, false, false, false, false, false] [(1, vP b_1), (3, vI ((((5 + c.slots) + c.topics) + (c.topics * (1 + (2 * c.small)))) + (c.n0 * (1 + c.s0)))), (4, vI 1), (23, vI ((((5 + c.slots) + c.topics) + (c.topics * (1 + (2 * c.small)))) + (c.n0 * (1 + c.s0)))), (27, .pointer (some ⟨b_1, 7, none⟩)), (32, .pointer (some ⟨b_1, 6, none⟩))] [Efdc04 b_1 c] := by
      refine any_step [5, 10] (by kernel_rfl) rfl ⟨?_, ?_, trivial⟩
      · refine any_op (so := .obl (b_1 = b_1) (.ok (.value (vI c.n1)) [Efdc04 b_1 c])) (dst := (some 28)) (.e 0) (by kernel_rfl) ?_
        refine sat_obl rfl ?_
        refine sat_value ?_
        refine any_pure (l' := #[true, true, true, true, true, true, true, true, true, true, false, false, false, false, false]) (tm' := [(1, vP b_1), (3, vI ((((5 + c.slots) + c.topics) + (c.topics * (1 + (2 * c.small)))) + (c.n0 * (1 + c.s0)))), (4, vI 1), (23, vI ((((5 + c.slots) + c.topics) + (c.topics * (1 + (2 * c.small)))) + (c.n0 * (1 + c.s0)))), (32, .pointer (some ⟨b_1, 6, none⟩)), (28, vI c.n1)]) (ps := []) [(11, .n), (12, .n), (13, .n)] [1, 3, 4, 23, 32, 28] (by kernel_rfl) trivial ?_
        exact aS1_1
      · refine any_op (so := .obl (b_1 = b_1) (.ok (.value (vI c.s1)) [Efdc04 b_1 c])) (dst := (some 33)) (.e 0) (by kernel_rfl) ?_
        refine sat_obl rfl ?_
        refine sat_value ?_
        refine any_pure (l' := #[true, true, true, true, true, false, true, true, true, true, true, true, false, false, false]) (tm' := [(1, vP b_1), (3, vI ((((5 + c.slots) + c.topics) + (c.topics * (1 + (2 * c.small)))) + (c.n0 * (1 + c.s0)))), (4, vI 1), (23, vI ((((5 + c.slots) + c.topics) + (c.topics * (1 + (2 * c.small)))) + (c.n0 * (1 + c.s0)))), (27, .pointer (some ⟨b_1, 7, none⟩)), (34, vI (1 + c.s1))]) (ps := [InK .i64 (1 + c.s1)]) [(11, .n), (12, .n), (13, .n)] [1, 3, 4, 23, 27, 34] (by kernel_rfl) ⟨(by have hb := size_nl hc; simp only [Cfg.Ok, InK] at *; omega), trivial⟩ ?_
        exact aS3_1
    refine go_any (by kernel_rfl) (by kernel_rfl) ?_
    refine any_pure (l' := #[true, true, true, true, true, false, true, true, true, true, false, false, false, false, false]) (tm' := [(1, vP b_1), (3, vI ((((5 + c.slots) + c.topics) + (c.topics * (1 + (2 * c.small)))) + (c.n0 * (1 + c.s0)))), (4, vI 1), (23, vI ((((5 + c.slots) + c.topics) + (c.topics * (1 + (2 * c.small)))) + (c.n0 * (1 + c.s0)))), (27, .pointer (some ⟨b_1, 7, none⟩)), (32, .pointer (some ⟨b_1, 6, none⟩))]) (ps := []) [(11, .n), (12, .n), (13, .n)] [1, 3, 4, 23, 27, 32] (by kernel_rfl) trivial ?_
    exact aS0_1
  have aS1_1 : Any Tryz.prog Tryz.f65 B65 38 F (RetR F (Ret (vI (sizeOfC c)) [])) (regOps B65 q9_0) [.b 1, .c q9_1, .r [0, 1, 0, 1, 1], .b 0, .c [1, 1, 1]] #[true, true, true, true, true, true, true, true, true, true, false, false, false, false, false] [(1, vP b_1), (3, vI (((5 + c.slots) + c.topics) + (c.topics * (1 + (2 * c.small))))), (4, vI 0), (23, vI (((5 + c.slots) + c.topics) + (c.topics * (1 + (2 * c.small))))), (32, .pointer (some ⟨b_1, 4, none⟩)), (28, vI c.n0)] [Efdc04 b_1 c] := by
    refine any_step [10] (by kernel_rfl) rfl ⟨?_, trivial⟩
    · refine any_op (so := .obl (b_1 = b_1) (.ok (.value (vI c.s0)) [Efdc04 b_1 c])) (dst := (some 33)) (.e 0) (by kernel_rfl) ?_
      refine sat_obl rfl ?_
      refine sat_value ?_
      refine any_pure (l' := #[true, true, true, true, true, true, true, true, true, true, true, true, true, true, true]) (tm' := [(1, vP b_1), (3, vI ((((5 + c.slots) + c.topics) + (c.topics * (1 + (2 * c.small)))) + (c.n0 * (1 + c.s0)))), (4, vI 0)]) (ps := [InK .i64 (1 + c.s0), InK .i64 (c.n0 * (1 + c.s0)), InK .i64 ((((5 + c.slots) + c.topics) + (c.topics * (1 + (2 * c.small)))) + (c.n0 * (1 + c.s0)))]) [(11, .n), (12, .n), (13, .n)] [1, 3, 4] (by kernel_rfl) ⟨(by have hb := size_nl hc; simp only [Cfg.Ok, InK] at *; omega), (by have hb := size_nl hc; simp only [Cfg.Ok, InK] at *; omega), (by have hb := size_nl hc; simp only [Cfg.Ok, InK] at *; omega), trivial⟩ ?_
      exact aS2_1
  have aS3_1 : Any Tryz.prog Tryz.f65 B65 38 F (RetR F (Ret (vI (sizeOfC c)) [])) (regOps B65 q9_0) [.b 1, .c q9_1, .r [0, 1, 0, 1, 1], .b 0, .c [1, 1, 1]] #[true, true, true, true, true, false, true, true, true, true, true, true, false, false, false] [(1, vP b_1), (3, vI (((5 + c.slots) + c.topics) + (c.topics * (1 + (2 * c.small))))), (4, vI 0), (23, vI (((5 + c.slots) + c.topics) + (c.topics * (1 + (2 * c.small))))), (27, .pointer (some ⟨b_1, 5, none⟩)), (34, vI (1 + c.s0))] [Efdc04 b_1 c] := by
    refine any_step [5] (by kernel_rfl) rfl ⟨?_, trivial⟩
    · refine any_op (so := .obl (b_1 = b_1) (.ok (.value (vI c.n0)) [Efdc04 b_1 c])) (dst := (some 28)) (.e 0) (by kernel_rfl) ?_
      refine sat_obl rfl ?_
      refine sat_value ?_
      refine any_pure (l' := #[true, true, true, true, true, true, true, true, true, true, true, true, true, true, true]) (tm' := [(1, vP b_1), (3, vI ((((5 + c.slots) + c.topics) + (c.topics * (1 + (2 * c.small)))) + (c.n0 * (1 + c.s0)))), (4, vI 0)]) (ps := [InK .i64 (c.n0 * (1 + c.s0)), InK .i64 ((((5 + c.slots) + c.topics) + (c.topics * (1 + (2 * c.small)))) + (c.n0 * (1 + c.s0)))]) [(11, .n), (12, .n), (13, .n)] [1, 3, 4] (by kernel_rfl) ⟨(by have hb := size_nl hc; simp only [Cfg.Ok, InK] at *; omega), (by have hb := size_nl hc; simp only [Cfg.Ok, InK] at *; omega), trivial⟩ ?_
      exact aS2_1
  have aS0_1 : Any Tryz.prog Tryz.f65 B65 38 F (RetR F (Ret (vI (sizeOfC c)) [])) (regOps B65 q9_0) [.b 1, .c q9_1, .r [0, 1, 0, 1, 1], .b 0, .c [1, 1, 1]] #[true, true, true, true, true, false, true, true, true, true, false, false, false, false, false] [(1, vP b_1), (3, vI (((5 + c.slots) + c.topics) + (c.topics * (1 + (2 * c.small))))), (4, vI 0), (23, vI (((5 + c.slots) + c.topics) + (c.topics * (1 + (2 * c.small))))), (27, .pointer (some ⟨b_1, 5, none⟩)), (32, .pointer (some ⟨b_1, 4, none⟩))] [Efdc04 b_1 c] := by
    refine any_step [5, 10] (by kernel_rfl) rfl ⟨?_, ?_, trivial⟩
    · refine any_op (so := .obl (b_1 = b_1) (.ok (.value (vI c.n0)) [Efdc04 b_1 c])) (dst := (some 28)) (.e 0) (by kernel_rfl) ?_
      refine sat_obl rfl ?_
      refine sat_value ?_
      refine any_pure (l' := #[true, true, true, true, true, true, true, true, true, true, false, false, false, false, false]) (tm' := [(1, vP b_1), (3, vI (((5 + c.slots) + c.topics) + (c.topics * (1 + (2 * c.small))))), (4, vI 0), (23, vI (((5 + c.slots) + c.topics) + (c.topics * (1 + (2 * c.small))))), (32, .pointer (some ⟨b_1, 4, none⟩)), (28, vI c.n0)]) (ps := []) [(11, .n), (12, .n), (13, .n)] [1, 3, 4, 23, 32, 28] (by kernel_rfl) trivial ?_
      exact aS1_1
    · refine any_op (so := .obl (b_1 = b_1) (.ok (.value (vI c.s0)) [Efdc04 b_1 c])) (dst := (some 33)) (.e 0) (by kernel_rfl) ?_
      refine sat_obl rfl ?_
      refine sat_value ?_
      refine any_pure (l' := #[true, true, true, true, true, false, true, true, true, true, true, true, false, false, false]) (tm' := [(1, vP b_1), (3, vI (((5 + c.slots) + c.topics) + (c.topics * (1 + (2 * c.small))))), (4, vI 0), (23, vI (((5 + c.slots) + c.topics) + (c.topics * (1 + (2 * c.small))))), (27, .pointer (some ⟨b_1, 5, none⟩)), (34, vI (1 + c.s0))]) (ps := [InK .i64 (1 + c.s0)]) [(11, .n), (12, .n), (13, .n)] [1, 3, 4, 23, 27, 34] (by kernel_rfl) ⟨(by have hb := size_nl hc; simp only [Cfg.Ok, InK] at *; omega), trivial⟩ ?_
      exact aS3_1
  refine go_any (by kernel_rfl) (by kernel_rfl) ?_
  refine any_pure (l' := #[true, true, true, true, true, false, true, true, true, true, false, false, false, false, false]) (tm' := [(1, vP b_1), (3, vI (((5 + c.slots) + c.topics) + (c.topics * (1 + (2 * c.small))))), (4, vI 0), (23, vI (((5 + c.slots) + c.topics) + (c.topics * (1 + (2 * c.small))))), (27, .pointer (some ⟨b_1, 5, none⟩)), (32, .pointer (some ⟨b_1, 4, none⟩))]) (ps := []) [(11, .n), (12, .n), (13, .n)] [1, 3, 4, 23, 27, 32] (by kernel_rfl) trivial ?_
  exact aS0_1

noncomputable def B69 : Code := (Tryz.f69.body).getD .skip

theorem ref_Block (c : Cfg) (k : Int) (hc : c.Ok) (h : 1 ≤ k ∧ k ≤ c.n0 + c.n1) :
    Ctr Tryz.prog 69 #[cfgV c, vI k] [] (Ret (vI (blockAt c k)) []) := by
  refine ctr_of (args := [cfgV c, vI k]) (fn := Tryz.f69) (body := B69) (nt := 45) Tryz.func69 (by kernel_rfl) (by kernel_rfl) ?_
  intro F
  refine go_exec (rs := [.tmp 4]) (by kernel_rfl) 4000 [.sp [9, 8] [.dead] [.e 0, .z [0, 0, 1] 5 [1, 2, 9, 10, 11]]] (o := .new fun b_1 => .obl ((decide (k < 1)) = (decide (k < 1))) (.br (decide (k < 1)) (.bad) (.obl (b_1 = b_1) (.stop [.o [0, 0, 1] 5, .c [1, 0, 1], .c [1, 1]] [(1, vI k), (2, vP b_1), (9, .bool false), (10, vI k), (11, cfgV c)] [Efdc04 b_1 c])))) (by kernel_rfl) ?_
  refine ok_new fun b_1 => ?_
  refine ok_obl rfl ?_
  refine ok_br (fun h => absurd (show (decide (k < 1)) = false from (by first | (simp; done) | (simp; omega))) (by rw [h]; simp)) (fun _ => ?_)
  refine ok_obl rfl ?_
  refine ok_stop ?_
  refine go_call (some 12) [] Tryz.call67 (ref_Blocks c (by first | assumption | omega | (simp only [InK] at *; omega))) (by kernel_rfl) ?_
  rintro v post ⟨rfl, rfl⟩
  refine go_exec (rs := [.tmp 4]) (by kernel_rfl) 4000 [.sp [14, 13] [.dead] [.e 0, .n, .e 0, .n, .e 0, .e 0, .n, .n, .n, .n, .z [0, 1, 0, 1, 1, 1] 0 [1, 2, 5, 6]]] (o := .obl ((decide (k > (c.n0 + c.n1))) = (decide (k > (c.n0 + c.n1)))) (.br (decide (k > (c.n0 + c.n1))) (.bad) (.obl (b_1 = b_1) (.obl (InK .i64 (5 + c.slots)) (.obl (b_1 = b_1) (.obl (InK .i64 ((5 + c.slots) + c.topics)) (.obl (b_1 = b_1) (.obl (b_1 = b_1) (.obl (InK .i64 (2 * c.small)) (.obl (InK .i64 (1 + (2 * c.small))) (.obl (InK .i64 (c.topics * (1 + (2 * c.small)))) (.obl (InK .i64 (((5 + c.slots) + c.topics) + (c.topics * (1 + (2 * c.small))))) (.stop [.c [0, 1, 0, 1, 1, 1], .b 0, .c [1, 1, 1, 1]] [(1, vI k), (2, vP b_1), (5, vI (((5 + c.slots) + c.topics) + (c.topics * (1 + (2 * c.small))))), (6, vI 1)] [Efdc04 b_1 c]))))))))))))) (by kernel_rfl) ?_
  refine ok_obl rfl ?_
  refine ok_br (fun h => absurd (show (decide (k > (c.n0 + c.n1))) = false from (by first | (simp; done) | (simp; omega))) (by rw [h]; simp)) (fun _ => ?_)
  refine ok_obl rfl ?_
  refine ok_obl (by have hb := size_nl hc; simp only [Cfg.Ok, InK] at *; omega) ?_
  refine ok_obl rfl ?_
  refine ok_obl (by have hb := size_nl hc; simp only [Cfg.Ok, InK] at *; omega) ?_
  refine ok_obl rfl ?_
  refine ok_obl rfl ?_
  refine ok_obl (by have hb := size_nl hc; simp only [Cfg.Ok, InK] at *; omega) ?_
  refine ok_obl (by have hb := size_nl hc; simp only [Cfg.Ok, InK] at *; omega) ?_
  refine ok_obl (by have hb := size_nl hc; simp only [Cfg.Ok, InK] at *; omega) ?_
  refine ok_obl (by have hb := size_nl hc; simp only [Cfg.Ok, InK] at *; omega) ?_
  refine ok_stop ?_
  refine go_loop (ι := Int) (fun i => [(1, vI k), (2, vP b_1), (5, vI (blockAt c i)), (6, vI i)]) (fun i => [Efdc04 b_1 c]) (fun i => 1 ≤ i ∧ i ≤ k) (fun i => (k - i).toNat) 1 [1, 2, 5, 6] [0] (by kernel_rfl) (by first | rfl | (rw [blk_one hc (by omega)]; rfl)) rfl (by kernel_rfl) ⟨by omega, by omega⟩ ?_
  intro i J_2 hIJ_2 hJ_2
  have hx := hIJ_2
  refine go_exec (rs := [.tmp 4]) (by kernel_rfl) 4000 [.sp [31] [.n, .e 0, .z q9_2 4 [1, 2, 6, 35, 36, 37]] []] (o := .br (decide (i < k)) (.obl (InK .i64 ((blockAt c i) + 1)) (.obl (b_1 = b_1) (.stop [.o q9_2 4, .b 1, .c [1, 1, 0, 0, 1, 0, 1, 1, 1], .j J_2, .b 0, .c [1, 1, 1, 1]] [(1, vI k), (2, vP b_1), (6, vI i), (35, vI ((blockAt c i) + 1)), (36, cfgV c), (37, vI i)] [Efdc04 b_1 c]))) (.ret (vI (blockAt c i)) [Efdc04 b_1 c])) (by kernel_rfl) ?_
  refine ok_br (fun h_3 => ?_) (fun h_3 => ?_)
  · replace h_3 := decT h_3
    refine ok_obl (by have hb := size_nl hc; have hq := blockAt_ok hc (clsOf_pos (c := c) (b := i) (by omega)); have hz := sizeOfC_ok hc; simp only [Cfg.Ok, InK] at *; omega) ?_
    refine ok_obl rfl ?_
    refine ok_stop ?_
    by_cases hcl : i ≤ c.n0
    · refine go_call (some 38) [] Tryz.call68 (ref_Class0 c i (by first | assumption | omega | (simp only [InK] at *; omega)) (by omega)) (by kernel_rfl) ?_
      rintro v post ⟨rfl, rfl⟩
      refine go_exec (rs := [.tmp 4]) (by kernel_rfl) 4000 [.w, .e 0, .n, .n, .z [] 0 [1, 2, 5, 6]] (o := .obl (b_1 = b_1) (.obl (InK .i64 (((blockAt c i) + 1) + c.s0)) (.obl (InK .i64 (i + 1)) (.stop [.j J_2, .b 0, .c [1, 1, 1, 1]] [(1, vI k), (2, vP b_1), (5, vI (((blockAt c i) + 1) + c.s0)), (6, vI (i + 1))] [Efdc04 b_1 c])))) (by kernel_rfl) ?_
      refine ok_obl rfl ?_
      refine ok_obl (by have hb := size_nl hc; have hq := blockAt_ok hc (clsOf_pos (c := c) (b := i) (by omega)); have hz := sizeOfC_ok hc; simp only [Cfg.Ok, InK] at *; omega) ?_
      refine ok_obl (by have hb := size_nl hc; have hq := blockAt_ok hc (clsOf_pos (c := c) (b := i) (by omega)); have hz := sizeOfC_ok hc; simp only [Cfg.Ok, InK] at *; omega) ?_
      refine ok_stop ?_
      exact go_back hJ_2 (i + 1) [0] (by kernel_rfl) (by first | rfl | (rw [ref_block hc (by omega)]; first | rw [if_pos hcl] | rw [if_neg hcl])) rfl (by omega) (by omega)
    · refine go_call (some 38) [] Tryz.call68 (ref_Class1 c i (by first | assumption | omega | (simp only [InK] at *; omega)) (by omega)) (by kernel_rfl) ?_
      rintro v post ⟨rfl, rfl⟩
      refine go_exec (rs := [.tmp 4]) (by kernel_rfl) 4000 [.w, .e 0, .n, .n, .z [] 0 [1, 2, 5, 6]] (o := .obl (b_1 = b_1) (.obl (InK .i64 (((blockAt c i) + 1) + c.s1)) (.obl (InK .i64 (i + 1)) (.stop [.j J_2, .b 0, .c [1, 1, 1, 1]] [(1, vI k), (2, vP b_1), (5, vI (((blockAt c i) + 1) + c.s1)), (6, vI (i + 1))] [Efdc04 b_1 c])))) (by kernel_rfl) ?_
      refine ok_obl rfl ?_
      refine ok_obl (by have hb := size_nl hc; have hq := blockAt_ok hc (clsOf_pos (c := c) (b := i) (by omega)); have hz := sizeOfC_ok hc; simp only [Cfg.Ok, InK] at *; omega) ?_
      refine ok_obl (by have hb := size_nl hc; have hq := blockAt_ok hc (clsOf_pos (c := c) (b := i) (by omega)); have hz := sizeOfC_ok hc; simp only [Cfg.Ok, InK] at *; omega) ?_
      refine ok_stop ?_
      exact go_back hJ_2 (i + 1) [0] (by kernel_rfl) (by first | rfl | (rw [ref_block hc (by omega)]; first | rw [if_pos hcl] | rw [if_neg hcl])) rfl (by omega) (by omega)
  · replace h_3 := decF h_3
    exact ret_ok (post := []) [] (by kernel_rfl) ⟨(congrArg (Value.int .i64) (by congr 1; omega)), (by kernel_rfl)⟩

end Go.Proofs.YtiiepkjckmdmkaaGreatDoor


namespace Go.Proofs.YtiiepkjckmdmkaaGreatDoor
open Go.Sx
abbrev E0654b (x0 : Nat) (a1 : Ar) (x2 : Bool) (x3 : Int) : Ent := .pts x0 [.slice a1.aw a1.n a1.cw, .int .i64 a1.steps, .int .i64 a1.lk, .int .i64 a1.lw, .int .u64 a1.lv, .bool a1.lc, .bool x2, .int .i64 x3] 85
abbrev E458fb (x0 : Nat) (a1 : Ar) (x2 : Int) (x3 : Int) (x4 : Int) (x5 : Int) (x6 : Bool) (x7 : Bool) (x8 : Int) : Ent := .pts x0 [.slice a1.aw a1.n a1.cw, .int .i64 x2, .int .i64 x3, .int .i64 x4, .int .u64 x5, .bool x6, .bool x7, .int .i64 x8] 85
abbrev Ed155d (x0 : Nat) (x1 : Int) (x2 : Int) (x3 : Int) (x4 : Int) (x5 : Int) (x6 : Int) (x7 : Int) (x8 : Int) (x9 : Int) : Ent := .pts x0 [.int .i64 x1, .int .i64 x2, .int .i64 x3, .int .i64 x4, .int .i64 x5, .int .i64 x6, .int .i64 x7, .int .i64 x8, .int .i64 x9] 3
abbrev E0cafa (x0 : Nat) (x1 : Option Addr) (x2 : Nat) (x3 : Nat) (x4 : Int) (x5 : Int) (x6 : Int) (x7 : Int) (x8 : Bool) (x9 : Bool) (x10 : Int) : Ent := .pts x0 [.slice x1 x2 x3, .int .i64 x4, .int .i64 x5, .int .i64 x6, .int .u64 x7, .bool x8, .bool x9, .int .i64 x10] 85
noncomputable def B105 : Code := (Tryz.f105.body).getD .skip

theorem ref_step (ra : Nat) (A : Ar) (i kd : Int) (hn : A.ws.length = A.n) (hi : 0 ≤ i ∧ i < A.n) (hs : -1000000000 ≤ A.steps ∧ A.steps ≤ 1000000000) :
    Ctr Tryz.prog 105 #[vP ra, vI kd, vI i] [E0654b ra A false 0] (Ret (.bool true) [E458fb ra A (A.steps + 1) kd i 0 false false 0]) := by
  refine ctr_of (args := [vP ra, vI kd, vI i]) (fn := Tryz.f105) (body := B105) (nt := 43) Tryz.func105 (by kernel_rfl) (by kernel_rfl) ?_
  intro F
  refine go_exec (rs := [.tmp 6]) (by kernel_rfl) 4000 [.e 0, .n, .e 0, .e 0, .sp [22, 21] [.e 0, .sp [30, 29] [] [.dead]] [.dead]] (o := .obl (ra = ra) (.obl (InK .i64 (A.steps + 1)) (.obl (ra = ra) (.obl (ra = ra) (.obl ((decide (i ≥ 0)) = (decide (i ≥ 0))) (.br (decide (i ≥ 0)) (.obl (ra = ra) (.obl ((decide (i < ((A.n : Nat) : Int))) = (decide (i < ((A.n : Nat) : Int)))) (.br (decide (i < ((A.n : Nat) : Int))) (.ret (.bool true) [E458fb ra A (A.steps + 1) kd i 0 false false 0]) (.bad)))) (.bad))))))) (by kernel_rfl) ?_
  refine ok_obl rfl ?_
  refine ok_obl (by simp only [InK]; omega) ?_
  refine ok_obl rfl ?_
  refine ok_obl rfl ?_
  refine ok_obl rfl ?_
  refine ok_br (fun _ => ?_) (fun h => absurd (show (decide (i ≥ 0)) = true from (by first | (simp; done) | (simp; omega))) (by rw [h]; simp))
  refine ok_obl rfl ?_
  refine ok_obl rfl ?_
  refine ok_br (fun _ => ?_) (fun h => absurd (show (decide (i < ((A.n : Nat) : Int))) = true from (by first | (simp; done) | (simp; omega))) (by rw [h]; simp))
  exact ret_ok (post := [E458fb ra A (A.steps + 1) kd i 0 false false 0]) [0] (by kernel_rfl) ⟨rfl, (by kernel_rfl)⟩

noncomputable def B107 : Code := (Tryz.f107.body).getD .skip

theorem ref_Load (ra : Nat) (A : Ar) (i : Int) (hn : A.ws.length = A.n) (hi : 0 ≤ i ∧ i < A.n) (hs : -1000000000 ≤ A.steps ∧ A.steps ≤ 1000000000) :
    Ctr Tryz.prog 107 #[vP ra, vI i] [E0654b ra A false 0, E632c4 A] (Ret (vU (A.ws.getD i.toNat 0)) [E0654b ra (A.load i) false 0, E632c4 (A.load i)]) := by
  refine ctr_of (args := [vP ra, vI i]) (fn := Tryz.f107) (body := B107) (nt := 29) Tryz.func107 (by kernel_rfl) (by kernel_rfl) ?_
  intro F
  refine go_exec (rs := [.tmp 4]) (by kernel_rfl) 4000 [.z [0, 1] 2 [0, 1, 6, 7]] (o := .stop [.o [0, 1] 2, .c [1, 1]] [(0, vP ra), (1, vI i), (6, vP ra), (7, vI i)] [E0654b ra A false 0, E632c4 A]) (by kernel_rfl) ?_
  refine ok_stop ?_
  refine go_call (some 8) [0] Tryz.call105 (ref_step ra A i 1 (by first | assumption | omega | (simp only [InK] at *; omega)) (by first | assumption | omega | (simp only [InK] at *; omega)) (by first | assumption | omega | (simp only [InK] at *; omega))) (by kernel_rfl) ?_
  rintro v post ⟨rfl, rfl⟩
  refine go_exec (rs := [.tmp 4]) (by kernel_rfl) 4000 [.e 1, .s 0, .j 0 i.toNat, .e 1, .e 1, .s 0, .j 0 i.toNat] (o := .obl (ra = ra) (.obl (A.aw = A.aw ∧ A.n = A.ws.length) (.obl ((0 : Int) ≤ i ∧ i < ((A.ws.length : Nat) : Int)) (.obl (slAt A.aw i.toNat 1 = slAt A.aw i.toNat 1) (.obl (i.toNat < A.ws.length) (.obl (ra = ra) (.obl (ra = ra) (.obl (A.aw = A.aw ∧ A.n = A.ws.length) (.obl ((0 : Int) ≤ i ∧ i < ((A.ws.length : Nat) : Int)) (.obl (slAt A.aw i.toNat 1 = slAt A.aw i.toNat 1) (.obl (i.toNat < A.ws.length) (.ret (vU (A.ws.getD i.toNat 0)) [E632c4 A, E458fb ra A (A.steps + 1) 1 i (A.ws.getD i.toNat 0) false false 0])))))))))))) (by kernel_rfl) ?_
  refine ok_obl rfl ?_
  refine ok_obl ⟨rfl, (by first | rfl | omega | (simp; done) | (simp; omega))⟩ ?_
  refine ok_obl (by first | omega | (simp; done) | (simp; omega)) ?_
  refine ok_obl rfl ?_
  refine ok_obl (by first | omega | (simp; done) | (simp; omega)) ?_
  refine ok_obl rfl ?_
  refine ok_obl rfl ?_
  refine ok_obl ⟨rfl, (by first | rfl | omega | (simp; done) | (simp; omega))⟩ ?_
  refine ok_obl (by first | omega | (simp; done) | (simp; omega)) ?_
  refine ok_obl rfl ?_
  refine ok_obl (by first | omega | (simp; done) | (simp; omega)) ?_
  exact ret_ok (post := [E458fb ra A (A.steps + 1) 1 i (A.ws.getD i.toNat 0) false false 0, E632c4 A]) [1, 0] (by kernel_rfl) ⟨rfl, (by kernel_rfl)⟩

noncomputable def B71 : Code := (Tryz.f71.body).getD .skip

theorem ref_Store0 (ra : Nat) (A : Ar) (i v_ : Int) (hn : A.ws.length = A.n) (hi : 0 ≤ i ∧ i < A.n) (hs : -1000000000 ≤ A.steps ∧ A.steps ≤ 1000000000) :
    Ctr Tryz.prog 71 #[vP ra, vI i, vU v_] [E0654b ra A false 0, E632c4 A] (Ret (undef) [E0654b ra (A.rstore i v_) false 0, E632c4 (A.rstore i v_)]) := by
  refine ctr_of (args := [vP ra, vI i, vU v_]) (fn := Tryz.f71) (body := B71) (nt := 27) Tryz.func71 (by kernel_rfl) (by kernel_rfl) ?_
  intro F
  refine go_exec (rs := []) (by kernel_rfl) 4000 [.z [0] 2 [0, 1, 2, 7, 8]] (o := .stop [.o [0] 2, .c [1]] [(0, vP ra), (1, vI i), (2, vU v_), (7, vP ra), (8, vI i)] [E0654b ra A false 0, E632c4 A]) (by kernel_rfl) ?_
  refine ok_stop ?_
  refine go_call (some 9) [0] Tryz.call105 (ref_step ra A i 2 (by first | assumption | omega | (simp only [InK] at *; omega)) (by first | assumption | omega | (simp only [InK] at *; omega)) (by first | assumption | omega | (simp only [InK] at *; omega))) (by kernel_rfl) ?_
  rintro v post ⟨rfl, rfl⟩
  refine go_exec (rs := []) (by kernel_rfl) 4000 [.e 1, .s 0, .j 0 i.toNat, .e 1, .e 1] (o := .obl (ra = ra) (.obl (A.aw = A.aw ∧ A.n = A.ws.length) (.obl ((0 : Int) ≤ i ∧ i < ((A.ws.length : Nat) : Int)) (.obl (slAt A.aw i.toNat 1 = slAt A.aw i.toNat 1) (.obl (i.toNat < A.ws.length) (.ex fun x_1 : Int => .obl ([vU v_] = (encI .u64) x_1) (.obl (ra = ra) (.obl (ra = ra) (.ret (undef) [E46446 A (A.ws.set i.toNat x_1), E458fb ra A (A.steps + 1) 2 i v_ true false 0]))))))))) (by kernel_rfl) ?_
  refine ok_obl rfl ?_
  refine ok_obl ⟨rfl, (by first | rfl | omega | (simp; done) | (simp; omega))⟩ ?_
  refine ok_obl (by first | omega | (simp; done) | (simp; omega)) ?_
  refine ok_obl rfl ?_
  refine ok_obl (by first | omega | (simp; done) | (simp; omega)) ?_
  refine ok_ex (v_ : Int) ?_
  refine ok_obl rfl ?_
  refine ok_obl rfl ?_
  refine ok_obl rfl ?_
  exact ret_ok (post := [E458fb ra A (A.steps + 1) 2 i v_ true false 0, E46446 A (A.ws.set i.toNat v_)]) [1, 0] (by kernel_rfl) ⟨rfl, (by kernel_rfl)⟩


theorem ref_Store (ra : Nat) (A : Ar) (i v_ : Int) (hn : A.ws.length = A.n) (hi : 0 ≤ i ∧ i < A.n) (hs : -1000000000 ≤ A.steps ∧ A.steps ≤ 1000000000) :
    Ctr Tryz.prog 71 #[vP ra, vI i, vU v_] [E0654b ra A false 0, E632c4 A] (Ret (undef) [E0654b ra (A.store i v_) false 0, E632c4 (A.store i v_)]) := by
  have h := ref_Store0 ra A i v_ hn hi hs
  rw [rstore_eq (by omega)] at h
  exact h

noncomputable def B106 : Code := (Tryz.f106.body).getD .skip

theorem ref_SwapT (ra : Nat) (A : Ar) (i old new : Int) (hn : A.ws.length = A.n) (hi : 0 ≤ i ∧ i < A.n) (hs : -1000000000 ≤ A.steps ∧ A.steps ≤ 1000000000) (hw : A.ws.getD i.toNat 0 = old) :
    Ctr Tryz.prog 106 #[vP ra, vI i, vU old, vU new] [E0654b ra A false 0, E632c4 A] (Ret (.bool true) [E0654b ra (A.swapT i new) false 0, E632c4 (A.swapT i new)]) := by
  refine ctr_of (args := [vP ra, vI i, vU old, vU new]) (fn := Tryz.f106) (body := B106) (nt := 51) Tryz.func106 (by kernel_rfl) (by kernel_rfl) ?_
  intro F
  refine go_exec (rs := [.tmp 8]) (by kernel_rfl) 4000 [.z [0, 1] 2 [0, 1, 2, 3, 10, 11]] (o := .stop [.o [0, 1] 2, .c [1, 1]] [(0, vP ra), (1, vI i), (2, vU old), (3, vU new), (10, vP ra), (11, vI i)] [E0654b ra A false 0, E632c4 A]) (by kernel_rfl) ?_
  refine ok_stop ?_
  refine go_call (some 12) [0] Tryz.call105 (ref_step ra A i 3 (by first | assumption | omega | (simp only [InK] at *; omega)) (by first | assumption | omega | (simp only [InK] at *; omega)) (by first | assumption | omega | (simp only [InK] at *; omega))) (by kernel_rfl) ?_
  rintro v post ⟨rfl, rfl⟩
  refine go_exec (rs := [.tmp 8]) (by kernel_rfl) 4000 [.e 1, .s 0, .j 0 i.toNat, .sp [23] [.e 1, .s 0, .j 0 i.toNat, .e 1, .e 1, .s 0, .j 0 i.toNat, .e 1, .e 1] [.dead]] (o := .obl (ra = ra) (.obl (A.aw = A.aw ∧ A.n = A.ws.length) (.obl ((0 : Int) ≤ i ∧ i < ((A.ws.length : Nat) : Int)) (.obl (slAt A.aw i.toNat 1 = slAt A.aw i.toNat 1) (.obl (i.toNat < A.ws.length) (.br ((A.ws.getD i.toNat 0) == old) (.obl (ra = ra) (.obl (A.aw = A.aw ∧ A.n = A.ws.length) (.obl ((0 : Int) ≤ i ∧ i < ((A.ws.length : Nat) : Int)) (.obl (slAt A.aw i.toNat 1 = slAt A.aw i.toNat 1) (.obl (i.toNat < A.ws.length) (.ex fun x_1 : Int => .obl ([vU new] = (encI .u64) x_1) (.obl (ra = ra) (.obl (ra = ra) (.obl (A.aw = A.aw ∧ A.n = (A.ws.set i.toNat x_1).length) (.obl ((0 : Int) ≤ i ∧ i < (((A.ws.set i.toNat x_1).length : Nat) : Int)) (.obl (slAt A.aw i.toNat 1 = slAt A.aw i.toNat 1) (.obl (i.toNat < (A.ws.set i.toNat x_1).length) (.obl (ra = ra) (.obl (ra = ra) (.ret (.bool true) [E46446 A (A.ws.set i.toNat x_1), E458fb ra A (A.steps + 1) 3 i ((A.ws.set i.toNat x_1).getD i.toNat 0) true false 0]))))))))))))))) (.bad))))))) (by kernel_rfl) ?_
  refine ok_obl rfl ?_
  refine ok_obl ⟨rfl, (by first | rfl | omega | (simp; done) | (simp; omega))⟩ ?_
  refine ok_obl (by first | omega | (simp; done) | (simp; omega)) ?_
  refine ok_obl rfl ?_
  refine ok_obl (by first | omega | (simp; done) | (simp; omega)) ?_
  refine ok_br (fun _ => ?_) (fun h => absurd (show ((A.ws.getD i.toNat 0) == old) = true from (by rw [hw]; simp)) (by rw [h]; simp))
  refine ok_obl rfl ?_
  refine ok_obl ⟨rfl, (by first | rfl | omega | (simp; done) | (simp; omega))⟩ ?_
  refine ok_obl (by first | omega | (simp; done) | (simp; omega)) ?_
  refine ok_obl rfl ?_
  refine ok_obl (by first | omega | (simp; done) | (simp; omega)) ?_
  refine ok_ex (new : Int) ?_
  refine ok_obl rfl ?_
  refine ok_obl rfl ?_
  refine ok_obl rfl ?_
  refine ok_obl ⟨rfl, (by first | rfl | omega | (simp; done) | (simp; omega))⟩ ?_
  refine ok_obl (by first | omega | (simp; done) | (simp; omega)) ?_
  refine ok_obl rfl ?_
  refine ok_obl (by first | omega | (simp; done) | (simp; omega)) ?_
  refine ok_obl rfl ?_
  refine ok_obl rfl ?_
  exact ret_ok (post := [E458fb ra A (A.steps + 1) 3 i ((A.ws.set i.toNat new).getD i.toNat 0) true false 0, E46446 A (A.ws.set i.toNat new)]) [1, 0] (by kernel_rfl) ⟨rfl, (by kernel_rfl)⟩


theorem ref_SwapF (ra : Nat) (A : Ar) (i old new : Int) (hn : A.ws.length = A.n) (hi : 0 ≤ i ∧ i < A.n) (hs : -1000000000 ≤ A.steps ∧ A.steps ≤ 1000000000) (hw : A.ws.getD i.toNat 0 ≠ old) :
    Ctr Tryz.prog 106 #[vP ra, vI i, vU old, vU new] [E0654b ra A false 0, E632c4 A] (Ret (.bool false) [E0654b ra (A.swapF i) false 0, E632c4 (A.swapF i)]) := by
  refine ctr_of (args := [vP ra, vI i, vU old, vU new]) (fn := Tryz.f106) (body := B106) (nt := 51) Tryz.func106 (by kernel_rfl) (by kernel_rfl) ?_
  intro F
  refine go_exec (rs := [.tmp 8]) (by kernel_rfl) 4000 [.z [0, 1] 2 [0, 1, 2, 3, 10, 11]] (o := .stop [.o [0, 1] 2, .c [1, 1]] [(0, vP ra), (1, vI i), (2, vU old), (3, vU new), (10, vP ra), (11, vI i)] [E0654b ra A false 0, E632c4 A]) (by kernel_rfl) ?_
  refine ok_stop ?_
  refine go_call (some 12) [0] Tryz.call105 (ref_step ra A i 3 (by first | assumption | omega | (simp only [InK] at *; omega)) (by first | assumption | omega | (simp only [InK] at *; omega)) (by first | assumption | omega | (simp only [InK] at *; omega))) (by kernel_rfl) ?_
  rintro v post ⟨rfl, rfl⟩
  refine go_exec (rs := [.tmp 8]) (by kernel_rfl) 4000 [.e 1, .s 0, .j 0 i.toNat, .sp [23] [.dead] [.e 1, .s 0, .j 0 i.toNat, .e 1, .e 1]] (o := .obl (ra = ra) (.obl (A.aw = A.aw ∧ A.n = A.ws.length) (.obl ((0 : Int) ≤ i ∧ i < ((A.ws.length : Nat) : Int)) (.obl (slAt A.aw i.toNat 1 = slAt A.aw i.toNat 1) (.obl (i.toNat < A.ws.length) (.br ((A.ws.getD i.toNat 0) == old) (.bad) (.obl (ra = ra) (.obl (A.aw = A.aw ∧ A.n = A.ws.length) (.obl ((0 : Int) ≤ i ∧ i < ((A.ws.length : Nat) : Int)) (.obl (slAt A.aw i.toNat 1 = slAt A.aw i.toNat 1) (.obl (i.toNat < A.ws.length) (.obl (ra = ra) (.obl (ra = ra) (.ret (.bool false) [E632c4 A, E458fb ra A (A.steps + 1) 3 i (A.ws.getD i.toNat 0) false false 0])))))))))))))) (by kernel_rfl) ?_
  refine ok_obl rfl ?_
  refine ok_obl ⟨rfl, (by first | rfl | omega | (simp; done) | (simp; omega))⟩ ?_
  refine ok_obl (by first | omega | (simp; done) | (simp; omega)) ?_
  refine ok_obl rfl ?_
  refine ok_obl (by first | omega | (simp; done) | (simp; omega)) ?_
  refine ok_br (fun h => absurd (show ((A.ws.getD i.toNat 0) == old) = false from (beq_eq_false_iff_ne.2 hw)) (by rw [h]; simp)) (fun _ => ?_)
  refine ok_obl rfl ?_
  refine ok_obl ⟨rfl, (by first | rfl | omega | (simp; done) | (simp; omega))⟩ ?_
  refine ok_obl (by first | omega | (simp; done) | (simp; omega)) ?_
  refine ok_obl rfl ?_
  refine ok_obl (by first | omega | (simp; done) | (simp; omega)) ?_
  refine ok_obl rfl ?_
  refine ok_obl rfl ?_
  exact ret_ok (post := [E458fb ra A (A.steps + 1) 3 i (A.ws.getD i.toNat 0) false false 0, E632c4 A]) [1, 0] (by kernel_rfl) ⟨rfl, (by kernel_rfl)⟩

noncomputable def B64 : Code := (Tryz.f64.body).getD .skip

theorem ref_New (n : Int) (h : 1 ≤ n ∧ n ≤ 4096) :
    Ctr Tryz.prog 64 #[vI n] [] (fun v L => ∃ (ra : Nat) (aw : Option Addr) (cw : Nat), v = vP ra ∧ L = [E0cafa ra aw ((List.replicate n.toNat (0 : Int)).length) cw 0 0 0 0 false false 0, E89d8b aw cw (List.replicate n.toNat (0 : Int))]) := by
  refine ctr_of (args := [vI n]) (fn := Tryz.f64) (body := B64) (nt := 7) Tryz.func64 (by kernel_rfl) (by kernel_rfl) ?_
  intro F
  refine go_exec (rs := [.tmp 2]) (by kernel_rfl) 4000 [.z [0, 1] 1 [3]] (o := .stop [.o [0, 1] 1, .c [1, 1]] [(3, vI n)] []) (by kernel_rfl) ?_
  refine ok_stop ?_
  refine go_make (kl := .i64) (kc := .i64) (encI .u64) 0 (0 : Int) 1 (sizedI _) 41 8 (some 4) n n (by kernel_rfl) (by omega) (by omega) (by omega) (by omega) ?_
  intro a_1 c_2
  refine go_exec (rs := [.tmp 2]) (by kernel_rfl) 4000 [] (o := .new fun b_3 => .ret (vP b_3) [E89d8b a_1 c_2 (List.replicate n.toNat (0 : Int)), E0cafa b_3 a_1 ((List.replicate n.toNat (0 : Int)).length) c_2 0 0 0 0 false false 0]) (by kernel_rfl) ?_
  refine ok_new fun b_3 => ?_
  exact ret_ok (post := [E0cafa b_3 a_1 ((List.replicate n.toNat (0 : Int)).length) c_2 0 0 0 0 false false 0, E89d8b a_1 c_2 (List.replicate n.toNat (0 : Int))]) [1, 0] (by kernel_rfl) ⟨b_3, a_1, c_2, rfl, (by kernel_rfl)⟩

noncomputable def B25 : Code := (Tryz.f25.body).getD .skip

theorem ref_Mark (cl bk : Int) (hcl : 0 ≤ cl + 1 ∧ cl + 1 ≤ 4294967295) (hb : 0 ≤ bk ∧ bk ≤ 4294967295) :
    Ctr Tryz.prog 25 #[vI cl, vI bk] [] (Ret (vU (markW cl bk)) []) := by
  refine ctr_of (args := [vI cl, vI bk]) (fn := Tryz.f25) (body := B25) (nt := 14) Tryz.func25 (by kernel_rfl) (by kernel_rfl) ?_
  intro F
  refine go_exec (rs := [.tmp 4]) (by kernel_rfl) 4000 [.n, .w, .w, .n, .w, .w, .w] (o := .obl (InK .i64 (cl + 1)) (.obl ((0 : Int) ≤ 32) (.ret (vU (IntKind.u64.wrap ((bShl .u64 (IntKind.u64.wrap (IntKind.u32.wrap (cl + 1))) 32) + (IntKind.u64.wrap (IntKind.u32.wrap bk))))) []))) (by kernel_rfl) ?_
  refine ok_obl (by simp only [InK]; omega) ?_
  refine ok_obl (by first | omega | (simp; done) | (simp; omega)) ?_
  exact ret_ok (post := []) [] (by kernel_rfl) ⟨(congrArg (Value.int .u64) (mark_eq hcl hb)), (by kernel_rfl)⟩

noncomputable def B35 : Code := (Tryz.f35.body).getD .skip

set_option maxHeartbeats 4000000 in
theorem ref_Of (b : Nat) (x0 x1 x2 x3 x4 x5 x6 x7 x8 : Int)  :
    Ctr Tryz.prog 35 #[.slice (some ⟨b, 0, none⟩) 9 9] [Ed155d b x0 x1 x2 x3 x4 x5 x6 x7 x8] (Ret (.agg #[vI x0, vI x1, vI x2, vI x3, vI x5, vI x6, vI x7, vI x8, vI x4]) [Ed155d b x0 x1 x2 x3 x4 x5 x6 x7 x8]) := by
  refine ctr_of (args := [.slice (some ⟨b, 0, none⟩) 9 9]) (fn := Tryz.f35) (body := B35) (nt := 39) Tryz.func35 (by kernel_rfl) (by kernel_rfl) ?_
  intro F
  refine go_exec (rs := [.cell 2 29]) (by kernel_rfl) 4000 [.z [0, 1] 0 [0, 2]] (o := .new fun b_1 => .stop [.c [0, 1], .c [1, 1]] [(0, .slice (some ⟨b, 0, none⟩) 9 9), (2, vP b_1)] [Ed155d b x0 x1 x2 x3 x4 x5 x6 x7 x8, Ed975e b_1 0 0 0 0 0 0 0 0 0]) (by kernel_rfl) ?_
  refine ok_new fun b_1 => ?_
  refine ok_stop ?_
  refine go_lz (by kernel_rfl) (by kernel_rfl) ?_
  refine lz_node (l' := (mk 18 [0, 1, 2, 3, 4, 5, 6, 7, 8, 9, 10, 11, 12, 13, 14, 15])) (V' := [0, 1, 2, 3, 4, 5, 6, 7, 8, 9, 10, 11, 12, 13, 14, 15]) (T1 := [(0, .slice (some ⟨b, 0, none⟩) 9 9), (2, vP b_1), (4, .slice (some ⟨b, 0, none⟩) 9 9), (5, vP b), (6, vI x0), (7, .slice (some ⟨b, 0, none⟩) 9 9), (8, .pointer (some ⟨b, 1, none⟩)), (9, vI x1), (10, .slice (some ⟨b, 0, none⟩) 9 9), (11, .pointer (some ⟨b, 2, none⟩)), (12, vI x2), (13, .slice (some ⟨b, 0, none⟩) 9 9), (14, .pointer (some ⟨b, 3, none⟩)), (15, vI x3), (16, .slice (some ⟨b, 0, none⟩) 9 9), (17, .pointer (some ⟨b, 4, none⟩)), (18, vI x4), (19, .agg #[vI x0, vI x1, vI x2, vI x3, vI 0, vI 0, vI 0, vI 0, vI x4])]) (ps := [b = b, b = b, b = b, b = b, b = b]) [0, 1, 2, 3, 4, 5, 6, 7, 8, 9, 10, 11, 12, 13, 14, 15] [(0, .h .w), (1, .h (.w)), (2, .h (.e 0)), (3, .h .w), (4, .h (.w)), (5, .h (.e 0)), (6, .h .w), (7, .h (.w)), (8, .h (.e 0)), (9, .h .w), (10, .h (.w)), (11, .h (.e 0)), (12, .h .w), (13, .h (.w)), (14, .h (.e 0)), (15, .h .w)] [0, 2, 4, 5, 6, 7, 8, 9, 10, 11, 12, 13, 14, 15, 16, 17, 18, 19] [16] (by kernel_rfl) ⟨rfl, rfl, rfl, rfl, rfl, trivial⟩ ⟨?_, trivial⟩
  refine lz_op (l' := (mk 18 [0, 1, 2, 3, 4, 5, 6, 7, 8, 9, 10, 11, 12, 13, 14, 15, 16])) (V' := [0, 1, 2, 3, 4, 5, 6, 7, 8, 9, 10, 11, 12, 13, 14, 15]) (so := .new fun b_16_1 => .ok (.value (vP b_16_1)) [Ed155d b x0 x1 x2 x3 x4 x5 x6 x7 x8, Ed975e b_1 0 0 0 0 0 0 0 0 0, Ed975e b_16_1 0 0 0 0 0 0 0 0 0]) (dst := (some 3)) .w (by kernel_rfl) ?_
  refine sat_new fun b_16_1 => ?_
  refine sat_value ?_
  refine lz_node (l' := (mk 18 [0, 1, 2, 3, 4, 5, 6, 7, 8, 9, 10, 11, 12, 13, 14, 15, 16])) (V' := [0, 1, 2, 3, 4, 5, 6, 7, 8, 9, 10, 11, 12, 13, 14, 15]) (T1 := [(3, vP b_16_1), (0, .slice (some ⟨b, 0, none⟩) 9 9), (2, vP b_1), (4, .slice (some ⟨b, 0, none⟩) 9 9), (5, vP b), (6, vI x0), (7, .slice (some ⟨b, 0, none⟩) 9 9), (8, .pointer (some ⟨b, 1, none⟩)), (9, vI x1), (10, .slice (some ⟨b, 0, none⟩) 9 9), (11, .pointer (some ⟨b, 2, none⟩)), (12, vI x2), (13, .slice (some ⟨b, 0, none⟩) 9 9), (14, .pointer (some ⟨b, 3, none⟩)), (15, vI x3), (16, .slice (some ⟨b, 0, none⟩) 9 9), (17, .pointer (some ⟨b, 4, none⟩)), (18, vI x4), (19, .agg #[vI x0, vI x1, vI x2, vI x3, vI 0, vI 0, vI 0, vI 0, vI x4])]) (ps := [b = b, b = b, b = b, b = b, b = b]) [] [(0, .h .w), (1, .h (.w)), (2, .h (.e 0)), (3, .h .w), (4, .h (.w)), (5, .h (.e 0)), (6, .h .w), (7, .h (.w)), (8, .h (.e 0)), (9, .h .w), (10, .h (.w)), (11, .h (.e 0)), (12, .h .w), (13, .h (.w)), (14, .h (.e 0)), (15, .h .w)] [3, 0, 2, 4, 5, 6, 7, 8, 9, 10, 11, 12, 13, 14, 15, 16, 17, 18, 19] [17] (by kernel_rfl) ⟨rfl, rfl, rfl, rfl, rfl, trivial⟩ ⟨?_, trivial⟩
  refine lz_op (l' := (mk 18 [0, 1, 2, 3, 4, 5, 6, 7, 8, 9, 10, 11, 12, 13, 14, 15, 16, 17])) (V' := []) (so := .obl (b_16_1 = b_16_1) (.ok .skip [Ed155d b x0 x1 x2 x3 x4 x5 x6 x7 x8, Ed975e b_1 0 0 0 0 0 0 0 0 0, Ed975e b_16_1 x0 x1 x2 x3 0 0 0 0 x4])) (dst := none) (.e 2) (by kernel_rfl) ?_
  refine sat_obl rfl ?_
  refine sat_skip ?_
  refine lz_end (T1 := [(3, vP b_16_1), (0, .slice (some ⟨b, 0, none⟩) 9 9), (2, vP b_1)]) (ps := []) [] [] [3, 0, 2] (by kernel_rfl) trivial ?_
  refine go_exec (rs := [.cell 2 29]) (by kernel_rfl) 4000 [.z [0, 1, 1] 0 [0, 2, 3]] (o := .stop [.c [0, 1, 1], .c [1, 1, 1]] [(0, .slice (some ⟨b, 0, none⟩) 9 9), (2, vP b_1), (3, vP b_16_1)] [Ed155d b x0 x1 x2 x3 x4 x5 x6 x7 x8, Ed975e b_1 0 0 0 0 0 0 0 0 0, Ed975e b_16_1 x0 x1 x2 x3 0 0 0 0 x4]) (by kernel_rfl) ?_
  refine ok_stop ?_
  refine go_tail_op (so := .obl (b_16_1 = b_16_1) (.ok .skip [Ed155d b x0 x1 x2 x3 x4 x5 x6 x7 x8, Ed975e b_1 0 0 0 0 0 0 0 0 0, Ed975e b_16_1 x0 x1 x2 x3 x5 x6 0 0 x4])) (dst := none) (ps := [b = b, b = b]) (cs := []) [(0, .h .w), (1, .h (.w)), (2, .h (.e 0)), (3, .h .w), (4, .h (.w)), (5, .h (.e 0)), (6, .h .w), (7, .h .w), (8, .h (.w))] 9 [] (.e 2) [0, 2, 3] (by kernel_rfl) (by kernel_rfl) ⟨rfl, rfl, trivial⟩ trivial ?_
  refine sat_obl rfl ?_
  refine sat_skip ?_
  refine tail_next (tm' := [(0, .slice (some ⟨b, 0, none⟩) 9 9), (2, vP b_1), (3, vP b_16_1)]) (ps2 := []) (by kernel_rfl) trivial ?_
  refine go_exec (rs := [.cell 2 29]) (by kernel_rfl) 4000 [.z [0, 1, 1, 1] 0 [0, 2, 3]] (o := .stop [.c [0, 1, 1, 1], .c [1, 1, 1, 1]] [(0, .slice (some ⟨b, 0, none⟩) 9 9), (2, vP b_1), (3, vP b_16_1)] [Ed155d b x0 x1 x2 x3 x4 x5 x6 x7 x8, Ed975e b_1 0 0 0 0 0 0 0 0 0, Ed975e b_16_1 x0 x1 x2 x3 x5 x6 0 0 x4]) (by kernel_rfl) ?_
  refine ok_stop ?_
  refine go_tail_op (so := .obl (b_16_1 = b_16_1) (.ok .skip [Ed155d b x0 x1 x2 x3 x4 x5 x6 x7 x8, Ed975e b_1 0 0 0 0 0 0 0 0 0, Ed975e b_16_1 x0 x1 x2 x3 x5 x6 x7 x8 x4])) (dst := none) (ps := [b = b, b = b]) (cs := []) [(0, .h .w), (1, .h (.w)), (2, .h (.e 0)), (3, .h .w), (4, .h (.w)), (5, .h (.e 0)), (6, .h .w), (7, .h .w), (8, .h (.w))] 9 [] (.e 2) [2, 3] (by kernel_rfl) (by kernel_rfl) ⟨rfl, rfl, trivial⟩ trivial ?_
  refine sat_obl rfl ?_
  refine sat_skip ?_
  refine tail_next (tm' := [(2, vP b_1), (3, vP b_16_1)]) (ps2 := []) (by kernel_rfl) trivial ?_
  refine go_exec (rs := [.cell 2 29]) (by kernel_rfl) 4000 [.e 2, .e 1, .e 1] (o := .obl (b_16_1 = b_16_1) (.obl (b_1 = b_1) (.obl (b_1 = b_1) (.ret (.agg #[vI x0, vI x1, vI x2, vI x3, vI x5, vI x6, vI x7, vI x8, vI x4]) [Ed155d b x0 x1 x2 x3 x4 x5 x6 x7 x8, Ed975e b_1 x0 x1 x2 x3 x5 x6 x7 x8 x4, Ed975e b_16_1 x0 x1 x2 x3 x5 x6 x7 x8 x4])))) (by kernel_rfl) ?_
  refine ok_obl rfl ?_
  refine ok_obl rfl ?_
  refine ok_obl rfl ?_
  exact ret_ok (post := [Ed155d b x0 x1 x2 x3 x4 x5 x6 x7 x8]) [0] (by kernel_rfl) ⟨rfl, (by kernel_rfl)⟩

end Go.Proofs.YtiiepkjckmdmkaaGreatDoor


namespace Go.Proofs.YtiiepkjckmdmkaaGreatDoor
open Go.Sx
abbrev E854a5 (x0 : Nat) (c1 : Cfg) : Ent := .pts x0 [.int .i64 c1.topics, .int .i64 c1.small, .int .i64 c1.slots, .int .i64 c1.clients, .int .i64 c1.retry, .int .i64 c1.s0, .int .i64 c1.n0, .int .i64 c1.s1, .int .i64 c1.n1] 3
noncomputable def B104 : Code := (Tryz.f104.body).getD .skip

theorem ref_Parts (c : Cfg)  :
    Ctr Tryz.prog 104 #[cfgV c] [] (fun v L => ∃ (b : Nat), v = .slice (some ⟨b, 0, none⟩) 9 9 ∧ L = [E854a5 b c]) := by
  refine ctr_of (args := [cfgV c]) (fn := Tryz.f104) (body := B104) (nt := 30) Tryz.func104 (by kernel_rfl) (by kernel_rfl) ?_
  intro F
  refine go_exec (rs := [.tmp 2]) (by kernel_rfl) 4000 [.e 0, .e 0, .e 0, .e 0, .e 0, .w, .e 0, .w, .e 0, .w, .e 0, .w, .e 0] (o := .new fun b_1 => .obl (b_1 = b_1) (.obl (b_1 = b_1) (.obl (b_1 = b_1) (.obl (b_1 = b_1) (.obl (b_1 = b_1) (.obl (b_1 = b_1) (.obl (b_1 = b_1) (.obl (b_1 = b_1) (.obl (b_1 = b_1) (.new fun b_2 => .ret (.slice (some ⟨b_2, 0, none⟩) 9 9) [Efdc04 b_1 c, E854a5 b_2 c])))))))))) (by kernel_rfl) ?_
  refine ok_new fun b_1 => ?_
  refine ok_obl rfl ?_
  refine ok_obl rfl ?_
  refine ok_obl rfl ?_
  refine ok_obl rfl ?_
  refine ok_obl rfl ?_
  refine ok_obl rfl ?_
  refine ok_obl rfl ?_
  refine ok_obl rfl ?_
  refine ok_obl rfl ?_
  refine ok_new fun b_2 => ?_
  exact ret_ok (post := [E854a5 b_2 c]) [1] (by kernel_rfl) ⟨b_2, rfl, (by kernel_rfl)⟩

noncomputable def B66 : Code := (Tryz.f66.body).getD .skip

end Go.Proofs.YtiiepkjckmdmkaaGreatDoor


namespace Go.Proofs.YtiiepkjckmdmkaaGreatDoor
open Go.Sx
abbrev q13_0 : List Nat := [0, 0, 0, 1, 0, 0, 1, 0, 1, 1]
noncomputable def B34 : Code := (Tryz.f34.body).getD .skip

theorem same_u64 (a b : Option Addr) (c d : Nat) (xs ys : List Int) (hl : xs.length ≤ 1000000) :
    Ctr Tryz.prog 34 #[.slice a xs.length c, .slice b ys.length d] [E89d8b a c xs, E89d8b b d ys] (Ret (.bool (xs == ys)) [E89d8b a c xs, E89d8b b d ys]) := by
  refine ctr_of (args := [.slice a xs.length c, .slice b ys.length d]) (fn := Tryz.f34) (body := B34) (nt := 26) Tryz.func34 (by kernel_rfl) (by kernel_rfl) ?_
  intro F
  refine go_exec (rs := [.tmp 4]) (by kernel_rfl) 4000 [.sp [10] [] [.z [0, 1, 0, 1, 1] 0 [0, 1, 5]]] (o := .br (((xs.length : Nat) : Int) != ((ys.length : Nat) : Int)) (.ret (.bool false) [E89d8b a c xs, E89d8b b d ys]) (.stop [.c [0, 1, 0, 1, 1], .b 0, .c [1, 1, 1]] [(0, .slice a xs.length c), (1, .slice b ys.length d), (5, vI 0)] [E89d8b a c xs, E89d8b b d ys])) (by kernel_rfl) ?_
  refine ok_br (fun h_1 => ?_) (fun h_1 => ?_)
  · replace h_1 := bneT h_1
    exact ret_ok (post := [E89d8b a c xs, E89d8b b d ys]) [0, 1] (by kernel_rfl) ⟨(congrArg Value.bool (by first | exact (same_len (by assumption)).symm | exact (same_no (by assumption)).symm)), (by kernel_rfl)⟩
  · replace h_1 := bneF h_1
    refine ok_stop ?_
    refine go_loop (ι := Int) (fun i => [(0, .slice a xs.length c), (1, .slice b ys.length d), (5, vI i)]) (fun i => [E89d8b a c xs, E89d8b b d ys]) (fun i => (0 ≤ i ∧ i ≤ (xs.length : Int)) ∧ ∀ j : Nat, (j : Int) < i → xs.getD j 0 = ys.getD j 0) (fun i => ((xs.length : Int) - i).toNat) 0 [0, 1, 5] [0, 1] (by kernel_rfl) (by kernel_rfl) (by kernel_rfl) (by kernel_rfl) ⟨(by omega), fun j h => (by omega)⟩ ?_
    intro i J_2 hIJ_2 hJ_2
    have hx := hIJ_2
    refine go_exec (rs := [.tmp 4]) (by kernel_rfl) 4000 [.sp [14] [.z q13_0 0 [0, 1, 5]] []] (o := .br (decide (i < ((xs.length : Nat) : Int))) (.stop [.c q13_0, .c [1, 0, 0, 1, 0, 0, 1, 0, 1, 1], .b 1, .c [1, 1, 0, 0, 1, 0, 1, 1], .j J_2, .b 0, .c [1, 1, 1]] [(0, .slice a xs.length c), (1, .slice b ys.length d), (5, vI i)] [E89d8b a c xs, E89d8b b d ys]) (.ret (.bool true) [E89d8b a c xs, E89d8b b d ys])) (by kernel_rfl) ?_
    refine ok_br (fun h_3 => ?_) (fun h_3 => ?_)
    · replace h_3 := decT h_3
      refine ok_stop ?_
      refine go_quiet (tm' := [(0, .slice a xs.length c), (1, .slice b ys.length d), (5, vI i), (25, .bool ((xs.getD i.toNat 0) != (ys.getD i.toNat 0)))]) (ps := [a = a ∧ xs.length = xs.length, (0 : Int) ≤ i ∧ i < ((xs.length : Nat) : Int), slAt a i.toNat 1 = slAt a i.toNat 1, i.toNat < xs.length, b = b ∧ ys.length = ys.length, (0 : Int) ≤ i ∧ i < ((ys.length : Nat) : Int), slAt b i.toNat 1 = slAt b i.toNat 1, i.toNat < ys.length]) (cs := []) [(0, .h .w), (1, .h .w), (2, .h (.s 0)), (3, .h (.j 0 i.toNat)), (4, .h .w), (5, .h .w), (6, .h (.s 1)), (7, .h (.j 1 i.toNat)), (8, .h .w)] [0, 1, 5, 25] (by kernel_rfl) (by kernel_rfl) ⟨⟨rfl, (by first | rfl | omega | (simp; done) | (simp; omega))⟩, (by first | omega | (simp; done) | (simp; omega)), rfl, (by first | omega | (simp; done) | (simp; omega)), ⟨rfl, (by first | rfl | omega | (simp; done) | (simp; omega))⟩, (by first | omega | (simp; done) | (simp; omega)), rfl, (by first | omega | (simp; done) | (simp; omega)), trivial⟩ trivial ?_
      refine go_exec (rs := [.tmp 4]) (by kernel_rfl) 4000 [.sp [25] [] [.n, .z [] 0 [0, 1, 5]]] (o := .br ((xs.getD i.toNat 0) != (ys.getD i.toNat 0)) (.ret (.bool false) [E89d8b a c xs, E89d8b b d ys]) (.obl (InK .i64 (i + 1)) (.stop [.j J_2, .b 0, .c [1, 1, 1]] [(0, .slice a xs.length c), (1, .slice b ys.length d), (5, vI (i + 1))] [E89d8b a c xs, E89d8b b d ys]))) (by kernel_rfl) ?_
      refine ok_br (fun h_4 => ?_) (fun h_4 => ?_)
      · replace h_4 := bneT h_4
        exact ret_ok (post := [E89d8b a c xs, E89d8b b d ys]) [0, 1] (by kernel_rfl) ⟨(congrArg Value.bool (by first | exact (same_len (by assumption)).symm | exact (same_no (by assumption)).symm)), (by kernel_rfl)⟩
      · replace h_4 := bneF h_4
        refine ok_obl (by simp only [InK]; omega) ?_
        refine ok_stop ?_
        exact go_back hJ_2 (i + 1) [0, 1] (by kernel_rfl) (by kernel_rfl) (by kernel_rfl) ⟨(by omega), same_step hx.2 hx.1.1 (by assumption)⟩ (by omega)
    · replace h_3 := decF h_3
      exact ret_ok (post := [E89d8b a c xs, E89d8b b d ys]) [0, 1] (by kernel_rfl) ⟨(congrArg Value.bool (same_yes hx.2 (by omega) (by omega)).symm), (by kernel_rfl)⟩


theorem same_un (a b : Option Addr) (c d n : Nat) (xs ys : List Int) (hl : xs.length ≤ 1000000) (hn : ys.length = n) :
    Ctr Tryz.prog 34 #[.slice a xs.length c, .slice b n d] [E89d8b a c xs, E89d8b b d ys] (Ret (.bool (xs == ys)) [E89d8b a c xs, E89d8b b d ys]) := by
  subst hn; exact same_u64 a b c d xs ys hl

end Go.Proofs.YtiiepkjckmdmkaaGreatDoor


namespace Go.Proofs.YtiiepkjckmdmkaaGreatDoor
open Go.RowKit Go.Extern.Stop Go.Stop Go.Extern
theorem as_nil (t : Value) (w : World) :
    Calls Tryz.prog 38 #[.nilIface, t] w fun e w' => e = .returned (.bool false) ∧ w' = w := by
  go_enter Tryz.func38, Tryz.ntmps38
  go_wp2
  go_ret
  exact ⟨rfl, rfl⟩
theorem Tryz.valueOfP (t : Addr) (w : World) : (ReflectliteValue.unpack (.iface 100 (.pointer (some t)))).run Tryz.prog w
    = .ok (.agg #[.pointer (some ⟨1, 100, none⟩), .pointer (some ⟨w.heap.size, 0, none⟩), .int .u64 150]) (w.alloc (.cells #[.pointer (some t)] 100)) := by kernel_rfl
theorem Tryz.typeP (a : Addr) (w : World) : (ReflectliteValue.methodAny (ReflectliteValue.valueError "reflectlite.Value.Type" 0) (fun t _ _ _ => ReflectliteType.toType t) #[.agg #[.pointer (some ⟨1, 100, none⟩), .pointer (some a), .int .u64 150]]).run Tryz.prog w
    = .ok (.iface 183 (.agg #[.pointer (some ⟨1, 100, none⟩)])) w := by kernel_rfl
theorem Tryz.methodKind (h : Value) (w : World) : (Go.method 347 183 (.agg #[h]) "Kind").run Tryz.prog w = .ok (159, h) w := by kernel_rfl
theorem Tryz.kindP (w : World) : ((ReflectliteType.abiMethod fun t => Functor.map (fun a : Nat => Value.int IntKind.u8 (a : Int)) (Rtype.kind t)) #[.pointer (some ⟨1, 100, none⟩)]).run Tryz.prog w = .ok (.int .u8 22) w := by kernel_rfl
theorem Tryz.kindE (w : World) : ((ReflectliteType.abiMethod fun t => Functor.map (fun a : Nat => Value.int IntKind.u8 (a : Int)) (Rtype.kind t)) #[.pointer (some ⟨1, 46, none⟩)]).run Tryz.prog w = .ok (.int .u8 2) w := by kernel_rfl
theorem rlm (z : Sem Value) (f : TypeId → Addr → Nat → Nat → Sem Value) (v : Value) :
    ReflectliteValue.method z f #[v] = (do match ← ReflectliteValue.parts v with | none => z | some (t, a, fl) => f t a fl (fl % 32)) := rfl
theorem Tryz.partsP (a : Addr) (w : World) : (ReflectliteValue.parts (.agg #[.pointer (some ⟨1, 100, none⟩), .pointer (some a), .int .u64 150])).run Tryz.prog w = .ok (some (100, a, 150)) w := by kernel_rfl
theorem Tryz.isNilP (a p : Addr) (W : World) (ha : W.cell? a = some (.pointer (some p))) :
    (ReflectliteValue.method (ReflectliteValue.valueError "reflectlite.Value.IsNil" 0) ReflectliteValue.isNil #[.agg #[.pointer (some ⟨1, 100, none⟩), .pointer (some a), .int .u64 150]]).run Tryz.prog W = .ok (.bool false) W := by
  rw [rlm]
  simp only [Sem.run_bind, Tryz.partsP, Result.andThen]
  simp [ReflectliteValue.isNil, loadVar, isAgg, underlying, Tryz.underlying100, ha, Result.andThen]
theorem Tryz.methodElem (h : Value) (w : World) : (Go.method 347 183 (.agg #[h]) "Elem").run Tryz.prog w = .ok (170, .agg #[h]) w := by kernel_rfl
theorem Tryz.methodImplements (h : Value) (w : World) : (Go.method 347 183 (.agg #[h]) "Implements").run Tryz.prog w = .ok (171, .agg #[h]) w := by kernel_rfl
theorem Tryz.methodAssignableTo (h : Value) (w : World) : (Go.method 347 183 (.agg #[h]) "AssignableTo").run Tryz.prog w = .ok (168, .agg #[h]) w := by kernel_rfl
theorem Tryz.elemP (w : World) : (ReflectliteType.method ReflectliteType.elem #[.agg #[.pointer (some ⟨1, 100, none⟩)]]).run Tryz.prog w = .ok (.iface 183 (.agg #[.pointer (some ⟨1, 46, none⟩)])) w := by kernel_rfl
theorem Tryz.implementsE (w : World) : (ReflectliteType.relation "Implements" ReflectliteType.implements_ #[.agg #[.pointer (some ⟨1, 46, none⟩)], .iface 183 (.agg #[.pointer (some ⟨1, 38, none⟩)])]).run Tryz.prog w = .ok (.bool true) w := by kernel_rfl
theorem Tryz.typeOfE (v : Value) (w : World) : (ReflectliteType.typeOf #[.iface 46 v]).run Tryz.prog w = .ok (.iface 183 (.agg #[.pointer (some ⟨1, 46, none⟩)])) w := by kernel_rfl
theorem Tryz.assignableE (w : World) : (ReflectliteType.relation "AssignableTo" ReflectliteType.assignableTo #[.agg #[.pointer (some ⟨1, 46, none⟩)], .iface 183 (.agg #[.pointer (some ⟨1, 46, none⟩)])]).run Tryz.prog w = .ok (.bool true) w := by kernel_rfl
theorem Tryz.valueOfE (e : Int) (w : World) : (ReflectliteValue.unpack (.iface 46 (.int .i64 e))).run Tryz.prog w
    = .ok (.agg #[.pointer (some ⟨1, 46, none⟩), .pointer (some ⟨w.heap.size, 0, none⟩), .int .u64 130]) (w.alloc (.cells #[.int .i64 e] 46)) := by kernel_rfl
theorem Tryz.elemOfP (w : World) : (Rtype.elem? 100).run Tryz.prog w = .ok (some 46) w := by kernel_rfl
theorem Tryz.mkE (p : Addr) (w : World) : (ReflectliteValue.mk 46 p ReflectliteValue.flagAddr).run Tryz.prog w = .ok (.agg #[.pointer (some ⟨1, 46, none⟩), .pointer (some p), .int .u64 386]) w := by kernel_rfl
theorem Tryz.elemVP (a p : Addr) (W : World) (ha : W.cell? a = some (.pointer (some p))) :
    (ReflectliteValue.method (ReflectliteValue.valueError "reflectlite.Value.Elem" 0) ReflectliteValue.elem #[.agg #[.pointer (some ⟨1, 100, none⟩), .pointer (some a), .int .u64 150]]).run Tryz.prog W
      = .ok (.agg #[.pointer (some ⟨1, 46, none⟩), .pointer (some p), .int .u64 386]) W := by
  rw [rlm]
  simp only [Sem.run_bind, Tryz.partsP, Result.andThen]
  simp [ReflectliteValue.elem, loadVar, isAgg, underlying, Tryz.underlying100, ha, Result.andThen, Tryz.elemOfP, Tryz.mkE]
theorem rls : ∃ s1 s2 s3 : String, ∀ v x : Value, ReflectliteValue.set #[v, x] = (do
    let (some (dst, a, fl), some (src, b, _)) := (← ReflectliteValue.parts v, ← ReflectliteValue.parts x)
      | unsupported (.noEntry s1)
    if fl / ReflectliteValue.flagAddr % 2 == 0 then unsupported (.noEntry s2)
    let val ← loadVar src b
    if ← Rtype.directlyAssignable dst src then storeVar dst a val
    else if ← Rtype.implements dst src then
      if (← Rtype.kind src) == 20 then
        match val with
        | .nilIface => unsupported (.noEntry s3)
        | _ => storeVar dst a val
      else storeVar dst a (.iface src val)
    else panicString ("reflectlite.Set: value of type " ++ (← Rtype.spelt src) ++ " is not assignable to type " ++ (← Rtype.spelt dst))
    pure (.tuple #[])) := ⟨_, _, _, fun _ _ => rfl⟩
theorem Tryz.partsEa (a : Addr) (w : World) : (ReflectliteValue.parts (.agg #[.pointer (some ⟨1, 46, none⟩), .pointer (some a), .int .u64 386])).run Tryz.prog w = .ok (some (46, a, 386)) w := by kernel_rfl
theorem Tryz.partsE (a : Addr) (w : World) : (ReflectliteValue.parts (.agg #[.pointer (some ⟨1, 46, none⟩), .pointer (some a), .int .u64 130])).run Tryz.prog w = .ok (some (46, a, 130)) w := by kernel_rfl
theorem Tryz.directE (w : World) : (Rtype.directlyAssignable 46 46).run Tryz.prog w = .ok true w := by kernel_rfl
theorem Tryz.setE (ta b : Addr) (e : Int) (old : Value) (W : World) (hb : W.cell? b = some (.int .i64 e)) (ht : W.cell? ta = some old) (hf : W.frozen? ta = false) :
    (ReflectliteValue.set #[.agg #[.pointer (some ⟨1, 46, none⟩), .pointer (some ta), .int .u64 386], .agg #[.pointer (some ⟨1, 46, none⟩), .pointer (some b), .int .u64 130]]).run Tryz.prog W
      = .ok (.tuple #[]) (W.setCell ta (.int .i64 e)) := by
  obtain ⟨s1, s2, s3, hrls⟩ := rls
  rw [hrls]
  simp only [Sem.run_bind, Tryz.partsEa, Tryz.partsE, Result.andThen]
  simp [ReflectliteValue.flagAddr, loadVar, isAgg, underlying, Tryz.underlying46, hb, Result.andThen, Tryz.directE, storeVar, Value.cells, storeCells, Addr.add]
  rw [run_store Tryz.prog W ta _ _ (by rfl)]
  simp [ht, hf]
set_option maxHeartbeats 4000000 in
theorem as_hit (e : Int) (t : Addr) (old : Value) (w : World) (hg : w.cell? ⟨0, 0, none⟩ = some (.iface 183 (.agg #[.pointer (some ⟨1, 38, none⟩)]))) (ht0 : w.cell? t = some old) (hf0 : w.frozen? t = false) :
    Calls Tryz.prog 38 #[.iface 46 (.int .i64 e), .iface 100 (.pointer (some t))] w fun ev w' => ev = .returned (.bool true) ∧ w' = ((((w.alloc (.cells #[.pointer (some t)] 100)).alloc (.cells #[.pointer (some ⟨1, 100, none⟩), .pointer (some ⟨w.heap.size, 0, none⟩), .int .u64 150] 143)).alloc (.cells #[.pointer (some ⟨1, 100, none⟩), .pointer (some ⟨w.heap.size, 0, none⟩), .int .u64 150] 143)).alloc (.cells #[.int .i64 e] 46)).setCell t (.int .i64 e) := by
  have h6 := @run_callFunc_extern Tryz.prog 80 _ (fun args => ReflectliteValue.unpack (args.getD 0 (.tuple #[]))) Tryz.func80 (by kernel_rfl) (by kernel_rfl) (by kernel_rfl) (by kernel_rfl)
  have h7 := @run_callFunc_extern Tryz.prog 81 _ (ReflectliteValue.methodAny (ReflectliteValue.valueError "reflectlite.Value.Type" 0) (fun t _ _ _ => ReflectliteType.toType t)) Tryz.func81 (by kernel_rfl) (by kernel_rfl) (by kernel_rfl) (by kernel_rfl)
  have h8 := @run_callFunc_extern Tryz.prog 82 _ (ReflectliteValue.method (ReflectliteValue.valueError "reflectlite.Value.IsNil" 0) ReflectliteValue.isNil) Tryz.func82 (by kernel_rfl) (by kernel_rfl) (by kernel_rfl) (by kernel_rfl)
  have h27 := @run_callFunc_extern Tryz.prog 159 _ (ReflectliteType.abiMethod fun t => do pure (.int .u8 (← Rtype.kind t))) Tryz.func159 (by kernel_rfl) (by kernel_rfl) (by kernel_rfl) (by kernel_rfl)
  have h37 := @run_callFunc_extern Tryz.prog 170 _ (ReflectliteType.method ReflectliteType.elem) Tryz.func170 (by kernel_rfl) (by kernel_rfl) (by kernel_rfl) (by kernel_rfl)
  have h38 := @run_callFunc_extern Tryz.prog 171 _ (ReflectliteType.relation "Implements" ReflectliteType.implements_) Tryz.func171 (by kernel_rfl) (by kernel_rfl) (by kernel_rfl) (by kernel_rfl)
  have h10 := @run_callFunc_extern Tryz.prog 111 _ (ReflectliteType.typeOf) Tryz.func111 (by kernel_rfl) (by kernel_rfl) (by kernel_rfl) (by kernel_rfl)
  have h35 := @run_callFunc_extern Tryz.prog 168 _ (ReflectliteType.relation "AssignableTo" ReflectliteType.assignableTo) Tryz.func168 (by kernel_rfl) (by kernel_rfl) (by kernel_rfl) (by kernel_rfl)
  have h11 := @run_callFunc_extern Tryz.prog 112 _ (ReflectliteValue.method (ReflectliteValue.valueError "reflectlite.Value.Elem" 0) ReflectliteValue.elem) Tryz.func112 (by kernel_rfl) (by kernel_rfl) (by kernel_rfl) (by kernel_rfl)
  have h12 := @run_callFunc_extern Tryz.prog 113 _ (ReflectliteValue.set) Tryz.func113 (by kernel_rfl) (by kernel_rfl) (by kernel_rfl) (by kernel_rfl)
  have xtypeOfE := Tryz.typeOfE
  have xmethodAssignableTo := Tryz.methodAssignableTo
  have xassignableE := Tryz.assignableE
  have xvalueOfE := Tryz.valueOfE
  have xvalueOfP := Tryz.valueOfP
  have xtypeP := Tryz.typeP
  have xmethodKind := Tryz.methodKind
  have xmethodElem := Tryz.methodElem
  have xmethodImplements := Tryz.methodImplements
  have xkindP := Tryz.kindP
  have xkindE := Tryz.kindE
  have xelemP := Tryz.elemP
  have ximplementsE := Tryz.implementsE
  have n8 := Tryz.isNilP ⟨w.heap.size, 0, none⟩ t ((w.alloc (.cells #[.pointer (some t)] 100)).alloc (.cells #[.pointer (some ⟨1, 100, none⟩), .pointer (some ⟨w.heap.size, 0, none⟩), .int .u64 150] 143)) (by simp)
  have hlt : 0 < w.heap.size := by
    rcases Nat.eq_zero_or_pos w.heap.size with h0 | h
    · simp [World.cell?, h0] at hg
    · exact h
  have hg2 : ((w.alloc (.cells #[.pointer (some t)] 100)).alloc (.cells #[.pointer (some ⟨1, 100, none⟩), .pointer (some ⟨w.heap.size, 0, none⟩), .int .u64 150] 143)).cell? ⟨0, 0, none⟩ = some (.iface 183 (.agg #[.pointer (some ⟨1, 38, none⟩)])) := by
    rw [World.cell?_alloc_lt _ _ ⟨0, 0, none⟩ (by simp), World.cell?_alloc_lt _ _ ⟨0, 0, none⟩ hlt]; exact hg
  have htl : t.block < w.heap.size := by
    rcases Nat.lt_or_ge t.block w.heap.size with h | h
    · exact h
    · simp [World.cell?, Array.getElem?_eq_none h] at ht0
  have el := Tryz.elemVP ⟨w.heap.size, 0, none⟩ t (((w.alloc (.cells #[.pointer (some t)] 100)).alloc (.cells #[.pointer (some ⟨1, 100, none⟩), .pointer (some ⟨w.heap.size, 0, none⟩), .int .u64 150] 143)).alloc (.cells #[.pointer (some ⟨1, 100, none⟩), .pointer (some ⟨w.heap.size, 0, none⟩), .int .u64 150] 143)) (by rw [World.cell?_alloc_lt _ _ ⟨w.heap.size, 0, none⟩ (by simp; omega)]; simp)
  have st := Tryz.setE t ⟨w.heap.size + 1 + 1 + 1, 0, none⟩ e old ((((w.alloc (.cells #[.pointer (some t)] 100)).alloc (.cells #[.pointer (some ⟨1, 100, none⟩), .pointer (some ⟨w.heap.size, 0, none⟩), .int .u64 150] 143)).alloc (.cells #[.pointer (some ⟨1, 100, none⟩), .pointer (some ⟨w.heap.size, 0, none⟩), .int .u64 150] 143)).alloc (.cells #[.int .i64 e] 46))
    (by rw [World.cell?_alloc_at _ _ _ _ (by simp)]; rfl)
    (by rw [World.cell?_alloc_lt _ _ t (by simp; omega), World.cell?_alloc_lt _ _ t (by simp; omega), World.cell?_alloc_lt _ _ t (by simp; omega), World.cell?_alloc_lt _ _ t htl]; exact ht0)
    (by rw [World.frozen?_alloc_old _ _ t (by simp; omega), World.frozen?_alloc_old _ _ t (by simp; omega), World.frozen?_alloc_old _ _ t (by simp; omega), World.frozen?_alloc_old _ _ t (Nat.ne_of_lt htl)]; exact hf0)
  go_enter Tryz.func38, Tryz.ntmps38
  go_wp2
  refine wp_loop_rounds 1 ?_
  rw [rounds_succ]
  go_wp2
  go_ret
  exact ⟨rfl, rfl⟩
end Go.Proofs.YtiiepkjckmdmkaaGreatDoor
namespace Go.Proofs.YtiiepkjckmdmkaaGreatDoor
open Go.Sx
/-- the cell of the variable errors.errorType -/
def handleV : Value := .iface 183 (.agg #[.pointer (some ⟨1, 38, none⟩)])
theorem as_nilC (t : Value) : Ctr Tryz.prog 38 #[.nilIface, t] [] (Ret (.bool false) []) := by
  intro F w hi
  refine (as_nil t w).mono ?_
  rintro e w' ⟨rfl, rfl⟩
  exact ⟨_, _, rfl, ⟨rfl, rfl⟩, hi⟩
theorem as_hitC (gt : Nat) (gf : Nat × Nat) (b : Nat) (old k : Int) : Ctr Tryz.prog 38 #[.iface 46 (.int .i64 k), .iface 100 (.pointer (some ⟨b, 0, none⟩))] [.raw 0 (.cells #[handleV] gt gf), .pts b [.int .i64 old] 46]
    (Ret (.bool true) [.raw 0 (.cells #[handleV] gt gf), .pts b [.int .i64 k] 46]) := by
  intro F w hi
  have h0 := (hi.one (i := 0) rfl (b := 0) (o := .cells #[handleV] gt gf) (fun g hg => hg)).1
  have hb := (hi.one (i := 1) rfl (b := b) (o := .cells #[.int .i64 old] 46 (0, 0)) (fun g hg => hg)).1
  refine (as_hit k ⟨b, 0, none⟩ (.int .i64 old) w (by simp [World.cell?, h0, handleV]) (by simp [World.cell?, hb]) (by simp [World.frozen?, hb])).mono ?_
  rintro e w' ⟨rfl, rfl⟩
  refine ⟨_, _, rfl, ⟨rfl, rfl⟩, ?_⟩
  have h4 : In _ F (((((w.alloc (.cells #[.pointer (some ⟨b, 0, none⟩)] 100)).alloc (.cells #[.pointer (some ⟨1, 100, none⟩), .pointer (some ⟨w.heap.size, 0, none⟩), .int .u64 150] 143)).alloc (.cells #[.pointer (some ⟨1, 100, none⟩), .pointer (some ⟨w.heap.size, 0, none⟩), .int .u64 150] 143)).alloc (.cells #[.int .i64 k] 46))) := (((hi.alloc (.cells #[.pointer (some ⟨b, 0, none⟩)] 100)).alloc (.cells #[.pointer (some ⟨1, 100, none⟩), .pointer (some ⟨w.heap.size, 0, none⟩), .int .u64 150] 143)).alloc (.cells #[.pointer (some ⟨1, 100, none⟩), .pointer (some ⟨w.heap.size, 0, none⟩), .int .u64 150] 143)).alloc (.cells #[.int .i64 k] 46)
  obtain ⟨h5, h6⟩ := h4.one (i := 1) rfl (b := b) (o := .cells #[.int .i64 old] 46 (0, 0)) (fun g hg => hg)
  have h7 := h6 (.cells #[.int .i64 k] 46 (0, 0)) (.pts b [.int .i64 k] 46) (((((w.alloc (.cells #[.pointer (some ⟨b, 0, none⟩)] 100)).alloc (.cells #[.pointer (some ⟨1, 100, none⟩), .pointer (some ⟨w.heap.size, 0, none⟩), .int .u64 150] 143)).alloc (.cells #[.pointer (some ⟨1, 100, none⟩), .pointer (some ⟨w.heap.size, 0, none⟩), .int .u64 150] 143)).alloc (.cells #[.int .i64 k] 46)).setCell ⟨b, 0, none⟩ (.int .i64 k)) rfl
    (by simp only [World.setCell]; rw [Array.getElem?_modify, if_pos rfl]; exact congrArg _ h5)
    (fun j hj => by simp only [World.setCell]; rw [Array.getElem?_modify, if_neg (fun h => hj h.symm)]) rfl rfl rfl
  exact In.left (L := [.raw 0 (.cells #[handleV] gt gf), .pts b [.int .i64 k] 46]) (M := [_, _, _, _]) h7
end Go.Proofs.YtiiepkjckmdmkaaGreatDoor


namespace Go.Proofs.YtiiepkjckmdmkaaGreatDoor
open Go.Sx
abbrev E4ea3a (x0 : Nat) (x1 : Int) (x2 : Int) (x3 : Int) (x4 : Bool) (x5 : Bool) : Ent := .pts x0 [.int .i64 x1, .int .i64 x2, .int .i64 x3, .bool x4, .bool x5] 123
abbrev E0bdde (x0 : Nat) (x1 : Int) (x2 : Int) (x3 : Int) (x4 : Int) (x5 : Int) : Ent := .pts x0 [.int .i64 x1, .int .i64 x2, .int .i64 x3, .int .i64 x4, .int .i64 x5] 216
abbrev q30_0 : List Nat := [0, 1, 0, 0, 1, 1, 0, 0, 1, 0, 1, 1, 1, 1]
abbrev q30_1 : List Nat := [1, 1, 0, 0, 1, 1, 0, 0, 1, 0, 1, 1, 1, 1]
abbrev q30_2 : List Nat := [1, 1, 1, 0, 0, 1, 0, 1, 1, 1, 1]
abbrev q30_3 : List Nat := [0, 1, 0, 1, 1, 1, 1]

def errV (k : Int) : Value := if k = 0 then .nilIface else .iface 46 (.int .i64 k)
theorem errV_ne {k : Int} (h : k ≠ 0) : errV k = .iface 46 (.int .i64 k) := if_neg h
def IsH (o : Obj) : Prop := ∃ t f, o = .cells #[handleV] t f
noncomputable def B143 : Code := (Tryz.f143.body).getD .skip

theorem ctl_parts0   :
    Ctr Tryz.prog 143 #[.agg #[vI 0, vI 0, vI 0, .bool false, .bool false]] [] (Ret (.tuple #[.agg #[vI 0, vI 0, vI 0, vI 0, vI 0], .agg #[vI 16, vI 31, vI 1, vI 1, vI 15]]) []) := by
  refine ctr_of (args := [.agg #[vI 0, vI 0, vI 0, .bool false, .bool false]]) (fn := Tryz.f143) (body := B143) (nt := 19) Tryz.func143 (by kernel_rfl) (by kernel_rfl) ?_
  intro F
  refine go_exec (rs := [.cell 2 216, .cell 3 216]) (by kernel_rfl) 4000 [.e 0, .e 0, .e 0, .e 1, .e 0, .e 0, .e 1, .e 1, .e 2, .e 1, .e 2] (o := .new fun b_1 => .new fun b_2 => .new fun b_3 => .obl (b_1 = b_1) (.obl (b_1 = b_1) (.obl (b_1 = b_1) (.obl (b_2 = b_2) (.obl (b_1 = b_1) (.obl (b_1 = b_1) (.obl (b_2 = b_2) (.obl (b_2 = b_2) (.obl (b_3 = b_3) (.obl (b_2 = b_2) (.obl (b_3 = b_3) (.ret (.tuple #[.agg #[vI 0, vI 0, vI 0, vI 0, vI 0], .agg #[vI 16, vI 31, vI 1, vI 1, vI 15]]) [E4ea3a b_1 0 0 0 false false, E0bdde b_2 0 0 0 0 0, E0bdde b_3 16 31 1 1 15])))))))))))) (by kernel_rfl) ?_
  refine ok_new fun b_1 => ?_
  refine ok_new fun b_2 => ?_
  refine ok_new fun b_3 => ?_
  refine ok_obl rfl ?_
  refine ok_obl rfl ?_
  refine ok_obl rfl ?_
  refine ok_obl rfl ?_
  refine ok_obl rfl ?_
  refine ok_obl rfl ?_
  refine ok_obl rfl ?_
  refine ok_obl rfl ?_
  refine ok_obl rfl ?_
  refine ok_obl rfl ?_
  refine ok_obl rfl ?_
  exact ret_ok (post := []) [] (by kernel_rfl) ⟨rfl, (by kernel_rfl)⟩

noncomputable def B140 : Code := (Tryz.f140.body).getD .skip

theorem ctl_Unpack (w_ : Int) (hw : U64 w_) :
    Ctr Tryz.prog 140 #[vU w_] [] (Ret (.agg #[vI (ctlEpoch w_), vI (ctlGen w_), vI (ctlBlock w_), .bool (ctlLive w_), .bool (ctlBusy w_)]) []) := by
  refine ctr_of (args := [vU w_]) (fn := Tryz.f140) (body := B140) (nt := 44) Tryz.func140 (by kernel_rfl) (by kernel_rfl) ?_
  intro F
  refine go_exec (rs := [.cell 2 123]) (by kernel_rfl) 4000 [.z [0, 1] 1 [0, 2, 9]] (o := .new fun b_1 => .stop [.o [0, 1] 1, .c [1, 1]] [(0, vU w_), (2, vP b_1), (9, .agg #[vI 0, vI 0, vI 0, .bool false, .bool false])] [E4ea3a b_1 0 0 0 false false]) (by kernel_rfl) ?_
  refine ok_new fun b_1 => ?_
  refine ok_stop ?_
  refine go_call (some 10) [] Tryz.call143 (ctl_parts0) (by kernel_rfl) ?_
  rintro v post ⟨rfl, rfl⟩
  refine go_exec (rs := [.cell 2 123]) (by kernel_rfl) 4000 [.e 1, .e 2, .u, .w, .e 2, .z q30_0 6 [0, 2, 4, 5, 6, 7, 13, 16, 17, 18, 21]] (o := .new fun b_2 => .new fun b_3 => .obl (b_2 = b_2) (.obl (b_3 = b_3) (.new fun b_4 => .obl (b_3 = b_3) (.stop [.o q30_0 6, .c q30_1, .b 1, .c q30_2, .r q30_3, .b 0, .c [1, 1, 1, 1, 1]] [(0, vU w_), (2, vP b_1), (4, vP b_3), (5, vP b_4), (6, vI 0), (7, vI 0), (13, vI 0), (16, vI 0), (17, vU w_), (18, vI 0), (21, vI 16)] [E4ea3a b_1 0 0 0 false false, E0bdde b_2 0 0 0 0 0, E0bdde b_3 16 31 1 1 15, E0bdde b_4 0 0 0 0 0])))) (by kernel_rfl) ?_
  refine ok_new fun b_2 => ?_
  refine ok_new fun b_3 => ?_
  refine ok_obl rfl ?_
  refine ok_obl rfl ?_
  refine ok_new fun b_4 => ?_
  refine ok_obl rfl ?_
  refine ok_stop ?_
  refine go_call (some 22) [] Tryz.call89 (bits_Get w_ 0 16 (by omega)) (by kernel_rfl) ?_
  rintro v post ⟨rfl, rfl⟩
  refine go_exec (rs := [.cell 2 123]) (by kernel_rfl) 4000 [.n, .w, .e 3, .w, .e 2, .w, .w, .u, .w, .e 2, .z q30_0 6 [0, 2, 4, 5, 6, 7, 13, 16, 17, 18, 21]] (o := .obl (InK .i64 (bAnd .u64 (bShr .u64 w_ 0) (bShr .u64 18446744073709551615 (64 - 16)))) (.obl (b_4 = b_4) (.obl (b_3 = b_3) (.obl (b_3 = b_3) (.stop [.o q30_0 6, .c q30_1, .b 1, .c q30_2, .r q30_3, .b 0, .c [1, 1, 1, 1, 1]] [(0, vU w_), (2, vP b_1), (4, vP b_3), (5, vP b_4), (6, vI 16), (7, vI 1), (13, vI 1), (16, vI 1), (17, vU w_), (18, vI 16), (21, vI 31)] [E4ea3a b_1 0 0 0 false false, E0bdde b_2 0 0 0 0 0, E0bdde b_3 16 31 1 1 15, E0bdde b_4 (bAnd .u64 (bShr .u64 w_ 0) (bShr .u64 18446744073709551615 (64 - 16))) 0 0 0 0]))))) (by kernel_rfl) ?_
  refine ok_obl (by have hr := ctl_rng hw; first | (rw [un_block hw]; simp only [InK]; omega) | (rw [un_gen hw]; simp only [InK]; omega) | (rw [un_busy hw]; simp only [InK]; omega) | (rw [un_live hw]; simp only [InK]; omega) | (rw [un_epoch hw]; simp only [InK]; omega) | (simp only [InK]; omega)) ?_
  refine ok_obl rfl ?_
  refine ok_obl rfl ?_
  refine ok_obl rfl ?_
  refine ok_stop ?_
  refine go_call (some 22) [] Tryz.call89 (bits_Get w_ 16 31 (by omega)) (by kernel_rfl) ?_
  rintro v post ⟨rfl, rfl⟩
  refine go_exec (rs := [.cell 2 123]) (by kernel_rfl) 4000 [.n, .w, .e 3, .w, .e 2, .w, .w, .u, .w, .e 2, .z q30_0 6 [0, 2, 4, 5, 6, 7, 13, 16, 17, 18, 21]] (o := .obl (InK .i64 (bAnd .u64 (bShr .u64 w_ 16) (bShr .u64 18446744073709551615 (64 - 31)))) (.obl (b_4 = b_4) (.obl (b_3 = b_3) (.obl (b_3 = b_3) (.stop [.o q30_0 6, .c q30_1, .b 1, .c q30_2, .r q30_3, .b 0, .c [1, 1, 1, 1, 1]] [(0, vU w_), (2, vP b_1), (4, vP b_3), (5, vP b_4), (6, vI 47), (7, vI 2), (13, vI 2), (16, vI 2), (17, vU w_), (18, vI 47), (21, vI 1)] [E4ea3a b_1 0 0 0 false false, E0bdde b_2 0 0 0 0 0, E0bdde b_3 16 31 1 1 15, E0bdde b_4 (bAnd .u64 (bShr .u64 w_ 0) (bShr .u64 18446744073709551615 (64 - 16))) (bAnd .u64 (bShr .u64 w_ 16) (bShr .u64 18446744073709551615 (64 - 31))) 0 0 0]))))) (by kernel_rfl) ?_
  refine ok_obl (by have hr := ctl_rng hw; first | (rw [un_block hw]; simp only [InK]; omega) | (rw [un_gen hw]; simp only [InK]; omega) | (rw [un_busy hw]; simp only [InK]; omega) | (rw [un_live hw]; simp only [InK]; omega) | (rw [un_epoch hw]; simp only [InK]; omega) | (simp only [InK]; omega)) ?_
  refine ok_obl rfl ?_
  refine ok_obl rfl ?_
  refine ok_obl rfl ?_
  refine ok_stop ?_
  refine go_call (some 22) [] Tryz.call89 (bits_Get w_ 47 1 (by omega)) (by kernel_rfl) ?_
  rintro v post ⟨rfl, rfl⟩
  refine go_exec (rs := [.cell 2 123]) (by kernel_rfl) 4000 [.n, .w, .e 3, .w, .e 2, .w, .w, .u, .w, .e 2, .z q30_0 6 [0, 2, 4, 5, 6, 7, 13, 16, 17, 18, 21]] (o := .obl (InK .i64 (bAnd .u64 (bShr .u64 w_ 47) (bShr .u64 18446744073709551615 (64 - 1)))) (.obl (b_4 = b_4) (.obl (b_3 = b_3) (.obl (b_3 = b_3) (.stop [.o q30_0 6, .c q30_1, .b 1, .c q30_2, .r q30_3, .b 0, .c [1, 1, 1, 1, 1]] [(0, vU w_), (2, vP b_1), (4, vP b_3), (5, vP b_4), (6, vI 48), (7, vI 3), (13, vI 3), (16, vI 3), (17, vU w_), (18, vI 48), (21, vI 1)] [E4ea3a b_1 0 0 0 false false, E0bdde b_2 0 0 0 0 0, E0bdde b_3 16 31 1 1 15, E0bdde b_4 (bAnd .u64 (bShr .u64 w_ 0) (bShr .u64 18446744073709551615 (64 - 16))) (bAnd .u64 (bShr .u64 w_ 16) (bShr .u64 18446744073709551615 (64 - 31))) (bAnd .u64 (bShr .u64 w_ 47) (bShr .u64 18446744073709551615 (64 - 1))) 0 0]))))) (by kernel_rfl) ?_
  refine ok_obl (by have hr := ctl_rng hw; first | (rw [un_block hw]; simp only [InK]; omega) | (rw [un_gen hw]; simp only [InK]; omega) | (rw [un_busy hw]; simp only [InK]; omega) | (rw [un_live hw]; simp only [InK]; omega) | (rw [un_epoch hw]; simp only [InK]; omega) | (simp only [InK]; omega)) ?_
  refine ok_obl rfl ?_
  refine ok_obl rfl ?_
  refine ok_obl rfl ?_
  refine ok_stop ?_
  refine go_call (some 22) [] Tryz.call89 (bits_Get w_ 48 1 (by omega)) (by kernel_rfl) ?_
  rintro v post ⟨rfl, rfl⟩
  refine go_exec (rs := [.cell 2 123]) (by kernel_rfl) 4000 [.n, .w, .e 3, .w, .e 2, .w, .w, .u, .w, .e 2, .z q30_0 6 [0, 2, 4, 5, 6, 7, 13, 16, 17, 18, 21]] (o := .obl (InK .i64 (bAnd .u64 (bShr .u64 w_ 48) (bShr .u64 18446744073709551615 (64 - 1)))) (.obl (b_4 = b_4) (.obl (b_3 = b_3) (.obl (b_3 = b_3) (.stop [.o q30_0 6, .c q30_1, .b 1, .c q30_2, .r q30_3, .b 0, .c [1, 1, 1, 1, 1]] [(0, vU w_), (2, vP b_1), (4, vP b_3), (5, vP b_4), (6, vI 49), (7, vI 4), (13, vI 4), (16, vI 4), (17, vU w_), (18, vI 49), (21, vI 15)] [E4ea3a b_1 0 0 0 false false, E0bdde b_2 0 0 0 0 0, E0bdde b_3 16 31 1 1 15, E0bdde b_4 (bAnd .u64 (bShr .u64 w_ 0) (bShr .u64 18446744073709551615 (64 - 16))) (bAnd .u64 (bShr .u64 w_ 16) (bShr .u64 18446744073709551615 (64 - 31))) (bAnd .u64 (bShr .u64 w_ 47) (bShr .u64 18446744073709551615 (64 - 1))) (bAnd .u64 (bShr .u64 w_ 48) (bShr .u64 18446744073709551615 (64 - 1))) 0]))))) (by kernel_rfl) ?_
  refine ok_obl (by have hr := ctl_rng hw; first | (rw [un_block hw]; simp only [InK]; omega) | (rw [un_gen hw]; simp only [InK]; omega) | (rw [un_busy hw]; simp only [InK]; omega) | (rw [un_live hw]; simp only [InK]; omega) | (rw [un_epoch hw]; simp only [InK]; omega) | (simp only [InK]; omega)) ?_
  refine ok_obl rfl ?_
  refine ok_obl rfl ?_
  refine ok_obl rfl ?_
  refine ok_stop ?_
  refine go_call (some 22) [] Tryz.call89 (bits_Get w_ 49 15 (by omega)) (by kernel_rfl) ?_
  rintro v post ⟨rfl, rfl⟩
  refine go_exec (rs := [.cell 2 123]) (by kernel_rfl) 4000 [.n, .w, .e 3, .w, .e 2, .w, .w, .u, .w, .e 3, .w, .e 3, .w, .e 3, .w, .e 3, .w, .e 3, .e 0, .e 0] (o := .obl (InK .i64 (bAnd .u64 (bShr .u64 w_ 49) (bShr .u64 18446744073709551615 (64 - 15)))) (.obl (b_4 = b_4) (.obl (b_3 = b_3) (.obl (b_4 = b_4) (.obl (b_4 = b_4) (.obl (b_4 = b_4) (.obl (b_4 = b_4) (.obl (b_4 = b_4) (.obl (b_1 = b_1) (.obl (b_1 = b_1) (.ret (.agg #[vI (bAnd .u64 (bShr .u64 w_ 49) (bShr .u64 18446744073709551615 (64 - 15))), vI (bAnd .u64 (bShr .u64 w_ 16) (bShr .u64 18446744073709551615 (64 - 31))), vI (bAnd .u64 (bShr .u64 w_ 0) (bShr .u64 18446744073709551615 (64 - 16))), .bool ((bAnd .u64 (bShr .u64 w_ 48) (bShr .u64 18446744073709551615 (64 - 1))) == 1), .bool ((bAnd .u64 (bShr .u64 w_ 47) (bShr .u64 18446744073709551615 (64 - 1))) == 1)]) [E4ea3a b_1 (bAnd .u64 (bShr .u64 w_ 49) (bShr .u64 18446744073709551615 (64 - 15))) (bAnd .u64 (bShr .u64 w_ 16) (bShr .u64 18446744073709551615 (64 - 31))) (bAnd .u64 (bShr .u64 w_ 0) (bShr .u64 18446744073709551615 (64 - 16))) ((bAnd .u64 (bShr .u64 w_ 48) (bShr .u64 18446744073709551615 (64 - 1))) == 1) ((bAnd .u64 (bShr .u64 w_ 47) (bShr .u64 18446744073709551615 (64 - 1))) == 1), E0bdde b_2 0 0 0 0 0, E0bdde b_3 16 31 1 1 15, E0bdde b_4 (bAnd .u64 (bShr .u64 w_ 0) (bShr .u64 18446744073709551615 (64 - 16))) (bAnd .u64 (bShr .u64 w_ 16) (bShr .u64 18446744073709551615 (64 - 31))) (bAnd .u64 (bShr .u64 w_ 47) (bShr .u64 18446744073709551615 (64 - 1))) (bAnd .u64 (bShr .u64 w_ 48) (bShr .u64 18446744073709551615 (64 - 1))) (bAnd .u64 (bShr .u64 w_ 49) (bShr .u64 18446744073709551615 (64 - 15)))]))))))))))) (by kernel_rfl) ?_
  refine ok_obl (by have hr := ctl_rng hw; first | (rw [un_block hw]; simp only [InK]; omega) | (rw [un_gen hw]; simp only [InK]; omega) | (rw [un_busy hw]; simp only [InK]; omega) | (rw [un_live hw]; simp only [InK]; omega) | (rw [un_epoch hw]; simp only [InK]; omega) | (simp only [InK]; omega)) ?_
  refine ok_obl rfl ?_
  refine ok_obl rfl ?_
  refine ok_obl rfl ?_
  refine ok_obl rfl ?_
  refine ok_obl rfl ?_
  refine ok_obl rfl ?_
  refine ok_obl rfl ?_
  refine ok_obl rfl ?_
  refine ok_obl rfl ?_
  exact ret_ok (post := []) [] (by kernel_rfl) ⟨(by rw [un_block hw, un_gen hw, un_busy hw, un_live hw, un_epoch hw]; rfl), (by kernel_rfl)⟩

noncomputable def B132 : Code := (Tryz.f132.body).getD .skip

theorem r13_Unpack (w_ : Int) (hw : U64 w_) :
    Ctr Tryz.prog 132 #[vU w_] [] (Ret (.agg #[vI (ctlEpoch w_), vI (ctlGen w_), vI (ctlBlock w_), .bool (ctlLive w_), .bool (ctlBusy w_)]) []) := by
  refine ctr_of (args := [vU w_]) (fn := Tryz.f132) (body := B132) (nt := 22) Tryz.func132 (by kernel_rfl) (by kernel_rfl) ?_
  intro F
  refine go_exec (rs := [.cell 2 123]) (by kernel_rfl) 4000 [.n, .n, .n, .n, .n, .n, .n, .e 0, .e 0] (o := .new fun b_1 => .obl (InK .i64 (bAnd .u64 w_ 65535)) (.obl ((0 : Int) ≤ 16) (.obl (InK .i64 (bAnd .u64 (bShr .u64 w_ 16) 2147483647)) (.obl ((0 : Int) ≤ 47) (.obl ((0 : Int) ≤ 48) (.obl ((0 : Int) ≤ 49) (.obl (InK .i64 (bShr .u64 w_ 49)) (.obl (b_1 = b_1) (.obl (b_1 = b_1) (.ret (.agg #[vI (bShr .u64 w_ 49), vI (bAnd .u64 (bShr .u64 w_ 16) 2147483647), vI (bAnd .u64 w_ 65535), .bool ((bAnd .u64 (bShr .u64 w_ 48) 1) == 1), .bool ((bAnd .u64 (bShr .u64 w_ 47) 1) == 1)]) [E4ea3a b_1 (bShr .u64 w_ 49) (bAnd .u64 (bShr .u64 w_ 16) 2147483647) (bAnd .u64 w_ 65535) ((bAnd .u64 (bShr .u64 w_ 48) 1) == 1) ((bAnd .u64 (bShr .u64 w_ 47) 1) == 1)])))))))))) (by kernel_rfl) ?_
  refine ok_new fun b_1 => ?_
  refine ok_obl (by have hr := ctl_rng hw; first | (rw [ru_block hw]; simp only [InK]; omega) | (rw [ru_gen hw]; simp only [InK]; omega) | (rw [ru_epoch hw]; simp only [InK]; omega) | (simp only [InK]; omega)) ?_
  refine ok_obl (by first | omega | (simp; done) | (simp; omega)) ?_
  refine ok_obl (by have hr := ctl_rng hw; first | (rw [ru_block hw]; simp only [InK]; omega) | (rw [ru_gen hw]; simp only [InK]; omega) | (rw [ru_epoch hw]; simp only [InK]; omega) | (simp only [InK]; omega)) ?_
  refine ok_obl (by first | omega | (simp; done) | (simp; omega)) ?_
  refine ok_obl (by first | omega | (simp; done) | (simp; omega)) ?_
  refine ok_obl (by first | omega | (simp; done) | (simp; omega)) ?_
  refine ok_obl (by have hr := ctl_rng hw; first | (rw [ru_block hw]; simp only [InK]; omega) | (rw [ru_gen hw]; simp only [InK]; omega) | (rw [ru_epoch hw]; simp only [InK]; omega) | (simp only [InK]; omega)) ?_
  refine ok_obl rfl ?_
  refine ok_obl rfl ?_
  exact ret_ok (post := []) [] (by kernel_rfl) ⟨(by rw [ru_block hw, ru_gen hw, ru_busy hw, ru_live hw, ru_epoch hw]; rfl), (by kernel_rfl)⟩

noncomputable def B102 : Code := (Tryz.f102.body).getD .skip

theorem r13_flagT   :
    Ctr Tryz.prog 102 #[.bool true] [] (Ret (vU 1) []) := by
  refine ctr_of (args := [.bool true]) (fn := Tryz.f102) (body := B102) (nt := 4) Tryz.func102 (by kernel_rfl) (by kernel_rfl) ?_
  intro F
  refine go_exec (rs := [.tmp 2]) (by kernel_rfl) 4000 [] (o := .ret (vU 1) []) (by kernel_rfl) ?_
  exact ret_ok (post := []) [] (by kernel_rfl) ⟨rfl, (by kernel_rfl)⟩


theorem r13_flagF   :
    Ctr Tryz.prog 102 #[.bool false] [] (Ret (vU 0) []) := by
  refine ctr_of (args := [.bool false]) (fn := Tryz.f102) (body := B102) (nt := 4) Tryz.func102 (by kernel_rfl) (by kernel_rfl) ?_
  intro F
  refine go_exec (rs := [.tmp 2]) (by kernel_rfl) 4000 [] (o := .ret (vU 0) []) (by kernel_rfl) ?_
  exact ret_ok (post := []) [] (by kernel_rfl) ⟨rfl, (by kernel_rfl)⟩


theorem r13_flag (b_ : Bool)  :
    Ctr Tryz.prog 102 #[.bool b_] [] (Ret (vU (flagI b_)) []) := by
  cases b_
  · exact r13_flagF
  · exact r13_flagT

noncomputable def B61 : Code := (Tryz.f61.body).getD .skip

theorem r13_Pack (e_ g_ k_ : Int) (l_ b_ : Bool) (he : 0 ≤ e_ ∧ e_ ≤ 32767) (hg : 0 ≤ g_ ∧ g_ ≤ 2147483647) (hk : 0 ≤ k_ ∧ k_ ≤ 65535) :
    Ctr Tryz.prog 61 #[.agg #[vI e_, vI g_, vI k_, .bool l_, .bool b_]] [] (Ret (vU (packW3 e_ (flagI l_) (flagI b_) g_ k_)) []) := by
  refine ctr_of (args := [.agg #[vI e_, vI g_, vI k_, .bool l_, .bool b_]]) (fn := Tryz.f61) (body := B61) (nt := 31) Tryz.func61 (by kernel_rfl) (by kernel_rfl) ?_
  intro F
  refine go_exec (rs := [.tmp 2]) (by kernel_rfl) 4000 [.e 0, .w, .w, .e 0, .z [0, 1, 1] 4 [1, 8, 10]] (o := .new fun b_1 => .obl (b_1 = b_1) (.obl (b_1 = b_1) (.stop [.o [0, 1, 1] 4, .c [1, 1, 1]] [(1, vP b_1), (8, vU (IntKind.u64.wrap ((IntKind.u64.wrap e_) * 2))), (10, .bool l_)] [E4ea3a b_1 e_ g_ k_ l_ b_]))) (by kernel_rfl) ?_
  refine ok_new fun b_1 => ?_
  refine ok_obl rfl ?_
  refine ok_obl rfl ?_
  refine ok_stop ?_
  refine go_call (some 11) [] Tryz.call102 (r13_flag l_) (by kernel_rfl) ?_
  rintro v post ⟨rfl, rfl⟩
  refine go_exec (rs := [.tmp 2]) (by kernel_rfl) 4000 [.w, .w, .e 0, .z [0, 1, 1, 1] 4 [1, 14, 16]] (o := .obl (b_1 = b_1) (.stop [.o [0, 1, 1, 1] 4, .c [1, 1, 1, 1]] [(1, vP b_1), (14, vU (IntKind.u64.wrap ((IntKind.u64.wrap ((IntKind.u64.wrap ((IntKind.u64.wrap e_) * 2)) + (flagI l_))) * 2))), (16, .bool b_)] [E4ea3a b_1 e_ g_ k_ l_ b_])) (by kernel_rfl) ?_
  refine ok_obl rfl ?_
  refine ok_stop ?_
  refine go_call (some 17) [] Tryz.call102 (r13_flag b_) (by kernel_rfl) ?_
  rintro v post ⟨rfl, rfl⟩
  refine go_exec (rs := [.tmp 2]) (by kernel_rfl) 4000 [.w, .n, .e 0, .w, .w, .n, .e 0, .w, .w] (o := .obl ((0 : Int) ≤ 31) (.obl (b_1 = b_1) (.obl ((0 : Int) ≤ 16) (.obl (b_1 = b_1) (.ret (vU (IntKind.u64.wrap ((bShl .u64 (IntKind.u64.wrap ((bShl .u64 (IntKind.u64.wrap ((IntKind.u64.wrap ((IntKind.u64.wrap ((IntKind.u64.wrap ((IntKind.u64.wrap e_) * 2)) + (flagI l_))) * 2)) + (flagI b_))) 31) + (IntKind.u64.wrap g_))) 16) + (IntKind.u64.wrap k_)))) [E4ea3a b_1 e_ g_ k_ l_ b_]))))) (by kernel_rfl) ?_
  refine ok_obl (by first | omega | (simp; done) | (simp; omega)) ?_
  refine ok_obl rfl ?_
  refine ok_obl (by first | omega | (simp; done) | (simp; omega)) ?_
  refine ok_obl rfl ?_
  exact ret_ok (post := []) [] (by kernel_rfl) ⟨(congrArg (Value.int .u64) (by have h1 := flagI_rng l_; have h2 := flagI_rng b_; unfold packW3; simp only [shl31, shl16, wrapU64]; omega)), (by kernel_rfl)⟩

noncomputable def B123 : Code := (Tryz.f123.body).getD .skip

theorem slots_Mark (cl bk : Int) (hcl : 0 ≤ cl + 1 ∧ cl + 1 ≤ 4294967295) (hb : 0 ≤ bk ∧ bk ≤ 4294967295) :
    Ctr Tryz.prog 123 #[vI cl, vI bk] [] (Ret (vU (markW cl bk)) []) := by
  refine ctr_of (args := [vI cl, vI bk]) (fn := Tryz.f123) (body := B123) (nt := 14) Tryz.func123 (by kernel_rfl) (by kernel_rfl) ?_
  intro F
  refine go_exec (rs := [.tmp 4]) (by kernel_rfl) 4000 [.n, .w, .w, .n, .w, .w] (o := .obl (InK .i64 (cl + 1)) (.obl ((0 : Int) ≤ 32) (.ret (vU (bOr .u64 (bShl .u64 (IntKind.u64.wrap (IntKind.u32.wrap (cl + 1))) 32) (IntKind.u64.wrap (IntKind.u32.wrap bk)))) []))) (by kernel_rfl) ?_
  refine ok_obl (by simp only [InK]; omega) ?_
  refine ok_obl (by first | omega | (simp; done) | (simp; omega)) ?_
  exact ret_ok (post := []) [] (by kernel_rfl) ⟨(congrArg (Value.int .u64) (mark_or hcl hb)), (by kernel_rfl)⟩


theorem cause_New0   :
    Ctr Tryz.prog 36 #[vI 0] [] (Ret (.nilIface) []) := by
  refine ctr_of (args := [vI 0]) (fn := Tryz.f36) (body := B36) (nt := 7) Tryz.func36 (by kernel_rfl) (by kernel_rfl) ?_
  intro F
  refine go_exec (rs := [.tmp 2]) (by kernel_rfl) 4000 [] (o := .ret (.nilIface) []) (by kernel_rfl) ?_
  exact ret_ok (post := []) [] (by kernel_rfl) ⟨rfl, (by kernel_rfl)⟩


theorem cause_NewE (k_ : Int) (hk : k_ ≠ 0) :
    Ctr Tryz.prog 36 #[vI k_] [] (Ret (.iface 46 (vI k_)) []) := by
  refine ctr_of (args := [vI k_]) (fn := Tryz.f36) (body := B36) (nt := 7) Tryz.func36 (by kernel_rfl) (by kernel_rfl) ?_
  intro F
  refine go_exec (rs := [.tmp 2]) (by kernel_rfl) 4000 [.sp [4] [.dead] []] (o := .br (k_ == 0) (.bad) (.ret (.iface 46 (vI k_)) [])) (by kernel_rfl) ?_
  refine ok_br (fun h => absurd (show (k_ == 0) = false from (beq_eq_false_iff_ne.2 hk)) (by rw [h]; simp)) (fun _ => ?_)
  exact ret_ok (post := []) [] (by kernel_rfl) ⟨rfl, (by kernel_rfl)⟩

theorem as_hitH (o_ : Obj) (b : Nat) (old k_ : Int) (ho : IsH o_) :
    Ctr Tryz.prog 38 #[.iface 46 (vI k_), .iface 100 (vP b)] [.raw 0 o_, .pts b [vI old] 46] (Ret (.bool true) [.raw 0 o_, .pts b [vI k_] 46]) := by
  obtain ⟨t, f, rfl⟩ := ho
  exact as_hitC t f b old k_

noncomputable def B12 : Code := (Tryz.f12.body).getD .skip

theorem cause_Top0 (o_ : Obj)  :
    Ctr Tryz.prog 12 #[.nilIface] [.raw 0 o_] (Ret (vI 0) [.raw 0 o_]) := by
  refine ctr_of (args := [.nilIface]) (fn := Tryz.f12) (body := B12) (nt := 8) Tryz.func12 (by kernel_rfl) (by kernel_rfl) ?_
  intro F
  refine go_exec (rs := [.tmp 2]) (by kernel_rfl) 4000 [.z [0, 0, 1, 1] 2 [3, 4, 5]] (o := .new fun b_1 => .stop [.o [0, 0, 1, 1] 2, .c [1, 0, 1, 1], .c [1, 1, 1]] [(3, vP b_1), (4, .nilIface), (5, .iface 100 (vP b_1))] [.raw 0 o_, .pts b_1 [vI 0] 46]) (by kernel_rfl) ?_
  refine ok_new fun b_1 => ?_
  refine ok_stop ?_
  refine go_call (some 6) [] Tryz.call38 (as_nilC (.iface 100 (vP b_1))) (by kernel_rfl) ?_
  rintro v post ⟨rfl, rfl⟩
  refine go_exec (rs := [.tmp 2]) (by kernel_rfl) 4000 [] (o := .ret (vI 0) [.raw 0 o_, .pts b_1 [vI 0] 46]) (by kernel_rfl) ?_
  exact ret_ok (post := [.raw 0 o_]) [0] (by kernel_rfl) ⟨rfl, (by kernel_rfl)⟩


theorem cause_TopE (o_ : Obj) (k_ : Int) (ho : IsH o_) :
    Ctr Tryz.prog 12 #[.iface 46 (vI k_)] [.raw 0 o_] (Ret (vI k_) [.raw 0 o_]) := by
  refine ctr_of (args := [.iface 46 (vI k_)]) (fn := Tryz.f12) (body := B12) (nt := 8) Tryz.func12 (by kernel_rfl) (by kernel_rfl) ?_
  intro F
  refine go_exec (rs := [.tmp 2]) (by kernel_rfl) 4000 [.z [0, 0, 1, 1] 2 [3, 4, 5]] (o := .new fun b_1 => .stop [.o [0, 0, 1, 1] 2, .c [1, 0, 1, 1], .c [1, 1, 1]] [(3, vP b_1), (4, .iface 46 (vI k_)), (5, .iface 100 (vP b_1))] [.raw 0 o_, .pts b_1 [vI 0] 46]) (by kernel_rfl) ?_
  refine ok_new fun b_1 => ?_
  refine ok_stop ?_
  refine go_call (some 6) [0, 1] Tryz.call38 (as_hitH o_ b_1 0 k_ (by first | assumption | omega | (simp only [InK] at *; omega))) (by kernel_rfl) ?_
  rintro v post ⟨rfl, rfl⟩
  refine go_exec (rs := [.tmp 2]) (by kernel_rfl) 4000 [.e 1] (o := .obl (b_1 = b_1) (.ret (vI k_) [.raw 0 o_, .pts b_1 [vI k_] 46])) (by kernel_rfl) ?_
  refine ok_obl rfl ?_
  exact ret_ok (post := [.raw 0 o_]) [0] (by kernel_rfl) ⟨rfl, (by kernel_rfl)⟩


theorem cause_Top (o_ : Obj) (k_ : Int) (ho : IsH o_) :
    Ctr Tryz.prog 12 #[(errV k_)] [.raw 0 o_] (Ret (vI k_) [.raw 0 o_]) := by
  by_cases hk : k_ = 0
  · subst hk; exact cause_Top0 o_
  · rw [errV_ne hk]; exact cause_TopE o_ k_ ho

end Go.Proofs.YtiiepkjckmdmkaaGreatDoor

/- What the listed variable gives a walk. -/
namespace Go.Proofs.YtiiepkjckmdmkaaGreatDoor
open Go.Sx Go.ChangeShapes Go.WideShapes Go.ChangeAt Go.RowKit
theorem Tryz.own : ownKnob Tryz.prog.godebug = none := by kernel_rfl
theorem Tryz.laidOutP : laidOutB Tryz.prog = true := by kernel_rfl
theorem Tryz.et : Tryz.prog.globalNamed "errors.errorType" = some 0 := by kernel_rfl
theorem Tryz.rt : (Tryz.prog.cutTypes.find? (·.1 == "internal/reflectlite.rtype")).map (·.2) = some 183 := by kernel_rfl
theorem Tryz.oneRow : ((List.range 247).filter fun t => Tryz.prog.rowNamed t [101, 114, 114, 111, 114]) = [38] := by kernel_rfl
theorem Tryz.sizeT : Tryz.prog.types.size = 247 := by kernel_rfl
theorem handle_of_laid {W : World} (h : laidMetH Tryz.prog [("errors.errorType", Rows.laid_errors_errorType)] W) : ∃ o, IsH o ∧ W.heap[0]? = some o := by
  have h' : laidMet Tryz.prog [] W ∧ handlesMet Tryz.prog [("errors.errorType", Rows.laid_errors_errorType)] W := h
  obtain ⟨name, u, ty, e1, e2, e3, e4, e5⟩ := h'.2 _ (List.mem_singleton.2 rfl)
  have en : name = [101, 114, 114, 111, 114] := (Option.some.inj e1).symm
  subst en
  obtain rfl := Option.some.inj (Tryz.rt.symm.trans e2)
  have hm : ty ∈ (List.range 247).filter fun t => Tryz.prog.rowNamed t [101, 114, 114, 111, 114] := List.mem_filter.2 ⟨List.mem_range.2 (by rw [← Tryz.sizeT]; exact e3), e4⟩
  rw [Tryz.oneRow] at hm
  obtain rfl := List.mem_singleton.1 hm
  have hh : typeHandle Tryz.prog 38 = .pointer (some ⟨1, 38, none⟩) := by kernel_rfl
  rw [hh] at e5
  simp only [World.var?, Tryz.et, Option.bind_some] at e5
  split at e5
  · rename_i cs t f hc
    exact ⟨_, ⟨t, f, by have := Option.some.inj e5; rw [this]; rfl⟩, hc⟩
  · cases e5
noncomputable def laidWorld (os : Os) : World :=
  let w0 := World.holding Tryz.prog os ⟨#[], #[], []⟩
  { w0 with heap := w0.heap.modify 0 fun
      | .cells _ t frozen => .cells #[.iface 183 (.agg #[.pointer (some ⟨1, 38, none⟩)])] t frozen
      | o => o }
theorem laidWorld_met (os : Os) (args : Array Value) : laidMetH Tryz.prog [("errors.errorType", Rows.laid_errors_errorType)] ((laidWorld os).forCall (fun _ _ => 0) ⟨#[], args, []⟩).memory :=
  laidMetH_of_parts (laidMet_nil _ _) (by kernel_rfl)
theorem open_rd2 {P : Program} {w : World} {H : Type} {enc : TypeId × Value → H} {base : Nat} {held : Bool} {α : Type} {en : α → List Value} {d0 : α} {sz : Nat} (hz : Sized en sz) {d : Nat} {t e : TypeId} {ks : List Kd} {v : Value} {y : DataW H} {ps : List MemPlace} (ht : P.underlying t = some (.slice e)) (hf : flat P d e = some ks) (hs : P.cellsOf e = sz) (h0 : 0 < sz)
    {Q : α → Prop} (hen : ∀ row, FitsAll ks row → ∃ x, row = en x ∧ Q x) {b0 : Nat} (hv : Value.okWide P w .any b0 t v) (h : DataW.Trod enc P w base (fun _ => true) held t v y ps) :
    ∃ (a : Option Addr) (c : Nat) (xs : List α) (bt : TypeId) (r : Sx.Rest) (foot : Ft), v = .slice a xs.length c ∧ (xs.length ≤ c ∧ ∀ x ∈ xs, Q x) ∧ (Ent.rd a c en d0 sz xs bt r).den foot ∧ Fits foot w ∧ (foot = [] ∨ xs ≠ []) ∧ ∀ g, (Ent.rd a c en d0 sz xs bt r).den g → ∀ p ∈ foot, p ∈ g := by
  obtain ⟨a, c, xs, bt, r, foot, h1, h2, h3, h4, h5, h6, h7⟩ := open_rd hz ht hf hs h0 hen hv h
  by_cases hx : xs = []
  · refine ⟨a, c, xs, bt, r, [], h1, h2, ⟨hz, .inl ⟨hx, rfl, ?_⟩⟩, ⟨by simp, by simp⟩, .inl rfl, by simp⟩
    rcases h4.2 with ⟨_, _, q⟩ | ⟨b, off, q, _⟩
    · exact q
    · intro hn; rw [hn] at q; cases q
  · exact ⟨a, c, xs, bt, r, foot, h1, h2, h4, h5, .inr hx, h7⟩
theorem apart_h {o : Obj} {W : World} (ho : IsH o) (hO : W.heap[0]? = some o) {α : Type} {a : Option Addr} {c : Nat} {en : α → List Value} {d : α} {sz : Nat} {xs : List α} {t : TypeId} {r : Sx.Rest} {foot : Ft} (hd : (Ent.rd a c en d sz xs t r).den foot) (hfit : Fits foot W) (hne : foot = [] ∨ xs ≠ []) (h2 : 2 ≤ sz) : 0 ∉ foot.map (·.1) := by
  intro hm
  rcases hne with hf | hx
  · rw [hf] at hm; simp at hm
  · rcases hd.2 with ⟨q, _⟩ | ⟨b, off, _, _, _, q⟩
    · exact hx q
    · rw [q] at hm hfit
      simp only [List.map_cons, List.map_nil, List.mem_singleton] at hm
      subst hm
      have h1 := hfit.2 _ (List.mem_singleton.2 rfl)
      simp only at h1
      rw [hO] at h1
      obtain ⟨t', f', rfl⟩ := ho
      have h3 := Option.some.inj h1
      injection h3 with h4 h5 h6
      have h7 := congrArg Array.size h4
      cases xs with
      | nil => exact hx rfl
      | cons x l =>
        have hs := hd.1 x
        simp [cellsOf] at h7
        omega
theorem dens_hr {o : Obj} {e : Ent} {foot : Ft} (h : e.den foot) : dens [.raw 0 o, e] ((0, o) :: foot) := ⟨[(0, o)], foot, rfl, rfl, foot, [], by simp, h, rfl⟩
theorem foot_hr {o : Obj} {W : World} {foot : Ft} (hO : W.heap[0]? = some o) (hfit : Fits foot W) (h0 : 0 ∉ foot.map (·.1)) : Fits ((0, o) :: foot) W :=
  ⟨by rw [List.map_cons, List.nodup_cons]; exact ⟨h0, hfit.1⟩, fun p hp => by
    rcases List.mem_cons.1 hp with rfl | hp
    · exact hO
    · exact hfit.2 p hp⟩
theorem pin_hr {o : Obj} {e : Ent} {foot : Ft} (h : ∀ g, e.den g → ∀ p ∈ foot, p ∈ g) : ∀ g, dens [.raw 0 o, e] g → ∀ p ∈ (0, o) :: foot, p ∈ g := by
  rintro g ⟨f1, f2, rfl, h1, f3, f4, rfl, h3, _⟩ p hp
  have h1 : f1 = [(0, o)] := h1
  subst h1
  rcases List.mem_cons.1 hp with rfl | hp
  · simp
  · simp [h f3 h3 p hp]
end Go.Proofs.YtiiepkjckmdmkaaGreatDoor


/- Walks: what functions of the program and of the document compute, part 1 of those on which RetireGuards rests. -/
import Derived.Test.YtilaihbbollcnaaGreatDoorMdA
import Derived.Test.YtilaihbbollcnaaGreatDoorChecked

set_option linter.unusedVariables false
set_option linter.unusedSimpArgs false

namespace Go.Proofs.YtilaihbbollcnaaGreatDoor
open Go.Sx
abbrev Ee1539 (x0 : Nat) (c1 : Cfg) : Ent := .pts x0 [.int .i64 c1.topics, .int .i64 c1.small, .int .i64 c1.slots, .int .i64 c1.clients, .int .i64 c1.s0, .int .i64 c1.n0, .int .i64 c1.s1, .int .i64 c1.n1, .int .i64 c1.retry] 31
abbrev E7a681 (x0 : Option Addr) (x1 : Nat) (x2 : List Int) : Ent := .sl x0 x1 (encI .u64) 0 1 x2 42
abbrev Ef994c (x0 : Nat) (x1 : Option Addr) (x2 : Nat) (x3 : Nat) (x4 : Int) (x5 : Int) (x6 : Int) (x7 : Int) (x8 : Bool) : Ent := .pts x0 [.slice x1 x2 x3, .int .i64 x4, .int .i64 x5, .int .i64 x6, .int .u64 x7, .bool x8, .nilIface] 115
abbrev E21626 (x0 : Nat) (a1 : Ar) : Ent := .pts x0 [.slice a1.aw a1.n a1.cw, .int .i64 a1.steps, .int .i64 a1.lk, .int .i64 a1.lw, .int .u64 a1.lv, .bool a1.lc, .nilIface] 115
abbrev E671ef (a0 : Ar) : Ent := .sl a0.aw a0.cw (encI .u64) 0 1 a0.ws 42
abbrev Ed8069 (x0 : Nat) (c1 : Cfg) : Ent := .pts x0 [.int .i64 c1.topics, .int .i64 c1.small, .int .i64 c1.slots, .int .i64 c1.clients, .int .i64 c1.retry, .int .i64 c1.s0, .int .i64 c1.n0, .int .i64 c1.s1, .int .i64 c1.n1] 130
abbrev E14961 (x0 : Nat) (x1 : Int) (x2 : Int) (x3 : Int) (x4 : Int) (x5 : Int) (x6 : Int) (x7 : Int) (x8 : Int) (x9 : Int) : Ent := .pts x0 [.int .i64 x1, .int .i64 x2, .int .i64 x3, .int .i64 x4, .int .i64 x5, .int .i64 x6, .int .i64 x7, .int .i64 x8, .int .i64 x9] 130
abbrev E33767 (x0 : Nat) (x1 : Int) (x2 : Int) (x3 : Int) (x4 : Int) (x5 : Int) (x6 : Int) (x7 : Int) (x8 : Int) (x9 : Int) : Ent := .pts x0 [.int .i64 x1, .int .i64 x2, .int .i64 x3, .int .i64 x4, .int .i64 x5, .int .i64 x6, .int .i64 x7, .int .i64 x8, .int .i64 x9] 31
abbrev E55b74 (x0 : Nat) (a1 : Ar) (x2 : Int) (x3 : Int) (x4 : Int) (x5 : Int) (x6 : Bool) : Ent := .pts x0 [.slice a1.aw a1.n a1.cw, .int .i64 x2, .int .i64 x3, .int .i64 x4, .int .u64 x5, .bool x6, .nilIface] 115
abbrev E4b293 (a0 : Ar) (x1 : List Int) : Ent := .sl a0.aw a0.cw (encI .u64) 0 1 x1 42
abbrev E829f8 (x0 : Nat) (a1 : Ar) : Ent := .pts x0 [.int .i64 a1.lk, .int .i64 a1.lw, .int .u64 a1.lv, .bool a1.lc] 55
abbrev cfgV (c : Cfg) : Value := .agg #[.int .i64 c.topics, .int .i64 c.small, .int .i64 c.slots, .int .i64 c.clients, .int .i64 c.s0, .int .i64 c.n0, .int .i64 c.s1, .int .i64 c.n1, .int .i64 c.retry]
noncomputable def B103 : Code := (Tryz.f103.body).getD .skip

theorem bits_may (at_ n : Int) (h : 1 ≤ n ∧ n ≤ 64 ∧ 0 ≤ at_ ∧ at_ + n ≤ 64) :
    Ctr Tryz.prog 103 #[vI at_, vI n] [] (Ret (.bool true) []) := by
  refine ctr_of (args := [vI at_, vI n]) (fn := Tryz.f103) (body := B103) (nt := 21) Tryz.func103 (by kernel_rfl) (by kernel_rfl) ?_
  intro F
  refine go_exec (rs := [.tmp 4]) (by kernel_rfl) 4000 [.sp [7, 6] [.sp [11, 9, 10] [.sp [15, 13, 14] [.n] [.dead]] [.dead]] [.dead]] (o := .obl ((decide (n ≥ 1)) = (decide (n ≥ 1))) (.br (decide (n ≥ 1)) (.obl ((decide (n ≤ 64)) = (decide (n ≤ 64))) (.obl ((decide (n ≤ 64)) = (decide (n ≤ 64))) (.br (decide (n ≤ 64)) (.obl ((decide (at_ ≥ 0)) = (decide (at_ ≥ 0))) (.obl ((decide (at_ ≥ 0)) = (decide (at_ ≥ 0))) (.br (decide (at_ ≥ 0)) (.obl (InK .i64 (64 - n)) (.ret (.bool (decide (at_ ≤ (64 - n)))) [])) (.bad)))) (.bad)))) (.bad))) (by kernel_rfl) ?_
  refine ok_obl rfl ?_
  refine ok_br (fun _ => ?_) (fun h => absurd (show (decide (n ≥ 1)) = true from (by simp; omega)) (by rw [h]; simp))
  refine ok_obl rfl ?_
  refine ok_obl rfl ?_
  refine ok_br (fun _ => ?_) (fun h => absurd (show (decide (n ≤ 64)) = true from (by simp; omega)) (by rw [h]; simp))
  refine ok_obl rfl ?_
  refine ok_obl rfl ?_
  refine ok_br (fun _ => ?_) (fun h => absurd (show (decide (at_ ≥ 0)) = true from (by simp; omega)) (by rw [h]; simp))
  refine ok_obl (by simp only [InK] at *; omega) ?_
  exact ret_ok (post := []) [] (by kernel_rfl) ⟨(congrArg Value.bool (by first | rfl | (simp; done) | (simp; omega))), (by kernel_rfl)⟩

noncomputable def B104 : Code := (Tryz.f104.body).getD .skip

theorem bits_all (n : Int) (h : 1 ≤ n ∧ n ≤ 64) :
    Ctr Tryz.prog 104 #[vI n] [] (Ret (vU (bShr .u64 18446744073709551615 (64 - n))) []) := by
  refine ctr_of (args := [vI n]) (fn := Tryz.f104) (body := B104) (nt := 6) Tryz.func104 (by kernel_rfl) (by kernel_rfl) ?_
  intro F
  refine go_exec (rs := [.tmp 2]) (by kernel_rfl) 4000 [.n, .n] (o := .obl (InK .i64 (64 - n)) (.obl ((0 : Int) ≤ (64 - n)) (.ret (vU (bShr .u64 18446744073709551615 (64 - n))) []))) (by kernel_rfl) ?_
  refine ok_obl (by simp only [InK]; omega) ?_
  refine ok_obl (by omega) ?_
  exact ret_ok (post := []) [] (by kernel_rfl) ⟨rfl, (by kernel_rfl)⟩

noncomputable def B100 : Code := (Tryz.f100.body).getD .skip

theorem bits_Get (w_ at_ n : Int) (h : 1 ≤ n ∧ n ≤ 64 ∧ 0 ≤ at_ ∧ at_ + n ≤ 64) :
    Ctr Tryz.prog 100 #[vU w_, vI at_, vI n] [] (Ret (vU (bAnd .u64 (bShr .u64 w_ at_) (bShr .u64 18446744073709551615 (64 - n)))) []) := by
  refine ctr_of (args := [vU w_, vI at_, vI n]) (fn := Tryz.f100) (body := B100) (nt := 17) Tryz.func100 (by kernel_rfl) (by kernel_rfl) ?_
  intro F
  refine go_exec (rs := [.tmp 6]) (by kernel_rfl) 4000 [.z [0, 0, 1] 2 [0, 1, 2, 7, 8]] (o := .stop [.o [0, 0, 1] 2, .c [1, 0, 1], .c [1, 1]] [(0, vU w_), (1, vI at_), (2, vI n), (7, vI at_), (8, vI n)] []) (by kernel_rfl) ?_
  refine ok_stop ?_
  refine go_call (some 9) [] Tryz.call103 (bits_may at_ n (by first | assumption | omega | (simp only [InK] at *; omega))) (by kernel_rfl) ?_
  rintro v post ⟨rfl, rfl⟩
  refine go_exec (rs := [.tmp 6]) (by kernel_rfl) 4000 [.z [0, 1, 1] 0 [0, 1, 2]] (o := .stop [.c [0, 1, 1], .c [1, 1, 1]] [(0, vU w_), (1, vI at_), (2, vI n)] []) (by kernel_rfl) ?_
  refine ok_stop ?_
  refine go_quiet (tm' := [(6, vU (bAnd .u64 (bShr .u64 w_ at_) (bShr .u64 18446744073709551615 (64 - n))))]) (ps := [(0 : Int) ≤ at_]) (cs := [(104, #[vI n], vU (bShr .u64 18446744073709551615 (64 - n)))]) [(0, .h .w), (1, .h .w), (2, .h (.n)), (3, .h .w), (4, .q (vU (bShr .u64 18446744073709551615 (64 - n)))), (5, .h .w), (6, .h .w)] [6] (by kernel_rfl) (by kernel_rfl) ⟨(by first | omega | (simp; done) | (simp; omega)), trivial⟩ ⟨⟨Tryz.call104, quiet_of [] (bits_all n (by first | assumption | omega | (simp only [InK] at *; omega))) (by kernel_rfl) (by rintro v post ⟨rfl, rfl⟩; exact ⟨rfl, rfl⟩)⟩, trivial⟩ ?_
  refine go_exec (rs := [.tmp 6]) (by kernel_rfl) 4000 [] (o := .ret (vU (bAnd .u64 (bShr .u64 w_ at_) (bShr .u64 18446744073709551615 (64 - n)))) []) (by kernel_rfl) ?_
  exact ret_ok (post := []) [] (by kernel_rfl) ⟨rfl, (by kernel_rfl)⟩

noncomputable def B56 : Code := (Tryz.f56.body).getD .skip

theorem plan_cells (c : Cfg) (hc : c.Ok) :
    Ctr Tryz.prog 56 #[cfgV c] [] (Ret (.tuple #[vI (5 + c.slots + c.topics), vI (1 + 2 * c.small)]) []) := by
  refine ctr_of (args := [cfgV c]) (fn := Tryz.f56) (body := B56) (nt := 14) Tryz.func56 (by kernel_rfl) (by kernel_rfl) ?_
  intro F
  refine go_exec (rs := [.tmp 2, .tmp 3]) (by kernel_rfl) 4000 [.z [0, 1] 0 [1]] (o := .new fun b_1 => .stop [.c [0, 1], .c [1, 1]] [(1, vP b_1)] [Ee1539 b_1 c]) (by kernel_rfl) ?_
  refine ok_new fun b_1 => ?_
  refine ok_stop ?_
  refine go_quiet (tm' := [(2, vI ((5 + c.slots) + c.topics)), (3, vI (1 + (2 * c.small)))]) (ps := [b_1 = b_1, InK .i64 (5 + c.slots), b_1 = b_1, InK .i64 ((5 + c.slots) + c.topics), b_1 = b_1, InK .i64 (2 * c.small), InK .i64 (1 + (2 * c.small))]) (cs := []) [(0, .h .w), (1, .h (.e 0)), (2, .h (.n)), (3, .h .w), (4, .h (.e 0)), (5, .h (.n)), (6, .h .w), (7, .h (.e 0)), (8, .h (.n)), (9, .h (.n)), (10, .h .w), (11, .h .w)] [2, 3] (by kernel_rfl) (by kernel_rfl) ⟨rfl, (by simp only [Cfg.Ok, InK] at *; omega), rfl, (by simp only [Cfg.Ok, InK] at *; omega), rfl, (by simp only [Cfg.Ok, InK] at *; omega), (by simp only [Cfg.Ok, InK] at *; omega), trivial⟩ trivial ?_
  refine go_exec (rs := [.tmp 2, .tmp 3]) (by kernel_rfl) 4000 [] (o := .ret (.tuple #[vI ((5 + c.slots) + c.topics), vI (1 + (2 * c.small))]) [Ee1539 b_1 c]) (by kernel_rfl) ?_
  exact ret_ok (post := []) [] (by kernel_rfl) ⟨rfl, (by kernel_rfl)⟩

noncomputable def B83 : Code := (Tryz.f83.body).getD .skip

theorem plan_parts (c : Cfg)  :
    Ctr Tryz.prog 83 #[cfgV c] [] (Ret (.agg #[vI c.topics, vI c.small, vI c.slots, vI c.clients, vI c.retry, vI c.s0, vI c.n0, vI c.s1, vI c.n1]) []) := by
  refine ctr_of (args := [cfgV c]) (fn := Tryz.f83) (body := B83) (nt := 30) Tryz.func83 (by kernel_rfl) (by kernel_rfl) ?_
  intro F
  refine go_exec (rs := [.cell 2 130]) (by kernel_rfl) 4000 [.e 0, .e 0, .e 0, .e 0, .e 0, .w, .e 0, .w, .e 0, .w, .e 0, .w, .e 0, .e 1, .e 1] (o := .new fun b_1 => .new fun b_2 => .obl (b_1 = b_1) (.obl (b_1 = b_1) (.obl (b_1 = b_1) (.obl (b_1 = b_1) (.obl (b_1 = b_1) (.obl (b_1 = b_1) (.obl (b_1 = b_1) (.obl (b_1 = b_1) (.obl (b_1 = b_1) (.obl (b_2 = b_2) (.obl (b_2 = b_2) (.ret (.agg #[vI c.topics, vI c.small, vI c.slots, vI c.clients, vI c.retry, vI c.s0, vI c.n0, vI c.s1, vI c.n1]) [Ee1539 b_1 c, Ed8069 b_2 c])))))))))))) (by kernel_rfl) ?_
  refine ok_new fun b_1 => ?_
  refine ok_new fun b_2 => ?_
  refine ok_obl rfl ?_
  refine ok_obl rfl ?_
  refine ok_obl rfl ?_
  refine ok_obl rfl ?_
  refine ok_obl rfl ?_
  refine ok_obl rfl ?_
  refine ok_obl rfl ?_
  refine ok_obl rfl ?_
  refine ok_obl rfl ?_
  refine ok_obl rfl ?_
  refine ok_obl rfl ?_
  exact ret_ok (post := []) [] (by kernel_rfl) ⟨rfl, (by kernel_rfl)⟩

noncomputable def B82 : Code := (Tryz.f82.body).getD .skip

theorem plan_right (c : Cfg) (hc : c.Ok) :
    Ctr Tryz.prog 82 #[cfgV c] [] (Ret (.bool true) []) := by
  refine ctr_of (args := [cfgV c]) (fn := Tryz.f82) (body := B82) (nt := 37) Tryz.func82 (by kernel_rfl) (by kernel_rfl) ?_
  intro F
  refine go_exec (rs := [.tmp 2]) (by kernel_rfl) 4000 [.e 1, .e 2, .e 0, .z [0, 0, 1, 1, 1] 1 [1, 3, 4, 9]] (o := .new fun b_1 => .new fun b_2 => .obl (b_2 = b_2) (.new fun b_3 => .obl (b_3 = b_3) (.obl (b_1 = b_1) (.stop [.o [0, 0, 1, 1, 1] 1, .c [1, 0, 1, 1, 1], .c [1, 1, 1, 1]] [(1, vP b_1), (3, vP b_2), (4, vP b_3), (9, cfgV c)] [Ee1539 b_1 c, E14961 b_2 1 4 1 1 1 4 0 4 0, E14961 b_3 8 32 8 8 8 96 12 96 12])))) (by kernel_rfl) ?_
  refine ok_new fun b_1 => ?_
  refine ok_new fun b_2 => ?_
  refine ok_obl rfl ?_
  refine ok_new fun b_3 => ?_
  refine ok_obl rfl ?_
  refine ok_obl rfl ?_
  refine ok_stop ?_
  refine go_call (some 10) [] Tryz.call83 (plan_parts c) (by kernel_rfl) ?_
  rintro v post ⟨rfl, rfl⟩
  refine go_exec (rs := [.tmp 2]) (by kernel_rfl) 4000 [.u, .w, .e 1, .sp [20, 19] [.dead] [.w, .e 2, .sp [26, 25] [.dead] [.w, .u, .w, .e 1, .sp [20, 19] [.dead] [.w, .e 2, .sp [26, 25] [.dead] [.w, .u, .w, .e 1, .sp [20, 19] [.dead] [.w, .e 2, .sp [26, 25] [.dead] [.w, .u, .w, .e 1, .sp [20, 19] [.dead] [.w, .e 2, .sp [26, 25] [.dead] [.w, .u, .w, .e 1, .sp [20, 19] [.dead] [.w, .e 2, .sp [26, 25] [.dead] [.w, .u, .w, .e 1, .sp [20, 19] [.dead] [.w, .e 2, .sp [26, 25] [.dead] [.w, .u, .w, .e 1, .sp [20, 19] [.dead] [.w, .e 2, .sp [26, 25] [.dead] [.w, .u, .w, .e 1, .sp [20, 19] [.dead] [.w, .e 2, .sp [26, 25] [.dead] [.w, .u, .w, .e 1, .sp [20, 19] [.dead] [.w, .e 2, .sp [26, 25] [.dead] [.w, .u, .w, .e 0, .w, .e 0]]]]]]]]]]]]]]]]]]] (o := .obl (b_2 = b_2) (.obl ((decide (c.topics < 1)) = (decide (c.topics < 1))) (.br (decide (c.topics < 1)) (.bad) (.obl (b_3 = b_3) (.obl ((decide (c.topics > 8)) = (decide (c.topics > 8))) (.br (decide (c.topics > 8)) (.bad) (.obl (b_2 = b_2) (.obl ((decide (c.small < 4)) = (decide (c.small < 4))) (.br (decide (c.small < 4)) (.bad) (.obl (b_3 = b_3) (.obl ((decide (c.small > 32)) = (decide (c.small > 32))) (.br (decide (c.small > 32)) (.bad) (.obl (b_2 = b_2) (.obl ((decide (c.slots < 1)) = (decide (c.slots < 1))) (.br (decide (c.slots < 1)) (.bad) (.obl (b_3 = b_3) (.obl ((decide (c.slots > 8)) = (decide (c.slots > 8))) (.br (decide (c.slots > 8)) (.bad) (.obl (b_2 = b_2) (.obl ((decide (c.clients < 1)) = (decide (c.clients < 1))) (.br (decide (c.clients < 1)) (.bad) (.obl (b_3 = b_3) (.obl ((decide (c.clients > 8)) = (decide (c.clients > 8))) (.br (decide (c.clients > 8)) (.bad) (.obl (b_2 = b_2) (.obl ((decide (c.retry < 1)) = (decide (c.retry < 1))) (.br (decide (c.retry < 1)) (.bad) (.obl (b_3 = b_3) (.obl ((decide (c.retry > 8)) = (decide (c.retry > 8))) (.br (decide (c.retry > 8)) (.bad) (.obl (b_2 = b_2) (.obl ((decide (c.s0 < 4)) = (decide (c.s0 < 4))) (.br (decide (c.s0 < 4)) (.bad) (.obl (b_3 = b_3) (.obl ((decide (c.s0 > 96)) = (decide (c.s0 > 96))) (.br (decide (c.s0 > 96)) (.bad) (.obl (b_2 = b_2) (.obl ((decide (c.n0 < 0)) = (decide (c.n0 < 0))) (.br (decide (c.n0 < 0)) (.bad) (.obl (b_3 = b_3) (.obl ((decide (c.n0 > 12)) = (decide (c.n0 > 12))) (.br (decide (c.n0 > 12)) (.bad) (.obl (b_2 = b_2) (.obl ((decide (c.s1 < 4)) = (decide (c.s1 < 4))) (.br (decide (c.s1 < 4)) (.bad) (.obl (b_3 = b_3) (.obl ((decide (c.s1 > 96)) = (decide (c.s1 > 96))) (.br (decide (c.s1 > 96)) (.bad) (.obl (b_2 = b_2) (.obl ((decide (c.n1 < 0)) = (decide (c.n1 < 0))) (.br (decide (c.n1 < 0)) (.bad) (.obl (b_3 = b_3) (.obl ((decide (c.n1 > 12)) = (decide (c.n1 > 12))) (.br (decide (c.n1 > 12)) (.bad) (.obl (b_1 = b_1) (.obl (b_1 = b_1) (.ret (.bool (decide (c.s1 > c.s0))) [Ee1539 b_1 c, E14961 b_2 1 4 1 1 1 4 0 4 0, E14961 b_3 8 32 8 8 8 96 12 96 12]))))))))))))))))))))))))))))))))))))))))))))))))))))))))) (by kernel_rfl) ?_
  refine ok_obl rfl ?_
  refine ok_obl rfl ?_
  refine ok_br (fun h => absurd (show (decide (c.topics < 1)) = false from (by simp only [Cfg.Ok] at hc; simp; omega)) (by rw [h]; simp)) (fun _ => ?_)
  refine ok_obl rfl ?_
  refine ok_obl rfl ?_
  refine ok_br (fun h => absurd (show (decide (c.topics > 8)) = false from (by simp only [Cfg.Ok] at hc; simp; omega)) (by rw [h]; simp)) (fun _ => ?_)
  refine ok_obl rfl ?_
  refine ok_obl rfl ?_
  refine ok_br (fun h => absurd (show (decide (c.small < 4)) = false from (by simp only [Cfg.Ok] at hc; simp; omega)) (by rw [h]; simp)) (fun _ => ?_)
  refine ok_obl rfl ?_
  refine ok_obl rfl ?_
  refine ok_br (fun h => absurd (show (decide (c.small > 32)) = false from (by simp only [Cfg.Ok] at hc; simp; omega)) (by rw [h]; simp)) (fun _ => ?_)
  refine ok_obl rfl ?_
  refine ok_obl rfl ?_
  refine ok_br (fun h => absurd (show (decide (c.slots < 1)) = false from (by simp only [Cfg.Ok] at hc; simp; omega)) (by rw [h]; simp)) (fun _ => ?_)
  refine ok_obl rfl ?_
  refine ok_obl rfl ?_
  refine ok_br (fun h => absurd (show (decide (c.slots > 8)) = false from (by simp only [Cfg.Ok] at hc; simp; omega)) (by rw [h]; simp)) (fun _ => ?_)
  refine ok_obl rfl ?_
  refine ok_obl rfl ?_
  refine ok_br (fun h => absurd (show (decide (c.clients < 1)) = false from (by simp only [Cfg.Ok] at hc; simp; omega)) (by rw [h]; simp)) (fun _ => ?_)
  refine ok_obl rfl ?_
  refine ok_obl rfl ?_
  refine ok_br (fun h => absurd (show (decide (c.clients > 8)) = false from (by simp only [Cfg.Ok] at hc; simp; omega)) (by rw [h]; simp)) (fun _ => ?_)
  refine ok_obl rfl ?_
  refine ok_obl rfl ?_
  refine ok_br (fun h => absurd (show (decide (c.retry < 1)) = false from (by simp only [Cfg.Ok] at hc; simp; omega)) (by rw [h]; simp)) (fun _ => ?_)
  refine ok_obl rfl ?_
  refine ok_obl rfl ?_
  refine ok_br (fun h => absurd (show (decide (c.retry > 8)) = false from (by simp only [Cfg.Ok] at hc; simp; omega)) (by rw [h]; simp)) (fun _ => ?_)
  refine ok_obl rfl ?_
  refine ok_obl rfl ?_
  refine ok_br (fun h => absurd (show (decide (c.s0 < 4)) = false from (by simp only [Cfg.Ok] at hc; simp; omega)) (by rw [h]; simp)) (fun _ => ?_)
  refine ok_obl rfl ?_
  refine ok_obl rfl ?_
  refine ok_br (fun h => absurd (show (decide (c.s0 > 96)) = false from (by simp only [Cfg.Ok] at hc; simp; omega)) (by rw [h]; simp)) (fun _ => ?_)
  refine ok_obl rfl ?_
  refine ok_obl rfl ?_
  refine ok_br (fun h => absurd (show (decide (c.n0 < 0)) = false from (by simp only [Cfg.Ok] at hc; simp; omega)) (by rw [h]; simp)) (fun _ => ?_)
  refine ok_obl rfl ?_
  refine ok_obl rfl ?_
  refine ok_br (fun h => absurd (show (decide (c.n0 > 12)) = false from (by simp only [Cfg.Ok] at hc; simp; omega)) (by rw [h]; simp)) (fun _ => ?_)
  refine ok_obl rfl ?_
  refine ok_obl rfl ?_
  refine ok_br (fun h => absurd (show (decide (c.s1 < 4)) = false from (by simp only [Cfg.Ok] at hc; simp; omega)) (by rw [h]; simp)) (fun _ => ?_)
  refine ok_obl rfl ?_
  refine ok_obl rfl ?_
  refine ok_br (fun h => absurd (show (decide (c.s1 > 96)) = false from (by simp only [Cfg.Ok] at hc; simp; omega)) (by rw [h]; simp)) (fun _ => ?_)
  refine ok_obl rfl ?_
  refine ok_obl rfl ?_
  refine ok_br (fun h => absurd (show (decide (c.n1 < 0)) = false from (by simp only [Cfg.Ok] at hc; simp; omega)) (by rw [h]; simp)) (fun _ => ?_)
  refine ok_obl rfl ?_
  refine ok_obl rfl ?_
  refine ok_br (fun h => absurd (show (decide (c.n1 > 12)) = false from (by simp only [Cfg.Ok] at hc; simp; omega)) (by rw [h]; simp)) (fun _ => ?_)
  refine ok_obl rfl ?_
  refine ok_obl rfl ?_
  exact ret_ok (post := []) [] (by kernel_rfl) ⟨(congrArg Value.bool (by simp only [Cfg.Ok] at hc; simp; omega)), (by kernel_rfl)⟩


theorem plan_right0   :
    Ctr Tryz.prog 82 #[.agg #[vI 0, vI 0, vI 0, vI 0, vI 0, vI 0, vI 0, vI 0, vI 0]] [] (Ret (.bool false) []) := by
  refine ctr_of (args := [.agg #[vI 0, vI 0, vI 0, vI 0, vI 0, vI 0, vI 0, vI 0, vI 0]]) (fn := Tryz.f82) (body := B82) (nt := 37) Tryz.func82 (by kernel_rfl) (by kernel_rfl) ?_
  intro F
  refine go_exec (rs := [.tmp 2]) (by kernel_rfl) 4000 [.e 1, .e 2, .e 0, .z [0, 0, 1, 1, 1] 1 [1, 3, 4, 9]] (o := .new fun b_1 => .new fun b_2 => .obl (b_2 = b_2) (.new fun b_3 => .obl (b_3 = b_3) (.obl (b_1 = b_1) (.stop [.o [0, 0, 1, 1, 1] 1, .c [1, 0, 1, 1, 1], .c [1, 1, 1, 1]] [(1, vP b_1), (3, vP b_2), (4, vP b_3), (9, .agg #[vI 0, vI 0, vI 0, vI 0, vI 0, vI 0, vI 0, vI 0, vI 0])] [E33767 b_1 0 0 0 0 0 0 0 0 0, E14961 b_2 1 4 1 1 1 4 0 4 0, E14961 b_3 8 32 8 8 8 96 12 96 12])))) (by kernel_rfl) ?_
  refine ok_new fun b_1 => ?_
  refine ok_new fun b_2 => ?_
  refine ok_obl rfl ?_
  refine ok_new fun b_3 => ?_
  refine ok_obl rfl ?_
  refine ok_obl rfl ?_
  refine ok_stop ?_
  refine go_call (some 10) [] Tryz.call83 (plan_parts (⟨0, 0, 0, 0, 0, 0, 0, 0, 0⟩ : Cfg)) (by kernel_rfl) ?_
  rintro v post ⟨rfl, rfl⟩
  refine go_exec (rs := [.tmp 2]) (by kernel_rfl) 4000 [.u, .w, .e 1] (o := .obl (b_2 = b_2) (.ret (.bool false) [E33767 b_1 0 0 0 0 0 0 0 0 0, E14961 b_2 1 4 1 1 1 4 0 4 0, E14961 b_3 8 32 8 8 8 96 12 96 12])) (by kernel_rfl) ?_
  refine ok_obl rfl ?_
  exact ret_ok (post := []) [] (by kernel_rfl) ⟨rfl, (by kernel_rfl)⟩

noncomputable def B38 : Code := (Tryz.f38.body).getD .skip

theorem plan_Check (c : Cfg) (hc : c.Ok) :
    Ctr Tryz.prog 38 #[cfgV c] [] (Ret (.nilIface) []) := by
  refine ctr_of (args := [cfgV c]) (fn := Tryz.f38) (body := B38) (nt := 7) Tryz.func38 (by kernel_rfl) (by kernel_rfl) ?_
  intro F
  refine go_exec (rs := [.tmp 2]) (by kernel_rfl) 4000 [.e 0, .z [0, 0, 1] 1 [3]] (o := .new fun b_1 => .obl (b_1 = b_1) (.stop [.o [0, 0, 1] 1, .c [1, 0, 1], .c [1, 1]] [(3, cfgV c)] [Ee1539 b_1 c])) (by kernel_rfl) ?_
  refine ok_new fun b_1 => ?_
  refine ok_obl rfl ?_
  refine ok_stop ?_
  refine go_call (some 4) [] Tryz.call82 (plan_right c (by first | assumption | omega | (simp only [InK] at *; omega))) (by kernel_rfl) ?_
  rintro v post ⟨rfl, rfl⟩
  refine go_exec (rs := [.tmp 2]) (by kernel_rfl) 4000 [] (o := .ret (.nilIface) [Ee1539 b_1 c]) (by kernel_rfl) ?_
  exact ret_ok (post := []) [] (by kernel_rfl) ⟨rfl, (by kernel_rfl)⟩

noncomputable def B60 : Code := (Tryz.f60.body).getD .skip

theorem cause_New (n : Int) (h : n ≠ 0) :
    Ctr Tryz.prog 60 #[vI n] [] (Ret (.iface 61 (vI n)) []) := by
  refine ctr_of (args := [vI n]) (fn := Tryz.f60) (body := B60) (nt := 7) Tryz.func60 (by kernel_rfl) (by kernel_rfl) ?_
  intro F
  refine go_exec (rs := [.tmp 2]) (by kernel_rfl) 4000 [.sp [4] [.dead] []] (o := .br (n == 0) (.bad) (.ret (.iface 61 (vI n)) [])) (by kernel_rfl) ?_
  refine ok_br (fun h => absurd (show (n == 0) = false from (by simp; omega)) (by rw [h]; simp)) (fun _ => ?_)
  exact ret_ok (post := []) [] (by kernel_rfl) ⟨rfl, (by kernel_rfl)⟩


theorem plan_Check0   :
    Ctr Tryz.prog 38 #[.agg #[vI 0, vI 0, vI 0, vI 0, vI 0, vI 0, vI 0, vI 0, vI 0]] [] (Ret (.iface 61 (vI 1)) []) := by
  refine ctr_of (args := [.agg #[vI 0, vI 0, vI 0, vI 0, vI 0, vI 0, vI 0, vI 0, vI 0]]) (fn := Tryz.f38) (body := B38) (nt := 7) Tryz.func38 (by kernel_rfl) (by kernel_rfl) ?_
  intro F
  refine go_exec (rs := [.tmp 2]) (by kernel_rfl) 4000 [.e 0, .z [0, 0, 1] 1 [3]] (o := .new fun b_1 => .obl (b_1 = b_1) (.stop [.o [0, 0, 1] 1, .c [1, 0, 1], .c [1, 1]] [(3, .agg #[vI 0, vI 0, vI 0, vI 0, vI 0, vI 0, vI 0, vI 0, vI 0])] [E33767 b_1 0 0 0 0 0 0 0 0 0])) (by kernel_rfl) ?_
  refine ok_new fun b_1 => ?_
  refine ok_obl rfl ?_
  refine ok_stop ?_
  refine go_call (some 4) [] Tryz.call82 (plan_right0) (by kernel_rfl) ?_
  rintro v post ⟨rfl, rfl⟩
  refine go_exec (rs := [.tmp 2]) (by kernel_rfl) 4000 [.z [0, 0, 1, 0, 1] 0 []] (o := .stop [.o [0, 0, 1, 0, 1] 0, .c [1, 0, 1, 0, 1], .c [1, 1]] [] [E33767 b_1 0 0 0 0 0 0 0 0 0]) (by kernel_rfl) ?_
  refine ok_stop ?_
  refine go_call (some 6) [] Tryz.call60 (cause_New 1 (by first | assumption | omega | (simp only [InK] at *; omega))) (by kernel_rfl) ?_
  rintro v post ⟨rfl, rfl⟩
  refine go_exec (rs := [.tmp 2]) (by kernel_rfl) 4000 [] (o := .ret (.iface 61 (vI 1)) [E33767 b_1 0 0 0 0 0 0 0 0 0]) (by kernel_rfl) ?_
  exact ret_ok (post := []) [] (by kernel_rfl) ⟨rfl, (by kernel_rfl)⟩

noncomputable def B43 : Code := (Tryz.f43.body).getD .skip

theorem plan_Blocks (c : Cfg) (hc : c.Ok) :
    Ctr Tryz.prog 43 #[cfgV c] [] (Ret (vI (c.n0 + c.n1)) []) := by
  refine ctr_of (args := [cfgV c]) (fn := Tryz.f43) (body := B43) (nt := 15) Tryz.func43 (by kernel_rfl) (by kernel_rfl) ?_
  intro F
  refine go_exec (rs := [.tmp 2]) (by kernel_rfl) 4000 [.e 0, .z [0, 0, 1] 1 [1, 3]] (o := .new fun b_1 => .obl (b_1 = b_1) (.stop [.o [0, 0, 1] 1, .c [1, 0, 1], .c [1, 1]] [(1, vP b_1), (3, cfgV c)] [Ee1539 b_1 c])) (by kernel_rfl) ?_
  refine ok_new fun b_1 => ?_
  refine ok_obl rfl ?_
  refine ok_stop ?_
  refine go_call (some 4) [] Tryz.call82 (plan_right c (by first | assumption | omega | (simp only [InK] at *; omega))) (by kernel_rfl) ?_
  rintro v post ⟨rfl, rfl⟩
  refine go_exec (rs := [.tmp 2]) (by kernel_rfl) 4000 [.w, .e 0, .w, .e 0, .n] (o := .obl (b_1 = b_1) (.obl (b_1 = b_1) (.obl (InK .i64 (c.n0 + c.n1)) (.ret (vI (c.n0 + c.n1)) [Ee1539 b_1 c])))) (by kernel_rfl) ?_
  refine ok_obl rfl ?_
  refine ok_obl rfl ?_
  refine ok_obl (by simp only [Cfg.Ok, InK] at *; omega) ?_
  exact ret_ok (post := []) [] (by kernel_rfl) ⟨rfl, (by kernel_rfl)⟩

noncomputable def B42 : Code := (Tryz.f42.body).getD .skip

theorem plan_Head (k : Int) (h : 0 ≤ k ∧ k ≤ 1) :
    Ctr Tryz.prog 42 #[vI k] [] (Ret (vI (3 + k)) []) := by
  refine ctr_of (args := [vI k]) (fn := Tryz.f42) (body := B42) (nt := 11) Tryz.func42 (by kernel_rfl) (by kernel_rfl) ?_
  intro F
  refine go_exec (rs := [.tmp 2]) (by kernel_rfl) 4000 [.sp [5, 4] [.dead] [.sp [8, 7] [.dead] [.n]]] (o := .obl ((decide (k < 0)) = (decide (k < 0))) (.br (decide (k < 0)) (.bad) (.obl ((decide (k > 1)) = (decide (k > 1))) (.br (decide (k > 1)) (.bad) (.obl (InK .i64 (3 + k)) (.ret (vI (3 + k)) [])))))) (by kernel_rfl) ?_
  refine ok_obl rfl ?_
  refine ok_br (fun h => absurd (show (decide (k < 0)) = false from (by simp; omega)) (by rw [h]; simp)) (fun _ => ?_)
  refine ok_obl rfl ?_
  refine ok_br (fun h => absurd (show (decide (k > 1)) = false from (by simp; omega)) (by rw [h]; simp)) (fun _ => ?_)
  refine ok_obl (by simp only [InK] at *; omega) ?_
  exact ret_ok (post := []) [] (by kernel_rfl) ⟨rfl, (by kernel_rfl)⟩

noncomputable def B74 : Code := (Tryz.f74.body).getD .skip

theorem clo_Slot (b : Nat) (i : Int) (hr : 0 ≤ i ∧ i ≤ 100) :
    Ctr Tryz.prog 74 #[vP b] [.pts b [vI i] 3] (Ret (vI (5 + i)) [.pts b [vI i] 3]) := by
  refine ctr_of (args := [vP b]) (fn := Tryz.f74) (body := B74) (nt := 4) Tryz.func74 (by kernel_rfl) (by kernel_rfl) ?_
  intro F
  refine go_exec (rs := [.tmp 1]) (by kernel_rfl) 4000 [.e 0, .n] (o := .obl (b = b) (.obl (InK .i64 (5 + i)) (.ret (vI (5 + i)) [.pts b [vI i] 3]))) (by kernel_rfl) ?_
  refine ok_obl rfl ?_
  refine ok_obl (by simp only [InK] at *; omega) ?_
  exact ret_ok (post := [.pts b [vI i] 3]) [0] (by kernel_rfl) ⟨rfl, (by kernel_rfl)⟩

noncomputable def B54 : Code := (Tryz.f54.body).getD .skip

theorem place_Slot (c : Cfg) (i many : Int) (b : Nat) (hc : c.Ok) (hm : many ≤ 100) :
    Ctr Tryz.prog 54 #[cfgV c, vI i, vI many, .func (.func 74) #[] #[vP b]] [.pts b [vI i] 3] (Ret (vI (if (0 : Int) ≤ i ∧ i < many then (5 + i) else -1)) [.pts b [vI i] 3]) := by
  refine ctr_of (args := [cfgV c, vI i, vI many, .func (.func 74) #[] #[vP b]]) (fn := Tryz.f54) (body := B54) (nt := 23) Tryz.func54 (by kernel_rfl) (by kernel_rfl) ?_
  intro F
  refine go_exec (rs := [.tmp 8]) (by kernel_rfl) 4000 [.e 1, .z [0, 0, 1] 1 [1, 2, 3, 9]] (o := .new fun b_1 => .obl (b_1 = b_1) (.stop [.o [0, 0, 1] 1, .c [1, 0, 1], .c [1, 1]] [(1, vI i), (2, vI many), (3, .func (.func 74) #[] #[vP b]), (9, cfgV c)] [.pts b [vI i] 3, Ee1539 b_1 c])) (by kernel_rfl) ?_
  refine ok_new fun b_1 => ?_
  refine ok_obl rfl ?_
  refine ok_stop ?_
  refine go_call (some 10) [] Tryz.call82 (plan_right c (by first | assumption | omega | (simp only [InK] at *; omega))) (by kernel_rfl) ?_
  rintro v post ⟨rfl, rfl⟩
  refine go_exec (rs := [.tmp 8]) (by kernel_rfl) 4000 [.sp [16, 14, 15] [] [.sp [20, 19] [] [.z [0, 1, 1] 1 [21]]]] (o := .obl ((decide (i < 0)) = (decide (i < 0))) (.obl ((decide (i < 0)) = (decide (i < 0))) (.br (decide (i < 0)) (.ret (vI (-1)) [.pts b [vI i] 3, Ee1539 b_1 c]) (.obl ((decide (i ≥ many)) = (decide (i ≥ many))) (.br (decide (i ≥ many)) (.ret (vI (-1)) [.pts b [vI i] 3, Ee1539 b_1 c]) (.stop [.o [0, 1, 1] 1, .c [1, 1, 1]] [(21, .func (.func 74) #[] #[vP b])] [.pts b [vI i] 3, Ee1539 b_1 c])))))) (by kernel_rfl) ?_
  refine ok_obl rfl ?_
  refine ok_obl rfl ?_
  refine ok_br (fun h_2 => ?_) (fun h_2 => ?_)
  · replace h_2 := decT h_2
    exact ret_ok (post := [.pts b [vI i] 3]) [0] (by kernel_rfl) ⟨(congrArg (Value.int .i64) (by (repeat' split) <;> omega)), (by kernel_rfl)⟩
  · replace h_2 := decF h_2
    refine ok_obl rfl ?_
    refine ok_br (fun h_3 => ?_) (fun h_3 => ?_)
    · replace h_3 := decT h_3
      exact ret_ok (post := [.pts b [vI i] 3]) [0] (by kernel_rfl) ⟨(congrArg (Value.int .i64) (by (repeat' split) <;> omega)), (by kernel_rfl)⟩
    · replace h_3 := decF h_3
      refine ok_stop ?_
      refine go_call (some 22) [0] Tryz.call74 (clo_Slot b i (by simp only [Cfg.Ok] at hc; omega)) (by kernel_rfl) ?_
      rintro v post ⟨rfl, rfl⟩
      refine go_exec (rs := [.tmp 8]) (by kernel_rfl) 4000 [] (o := .ret (vI (5 + i)) [Ee1539 b_1 c, .pts b [vI i] 3]) (by kernel_rfl) ?_
      exact ret_ok (post := [.pts b [vI i] 3]) [1] (by kernel_rfl) ⟨(congrArg (Value.int .i64) (by (repeat' split) <;> omega)), (by kernel_rfl)⟩

noncomputable def B31 : Code := (Tryz.f31.body).getD .skip

theorem plan_Slot (c : Cfg) (i : Int) (hc : c.Ok) :
    Ctr Tryz.prog 31 #[cfgV c, vI i] [] (Ret (vI (slotAt c i)) []) := by
  refine ctr_of (args := [cfgV c, vI i]) (fn := Tryz.f31) (body := B31) (nt := 11) Tryz.func31 (by kernel_rfl) (by kernel_rfl) ?_
  intro F
  refine go_exec (rs := [.tmp 4]) (by kernel_rfl) 4000 [.e 0, .e 1, .e 0, .z [0, 1] 5 [5, 6, 8, 9]] (o := .new fun b_1 => .new fun b_2 => .obl (b_1 = b_1) (.obl (b_2 = b_2) (.obl (b_1 = b_1) (.stop [.o [0, 1] 5, .c [1, 1]] [(5, cfgV c), (6, vI i), (8, vI c.slots), (9, .func (.func 74) #[] #[vP b_2])] [Ee1539 b_1 c, .pts b_2 [vI i] 3])))) (by kernel_rfl) ?_
  refine ok_new fun b_1 => ?_
  refine ok_new fun b_2 => ?_
  refine ok_obl rfl ?_
  refine ok_obl rfl ?_
  refine ok_obl rfl ?_
  refine ok_stop ?_
  refine go_call (some 10) [1] Tryz.call54 (place_Slot c i c.slots b_2 (by first | assumption | omega | (simp only [InK] at *; omega)) (by simp only [Cfg.Ok] at hc; omega)) (by kernel_rfl) ?_
  rintro v post ⟨rfl, rfl⟩
  refine go_exec (rs := [.tmp 4]) (by kernel_rfl) 4000 [] (o := .ret (vI (if (0 : Int) ≤ i ∧ i < c.slots then (5 + i) else -1)) [Ee1539 b_1 c, .pts b_2 [vI i] 3]) (by kernel_rfl) ?_
  exact ret_ok (post := []) [] (by kernel_rfl) ⟨rfl, (by kernel_rfl)⟩

noncomputable def B55 : Code := (Tryz.f55.body).getD .skip

theorem clo_Ctl (c : Cfg) (b b2 : Nat) (i : Int) (hc : c.Ok) (hr : 0 ≤ i ∧ i < c.topics) :
    Ctr Tryz.prog 55 #[vP b, vP b2] [Ee1539 b c, .pts b2 [vI i] 3] (Ret (vI ((5 + c.slots + c.topics) + i * (1 + 2 * c.small))) [Ee1539 b c, .pts b2 [vI i] 3]) := by
  refine ctr_of (args := [vP b, vP b2]) (fn := Tryz.f55) (body := B55) (nt := 15) Tryz.func55 (by kernel_rfl) (by kernel_rfl) ?_
  intro F
  refine go_exec (rs := [.tmp 2]) (by kernel_rfl) 4000 [.e 0, .z [0, 1] 1 [1, 6]] (o := .obl (b = b) (.stop [.o [0, 1] 1, .c [1, 1]] [(1, vP b2), (6, cfgV c)] [Ee1539 b c, .pts b2 [vI i] 3])) (by kernel_rfl) ?_
  refine ok_obl rfl ?_
  refine ok_stop ?_
  refine go_call (some 7) [] Tryz.call56 (plan_cells c (by first | assumption | omega | (simp only [InK] at *; omega))) (by kernel_rfl) ?_
  rintro v post ⟨rfl, rfl⟩
  refine go_exec (rs := [.tmp 2]) (by kernel_rfl) 4000 [.e 1, .n, .n] (o := .obl (b2 = b2) (.obl (InK .i64 (i * (1 + 2 * c.small))) (.obl (InK .i64 ((5 + c.slots + c.topics) + (i * (1 + 2 * c.small)))) (.ret (vI ((5 + c.slots + c.topics) + (i * (1 + 2 * c.small)))) [Ee1539 b c, .pts b2 [vI i] 3])))) (by kernel_rfl) ?_
  refine ok_obl rfl ?_
  refine ok_obl (by have hnl := ctl_nl hc ‹_›; simp only [Cfg.Ok, InK] at *; omega) ?_
  refine ok_obl (by have hnl := ctl_nl hc ‹_›; simp only [Cfg.Ok, InK] at *; omega) ?_
  exact ret_ok (post := [Ee1539 b c, .pts b2 [vI i] 3]) [0, 1] (by kernel_rfl) ⟨rfl, (by kernel_rfl)⟩


theorem place_Ctl (c : Cfg) (i many : Int) (b b2 : Nat) (hc : c.Ok) (hm : many = c.topics) :
    Ctr Tryz.prog 54 #[cfgV c, vI i, vI many, .func (.func 55) #[] #[vP b, vP b2]] [Ee1539 b c, .pts b2 [vI i] 3] (Ret (vI (if (0 : Int) ≤ i ∧ i < many then ((5 + c.slots + c.topics) + i * (1 + 2 * c.small)) else -1)) [Ee1539 b c, .pts b2 [vI i] 3]) := by
  refine ctr_of (args := [cfgV c, vI i, vI many, .func (.func 55) #[] #[vP b, vP b2]]) (fn := Tryz.f54) (body := B54) (nt := 23) Tryz.func54 (by kernel_rfl) (by kernel_rfl) ?_
  intro F
  refine go_exec (rs := [.tmp 8]) (by kernel_rfl) 4000 [.e 2, .z [0, 0, 1] 1 [1, 2, 3, 9]] (o := .new fun b_1 => .obl (b_1 = b_1) (.stop [.o [0, 0, 1] 1, .c [1, 0, 1], .c [1, 1]] [(1, vI i), (2, vI many), (3, .func (.func 55) #[] #[vP b, vP b2]), (9, cfgV c)] [Ee1539 b c, .pts b2 [vI i] 3, Ee1539 b_1 c])) (by kernel_rfl) ?_
  refine ok_new fun b_1 => ?_
  refine ok_obl rfl ?_
  refine ok_stop ?_
  refine go_call (some 10) [] Tryz.call82 (plan_right c (by first | assumption | omega | (simp only [InK] at *; omega))) (by kernel_rfl) ?_
  rintro v post ⟨rfl, rfl⟩
  refine go_exec (rs := [.tmp 8]) (by kernel_rfl) 4000 [.sp [16, 14, 15] [] [.sp [20, 19] [] [.z [0, 1, 1] 1 [21]]]] (o := .obl ((decide (i < 0)) = (decide (i < 0))) (.obl ((decide (i < 0)) = (decide (i < 0))) (.br (decide (i < 0)) (.ret (vI (-1)) [Ee1539 b c, .pts b2 [vI i] 3, Ee1539 b_1 c]) (.obl ((decide (i ≥ many)) = (decide (i ≥ many))) (.br (decide (i ≥ many)) (.ret (vI (-1)) [Ee1539 b c, .pts b2 [vI i] 3, Ee1539 b_1 c]) (.stop [.o [0, 1, 1] 1, .c [1, 1, 1]] [(21, .func (.func 55) #[] #[vP b, vP b2])] [Ee1539 b c, .pts b2 [vI i] 3, Ee1539 b_1 c])))))) (by kernel_rfl) ?_
  refine ok_obl rfl ?_
  refine ok_obl rfl ?_
  refine ok_br (fun h_2 => ?_) (fun h_2 => ?_)
  · replace h_2 := decT h_2
    exact ret_ok (post := [Ee1539 b c, .pts b2 [vI i] 3]) [0, 1] (by kernel_rfl) ⟨(congrArg (Value.int .i64) (by (repeat' split) <;> omega)), (by kernel_rfl)⟩
  · replace h_2 := decF h_2
    refine ok_obl rfl ?_
    refine ok_br (fun h_3 => ?_) (fun h_3 => ?_)
    · replace h_3 := decT h_3
      exact ret_ok (post := [Ee1539 b c, .pts b2 [vI i] 3]) [0, 1] (by kernel_rfl) ⟨(congrArg (Value.int .i64) (by (repeat' split) <;> omega)), (by kernel_rfl)⟩
    · replace h_3 := decF h_3
      refine ok_stop ?_
      refine go_call (some 22) [0, 1] Tryz.call55 (clo_Ctl c b b2 i (by first | assumption | omega | (simp only [InK] at *; omega)) (by simp only [Cfg.Ok] at hc; omega)) (by kernel_rfl) ?_
      rintro v post ⟨rfl, rfl⟩
      refine go_exec (rs := [.tmp 8]) (by kernel_rfl) 4000 [] (o := .ret (vI ((5 + c.slots + c.topics) + i * (1 + 2 * c.small))) [Ee1539 b_1 c, Ee1539 b c, .pts b2 [vI i] 3]) (by kernel_rfl) ?_
      exact ret_ok (post := [Ee1539 b c, .pts b2 [vI i] 3]) [1, 2] (by kernel_rfl) ⟨(congrArg (Value.int .i64) (by (repeat' split) <;> omega)), (by kernel_rfl)⟩

noncomputable def B10 : Code := (Tryz.f10.body).getD .skip

theorem plan_Control (c : Cfg) (i : Int) (hc : c.Ok) :
    Ctr Tryz.prog 10 #[cfgV c, vI i] [] (Ret (vI (ctlAt c i)) []) := by
  refine ctr_of (args := [cfgV c, vI i]) (fn := Tryz.f10) (body := B10) (nt := 11) Tryz.func10 (by kernel_rfl) (by kernel_rfl) ?_
  intro F
  refine go_exec (rs := [.tmp 4]) (by kernel_rfl) 4000 [.e 0, .e 1, .e 0, .z [0, 1] 5 [5, 6, 8, 9]] (o := .new fun b_1 => .new fun b_2 => .obl (b_1 = b_1) (.obl (b_2 = b_2) (.obl (b_1 = b_1) (.stop [.o [0, 1] 5, .c [1, 1]] [(5, cfgV c), (6, vI i), (8, vI c.topics), (9, .func (.func 55) #[] #[vP b_1, vP b_2])] [Ee1539 b_1 c, .pts b_2 [vI i] 3])))) (by kernel_rfl) ?_
  refine ok_new fun b_1 => ?_
  refine ok_new fun b_2 => ?_
  refine ok_obl rfl ?_
  refine ok_obl rfl ?_
  refine ok_obl rfl ?_
  refine ok_stop ?_
  refine go_call (some 10) [0, 1] Tryz.call54 (place_Ctl c i c.topics b_1 b_2 (by first | assumption | omega | (simp only [InK] at *; omega)) rfl) (by kernel_rfl) ?_
  rintro v post ⟨rfl, rfl⟩
  refine go_exec (rs := [.tmp 4]) (by kernel_rfl) 4000 [] (o := .ret (vI (if (0 : Int) ≤ i ∧ i < c.topics then ((5 + c.slots + c.topics) + i * (1 + 2 * c.small)) else -1)) [Ee1539 b_1 c, .pts b_2 [vI i] 3]) (by kernel_rfl) ?_
  exact ret_ok (post := []) [] (by kernel_rfl) ⟨rfl, (by kernel_rfl)⟩

noncomputable def B85 : Code := (Tryz.f85.body).getD .skip

theorem clo_Class (c : Cfg) (b b2 : Nat) (k : Int)  :
    Ctr Tryz.prog 85 #[vP b, vP b2] [.pts b [vI k] 3, Ee1539 b2 c] (Ret (vI (if k ≤ c.n0 then 0 else 1)) [.pts b [vI k] 3, Ee1539 b2 c]) := by
  refine ctr_of (args := [vP b, vP b2]) (fn := Tryz.f85) (body := B85) (nt := 9) Tryz.func85 (by kernel_rfl) (by kernel_rfl) ?_
  intro F
  refine go_exec (rs := [.tmp 2]) (by kernel_rfl) 4000 [.e 0, .w, .e 1, .sp [8] [] []] (o := .obl (b = b) (.obl (b2 = b2) (.br (decide (k ≤ c.n0)) (.ret (vI 0) [.pts b [vI k] 3, Ee1539 b2 c]) (.ret (vI 1) [.pts b [vI k] 3, Ee1539 b2 c])))) (by kernel_rfl) ?_
  refine ok_obl rfl ?_
  refine ok_obl rfl ?_
  refine ok_br (fun h_1 => ?_) (fun h_1 => ?_)
  · replace h_1 := decT h_1
    exact ret_ok (post := [.pts b [vI k] 3, Ee1539 b2 c]) [0, 1] (by kernel_rfl) ⟨(congrArg (Value.int .i64) (by (repeat' split) <;> omega)), (by kernel_rfl)⟩
  · replace h_1 := decF h_1
    exact ret_ok (post := [.pts b [vI k] 3, Ee1539 b2 c]) [0, 1] (by kernel_rfl) ⟨(congrArg (Value.int .i64) (by (repeat' split) <;> omega)), (by kernel_rfl)⟩


theorem place_Class (c : Cfg) (i many : Int) (b b2 : Nat) (k : Int) (hc : c.Ok) :
    Ctr Tryz.prog 54 #[cfgV c, vI i, vI many, .func (.func 85) #[] #[vP b, vP b2]] [.pts b [vI k] 3, Ee1539 b2 c] (Ret (vI (if (0 : Int) ≤ i ∧ i < many then (if k ≤ c.n0 then 0 else 1) else -1)) [.pts b [vI k] 3, Ee1539 b2 c]) := by
  refine ctr_of (args := [cfgV c, vI i, vI many, .func (.func 85) #[] #[vP b, vP b2]]) (fn := Tryz.f54) (body := B54) (nt := 23) Tryz.func54 (by kernel_rfl) (by kernel_rfl) ?_
  intro F
  refine go_exec (rs := [.tmp 8]) (by kernel_rfl) 4000 [.e 2, .z [0, 0, 1] 1 [1, 2, 3, 9]] (o := .new fun b_1 => .obl (b_1 = b_1) (.stop [.o [0, 0, 1] 1, .c [1, 0, 1], .c [1, 1]] [(1, vI i), (2, vI many), (3, .func (.func 85) #[] #[vP b, vP b2]), (9, cfgV c)] [.pts b [vI k] 3, Ee1539 b2 c, Ee1539 b_1 c])) (by kernel_rfl) ?_
  refine ok_new fun b_1 => ?_
  refine ok_obl rfl ?_
  refine ok_stop ?_
  refine go_call (some 10) [] Tryz.call82 (plan_right c (by first | assumption | omega | (simp only [InK] at *; omega))) (by kernel_rfl) ?_
  rintro v post ⟨rfl, rfl⟩
  refine go_exec (rs := [.tmp 8]) (by kernel_rfl) 4000 [.sp [16, 14, 15] [] [.sp [20, 19] [] [.z [0, 1, 1] 1 [21]]]] (o := .obl ((decide (i < 0)) = (decide (i < 0))) (.obl ((decide (i < 0)) = (decide (i < 0))) (.br (decide (i < 0)) (.ret (vI (-1)) [.pts b [vI k] 3, Ee1539 b2 c, Ee1539 b_1 c]) (.obl ((decide (i ≥ many)) = (decide (i ≥ many))) (.br (decide (i ≥ many)) (.ret (vI (-1)) [.pts b [vI k] 3, Ee1539 b2 c, Ee1539 b_1 c]) (.stop [.o [0, 1, 1] 1, .c [1, 1, 1]] [(21, .func (.func 85) #[] #[vP b, vP b2])] [.pts b [vI k] 3, Ee1539 b2 c, Ee1539 b_1 c])))))) (by kernel_rfl) ?_
  refine ok_obl rfl ?_
  refine ok_obl rfl ?_
  refine ok_br (fun h_2 => ?_) (fun h_2 => ?_)
  · replace h_2 := decT h_2
    exact ret_ok (post := [.pts b [vI k] 3, Ee1539 b2 c]) [0, 1] (by kernel_rfl) ⟨(congrArg (Value.int .i64) (by (repeat' split) <;> omega)), (by kernel_rfl)⟩
  · replace h_2 := decF h_2
    refine ok_obl rfl ?_
    refine ok_br (fun h_3 => ?_) (fun h_3 => ?_)
    · replace h_3 := decT h_3
      exact ret_ok (post := [.pts b [vI k] 3, Ee1539 b2 c]) [0, 1] (by kernel_rfl) ⟨(congrArg (Value.int .i64) (by (repeat' split) <;> omega)), (by kernel_rfl)⟩
    · replace h_3 := decF h_3
      refine ok_stop ?_
      refine go_call (some 22) [0, 1] Tryz.call85 (clo_Class c b b2 k) (by kernel_rfl) ?_
      rintro v post ⟨rfl, rfl⟩
      refine go_exec (rs := [.tmp 8]) (by kernel_rfl) 4000 [] (o := .ret (vI (if k ≤ c.n0 then 0 else 1)) [Ee1539 b_1 c, .pts b [vI k] 3, Ee1539 b2 c]) (by kernel_rfl) ?_
      exact ret_ok (post := [.pts b [vI k] 3, Ee1539 b2 c]) [1, 2] (by kernel_rfl) ⟨(congrArg (Value.int .i64) (by (repeat' split) <;> omega)), (by kernel_rfl)⟩

noncomputable def B44 : Code := (Tryz.f44.body).getD .skip

theorem plan_Class (c : Cfg) (k : Int) (hc : c.Ok) (hk : InK .i64 (k - 1)) :
    Ctr Tryz.prog 44 #[cfgV c, vI k] [] (Ret (vI (clsOf c k)) []) := by
  refine ctr_of (args := [cfgV c, vI k]) (fn := Tryz.f44) (body := B44) (nt := 12) Tryz.func44 (by kernel_rfl) (by kernel_rfl) ?_
  intro F
  refine go_exec (rs := [.tmp 4]) (by kernel_rfl) 4000 [.z [0, 1] 0 [2, 3]] (o := .new fun b_1 => .new fun b_2 => .stop [.c [0, 1], .c [1, 1]] [(2, vP b_1), (3, vP b_2)] [Ee1539 b_1 c, .pts b_2 [vI k] 3]) (by kernel_rfl) ?_
  refine ok_new fun b_1 => ?_
  refine ok_new fun b_2 => ?_
  refine ok_stop ?_
  refine go_quiet (tm' := [(4, vI (if (0 : Int) ≤ (k - 1) ∧ (k - 1) < (c.n0 + c.n1) then (if k ≤ c.n0 then 0 else 1) else -1))]) (ps := [b_1 = b_1, b_2 = b_2, InK .i64 (k - 1), b_1 = b_1]) (cs := [(43, #[cfgV c], vI (c.n0 + c.n1)), (54, #[cfgV c, vI (k - 1), vI (c.n0 + c.n1), .func (.func 85) #[] #[vP b_2, vP b_1]], vI (if (0 : Int) ≤ (k - 1) ∧ (k - 1) < (c.n0 + c.n1) then (if k ≤ c.n0 then 0 else 1) else -1))]) [(0, .h (.e 0)), (1, .h (.e 1)), (2, .h (.n)), (3, .h (.e 0)), (4, .q (vI (c.n0 + c.n1))), (5, .h .w), (6, .q (vI (if (0 : Int) ≤ (k - 1) ∧ (k - 1) < (c.n0 + c.n1) then (if k ≤ c.n0 then 0 else 1) else -1))), (7, .h .w)] [4] (by kernel_rfl) (by kernel_rfl) ⟨rfl, rfl, (by simp only [InK] at *; omega), rfl, trivial⟩ ⟨⟨Tryz.call43, quiet_of [] (plan_Blocks c (by first | assumption | omega | (simp only [InK] at *; omega))) (by kernel_rfl) (by rintro v post ⟨rfl, rfl⟩; exact ⟨rfl, rfl⟩)⟩, ⟨Tryz.call54, quiet_of [1, 0] (place_Class c (k - 1) (c.n0 + c.n1) b_2 b_1 k (by first | assumption | omega | (simp only [InK] at *; omega))) (by kernel_rfl) (by rintro v post ⟨rfl, rfl⟩; exact ⟨rfl, rfl⟩)⟩, trivial⟩ ?_
  refine go_exec (rs := [.tmp 4]) (by kernel_rfl) 4000 [] (o := .ret (vI (if (0 : Int) ≤ (k - 1) ∧ (k - 1) < (c.n0 + c.n1) then (if k ≤ c.n0 then 0 else 1) else -1)) [Ee1539 b_1 c, .pts b_2 [vI k] 3]) (by kernel_rfl) ?_
  exact ret_ok (post := []) [] (by kernel_rfl) ⟨rfl, (by kernel_rfl)⟩

noncomputable def B86 : Code := (Tryz.f86.body).getD .skip

theorem clo_Block (c : Cfg) (b b2 : Nat) (k : Int) (hc : c.Ok) (hr : 0 ≤ k - 1 ∧ k - 1 < c.n0 + c.n1) :
    Ctr Tryz.prog 86 #[vP b, vP b2] [Ee1539 b c, .pts b2 [vI k] 3] (Ret (vI (5 + c.slots + c.topics + c.topics * (1 + 2 * c.small) + bMin (k - 1) c.n0 * (1 + c.s0) + (k - 1 - bMin (k - 1) c.n0) * (1 + c.s1))) [Ee1539 b c, .pts b2 [vI k] 3]) := by
  refine ctr_of (args := [vP b, vP b2]) (fn := Tryz.f86) (body := B86) (nt := 44) Tryz.func86 (by kernel_rfl) (by kernel_rfl) ?_
  intro F
  refine go_exec (rs := [.tmp 2]) (by kernel_rfl) 4000 [.e 0, .z [0, 1] 1 [0, 1, 7]] (o := .obl (b = b) (.stop [.o [0, 1] 1, .c [1, 1]] [(0, vP b), (1, vP b2), (7, cfgV c)] [Ee1539 b c, .pts b2 [vI k] 3])) (by kernel_rfl) ?_
  refine ok_obl rfl ?_
  refine ok_stop ?_
  refine go_call (some 8) [] Tryz.call56 (plan_cells c (by first | assumption | omega | (simp only [InK] at *; omega))) (by kernel_rfl) ?_
  rintro v post ⟨rfl, rfl⟩
  refine go_exec (rs := [.tmp 2]) (by kernel_rfl) 4000 [.e 0, .n, .n, .e 1, .n, .w, .e 0, .w, .e 0, .n, .n, .n, .e 1, .n, .n, .w, .e 0, .n, .n, .n] (o := .obl (b = b) (.obl (InK .i64 (c.topics * (1 + 2 * c.small))) (.obl (InK .i64 ((5 + c.slots + c.topics) + (c.topics * (1 + 2 * c.small)))) (.obl (b2 = b2) (.obl (InK .i64 (k - 1)) (.obl (b = b) (.obl (b = b) (.obl (InK .i64 (1 + c.s0)) (.obl (InK .i64 ((bMin (k - 1) c.n0) * (1 + c.s0))) (.obl (InK .i64 (((5 + c.slots + c.topics) + (c.topics * (1 + 2 * c.small))) + ((bMin (k - 1) c.n0) * (1 + c.s0)))) (.obl (b2 = b2) (.obl (InK .i64 (k - 1)) (.obl (InK .i64 ((k - 1) - (bMin (k - 1) c.n0))) (.obl (b = b) (.obl (InK .i64 (1 + c.s1)) (.obl (InK .i64 (((k - 1) - (bMin (k - 1) c.n0)) * (1 + c.s1))) (.obl (InK .i64 ((((5 + c.slots + c.topics) + (c.topics * (1 + 2 * c.small))) + ((bMin (k - 1) c.n0) * (1 + c.s0))) + (((k - 1) - (bMin (k - 1) c.n0)) * (1 + c.s1)))) (.ret (vI ((((5 + c.slots + c.topics) + (c.topics * (1 + 2 * c.small))) + ((bMin (k - 1) c.n0) * (1 + c.s0))) + (((k - 1) - (bMin (k - 1) c.n0)) * (1 + c.s1)))) [Ee1539 b c, .pts b2 [vI k] 3])))))))))))))))))) (by kernel_rfl) ?_
  refine ok_obl rfl ?_
  refine ok_obl (by have hnl := blk_nl hc hr; simp only [Cfg.Ok, InK] at *; omega) ?_
  refine ok_obl (by have hnl := blk_nl hc hr; simp only [Cfg.Ok, InK] at *; omega) ?_
  refine ok_obl rfl ?_
  refine ok_obl (by have hnl := blk_nl hc hr; simp only [Cfg.Ok, InK] at *; omega) ?_
  refine ok_obl rfl ?_
  refine ok_obl rfl ?_
  refine ok_obl (by have hnl := blk_nl hc hr; simp only [Cfg.Ok, InK] at *; omega) ?_
  refine ok_obl (by have hnl := blk_nl hc hr; simp only [Cfg.Ok, InK] at *; omega) ?_
  refine ok_obl (by have hnl := blk_nl hc hr; simp only [Cfg.Ok, InK] at *; omega) ?_
  refine ok_obl rfl ?_
  refine ok_obl (by have hnl := blk_nl hc hr; simp only [Cfg.Ok, InK] at *; omega) ?_
  refine ok_obl (by have hnl := blk_nl hc hr; simp only [Cfg.Ok, InK] at *; omega) ?_
  refine ok_obl rfl ?_
  refine ok_obl (by have hnl := blk_nl hc hr; simp only [Cfg.Ok, InK] at *; omega) ?_
  refine ok_obl (by have hnl := blk_nl hc hr; simp only [Cfg.Ok, InK] at *; omega) ?_
  refine ok_obl (by have hnl := blk_nl hc hr; simp only [Cfg.Ok, InK] at *; omega) ?_
  exact ret_ok (post := [Ee1539 b c, .pts b2 [vI k] 3]) [0, 1] (by kernel_rfl) ⟨rfl, (by kernel_rfl)⟩


theorem place_Block (c : Cfg) (i many : Int) (b b2 : Nat) (k : Int) (hc : c.Ok) (hm : many = c.n0 + c.n1) (hi : i = k - 1) :
    Ctr Tryz.prog 54 #[cfgV c, vI i, vI many, .func (.func 86) #[] #[vP b, vP b2]] [Ee1539 b c, .pts b2 [vI k] 3] (Ret (vI (if (0 : Int) ≤ i ∧ i < many then (5 + c.slots + c.topics + c.topics * (1 + 2 * c.small) + bMin (k - 1) c.n0 * (1 + c.s0) + (k - 1 - bMin (k - 1) c.n0) * (1 + c.s1)) else -1)) [Ee1539 b c, .pts b2 [vI k] 3]) := by
  refine ctr_of (args := [cfgV c, vI i, vI many, .func (.func 86) #[] #[vP b, vP b2]]) (fn := Tryz.f54) (body := B54) (nt := 23) Tryz.func54 (by kernel_rfl) (by kernel_rfl) ?_
  intro F
  refine go_exec (rs := [.tmp 8]) (by kernel_rfl) 4000 [.e 2, .z [0, 0, 1] 1 [1, 2, 3, 9]] (o := .new fun b_1 => .obl (b_1 = b_1) (.stop [.o [0, 0, 1] 1, .c [1, 0, 1], .c [1, 1]] [(1, vI i), (2, vI many), (3, .func (.func 86) #[] #[vP b, vP b2]), (9, cfgV c)] [Ee1539 b c, .pts b2 [vI k] 3, Ee1539 b_1 c])) (by kernel_rfl) ?_
  refine ok_new fun b_1 => ?_
  refine ok_obl rfl ?_
  refine ok_stop ?_
  refine go_call (some 10) [] Tryz.call82 (plan_right c (by first | assumption | omega | (simp only [InK] at *; omega))) (by kernel_rfl) ?_
  rintro v post ⟨rfl, rfl⟩
  refine go_exec (rs := [.tmp 8]) (by kernel_rfl) 4000 [.sp [16, 14, 15] [] [.sp [20, 19] [] [.z [0, 1, 1] 1 [21]]]] (o := .obl ((decide (i < 0)) = (decide (i < 0))) (.obl ((decide (i < 0)) = (decide (i < 0))) (.br (decide (i < 0)) (.ret (vI (-1)) [Ee1539 b c, .pts b2 [vI k] 3, Ee1539 b_1 c]) (.obl ((decide (i ≥ many)) = (decide (i ≥ many))) (.br (decide (i ≥ many)) (.ret (vI (-1)) [Ee1539 b c, .pts b2 [vI k] 3, Ee1539 b_1 c]) (.stop [.o [0, 1, 1] 1, .c [1, 1, 1]] [(21, .func (.func 86) #[] #[vP b, vP b2])] [Ee1539 b c, .pts b2 [vI k] 3, Ee1539 b_1 c])))))) (by kernel_rfl) ?_
  refine ok_obl rfl ?_
  refine ok_obl rfl ?_
  refine ok_br (fun h_2 => ?_) (fun h_2 => ?_)
  · replace h_2 := decT h_2
    exact ret_ok (post := [Ee1539 b c, .pts b2 [vI k] 3]) [0, 1] (by kernel_rfl) ⟨(congrArg (Value.int .i64) (by (repeat' split) <;> omega)), (by kernel_rfl)⟩
  · replace h_2 := decF h_2
    refine ok_obl rfl ?_
    refine ok_br (fun h_3 => ?_) (fun h_3 => ?_)
    · replace h_3 := decT h_3
      exact ret_ok (post := [Ee1539 b c, .pts b2 [vI k] 3]) [0, 1] (by kernel_rfl) ⟨(congrArg (Value.int .i64) (by (repeat' split) <;> omega)), (by kernel_rfl)⟩
    · replace h_3 := decF h_3
      refine ok_stop ?_
      refine go_call (some 22) [0, 1] Tryz.call86 (clo_Block c b b2 k (by first | assumption | omega | (simp only [InK] at *; omega)) (by simp only [Cfg.Ok] at hc; omega)) (by kernel_rfl) ?_
      rintro v post ⟨rfl, rfl⟩
      refine go_exec (rs := [.tmp 8]) (by kernel_rfl) 4000 [] (o := .ret (vI (5 + c.slots + c.topics + c.topics * (1 + 2 * c.small) + bMin (k - 1) c.n0 * (1 + c.s0) + (k - 1 - bMin (k - 1) c.n0) * (1 + c.s1))) [Ee1539 b_1 c, Ee1539 b c, .pts b2 [vI k] 3]) (by kernel_rfl) ?_
      exact ret_ok (post := [Ee1539 b c, .pts b2 [vI k] 3]) [1, 2] (by kernel_rfl) ⟨(congrArg (Value.int .i64) (by (repeat' split) <;> omega)), (by kernel_rfl)⟩

noncomputable def B45 : Code := (Tryz.f45.body).getD .skip

theorem plan_Block (c : Cfg) (k : Int) (hc : c.Ok) (hk : InK .i64 (k - 1)) :
    Ctr Tryz.prog 45 #[cfgV c, vI k] [] (Ret (vI (blockAt c k)) []) := by
  refine ctr_of (args := [cfgV c, vI k]) (fn := Tryz.f45) (body := B45) (nt := 12) Tryz.func45 (by kernel_rfl) (by kernel_rfl) ?_
  intro F
  refine go_exec (rs := [.tmp 4]) (by kernel_rfl) 4000 [.z [0, 1] 0 [2, 3]] (o := .new fun b_1 => .new fun b_2 => .stop [.c [0, 1], .c [1, 1]] [(2, vP b_1), (3, vP b_2)] [Ee1539 b_1 c, .pts b_2 [vI k] 3]) (by kernel_rfl) ?_
  refine ok_new fun b_1 => ?_
  refine ok_new fun b_2 => ?_
  refine ok_stop ?_
  refine go_quiet (tm' := [(4, vI (if (0 : Int) ≤ (k - 1) ∧ (k - 1) < (c.n0 + c.n1) then (5 + c.slots + c.topics + c.topics * (1 + 2 * c.small) + bMin (k - 1) c.n0 * (1 + c.s0) + (k - 1 - bMin (k - 1) c.n0) * (1 + c.s1)) else -1))]) (ps := [b_1 = b_1, b_2 = b_2, InK .i64 (k - 1), b_1 = b_1]) (cs := [(43, #[cfgV c], vI (c.n0 + c.n1)), (54, #[cfgV c, vI (k - 1), vI (c.n0 + c.n1), .func (.func 86) #[] #[vP b_1, vP b_2]], vI (if (0 : Int) ≤ (k - 1) ∧ (k - 1) < (c.n0 + c.n1) then (5 + c.slots + c.topics + c.topics * (1 + 2 * c.small) + bMin (k - 1) c.n0 * (1 + c.s0) + (k - 1 - bMin (k - 1) c.n0) * (1 + c.s1)) else -1))]) [(0, .h (.e 0)), (1, .h (.e 1)), (2, .h (.n)), (3, .h (.e 0)), (4, .q (vI (c.n0 + c.n1))), (5, .h .w), (6, .q (vI (if (0 : Int) ≤ (k - 1) ∧ (k - 1) < (c.n0 + c.n1) then (5 + c.slots + c.topics + c.topics * (1 + 2 * c.small) + bMin (k - 1) c.n0 * (1 + c.s0) + (k - 1 - bMin (k - 1) c.n0) * (1 + c.s1)) else -1))), (7, .h .w)] [4] (by kernel_rfl) (by kernel_rfl) ⟨rfl, rfl, (by simp only [InK] at *; omega), rfl, trivial⟩ ⟨⟨Tryz.call43, quiet_of [] (plan_Blocks c (by first | assumption | omega | (simp only [InK] at *; omega))) (by kernel_rfl) (by rintro v post ⟨rfl, rfl⟩; exact ⟨rfl, rfl⟩)⟩, ⟨Tryz.call54, quiet_of [0, 1] (place_Block c (k - 1) (c.n0 + c.n1) b_1 b_2 k (by first | assumption | omega | (simp only [InK] at *; omega)) rfl rfl) (by kernel_rfl) (by rintro v post ⟨rfl, rfl⟩; exact ⟨rfl, rfl⟩)⟩, trivial⟩ ?_
  refine go_exec (rs := [.tmp 4]) (by kernel_rfl) 4000 [] (o := .ret (vI (if (0 : Int) ≤ (k - 1) ∧ (k - 1) < (c.n0 + c.n1) then (5 + c.slots + c.topics + c.topics * (1 + 2 * c.small) + bMin (k - 1) c.n0 * (1 + c.s0) + (k - 1 - bMin (k - 1) c.n0) * (1 + c.s1)) else -1)) [Ee1539 b_1 c, .pts b_2 [vI k] 3]) (by kernel_rfl) ?_
  exact ret_ok (post := []) [] (by kernel_rfl) ⟨rfl, (by kernel_rfl)⟩

noncomputable def B99 : Code := (Tryz.f99.body).getD .skip

theorem clo_Load (aw : Option Addr) (cw : Nat) (ws : List Int) (j b : Nat) (v0 : Int) (hj : j < ws.length) :
    Ctr Tryz.prog 99 #[slAt aw j 1, vP b] [E7a681 aw cw ws, .pts b [vU v0] 42] (Ret (.bool false) [E7a681 aw cw ws, .pts b [vU (ws.getD j 0)] 42]) := by
  refine ctr_of (args := [slAt aw j 1, vP b]) (fn := Tryz.f99) (body := B99) (nt := 7) Tryz.func99 (by kernel_rfl) (by kernel_rfl) ?_
  intro F
  refine go_exec (rs := [.tmp 3]) (by kernel_rfl) 4000 [.j 0 j, .e 1] (o := .obl (slAt aw j 1 = slAt aw j 1) (.obl (j < ws.length) (.obl (b = b) (.ret (.bool false) [E7a681 aw cw ws, .pts b [vU (ws.getD j 0)] 42])))) (by kernel_rfl) ?_
  refine ok_obl rfl ?_
  refine ok_obl (by first | omega | (simp; done) | (simp; omega)) ?_
  refine ok_obl rfl ?_
  exact ret_ok (post := [E7a681 aw cw ws, .pts b [vU (ws.getD j 0)] 42]) [0, 1] (by kernel_rfl) ⟨rfl, (by kernel_rfl)⟩

noncomputable def B53 : Code := (Tryz.f53.body).getD .skip

theorem clo_Store (aw : Option Addr) (cw : Nat) (ws : List Int) (j b : Nat) (v0 : Int) (hj : j < ws.length) :
    Ctr Tryz.prog 53 #[slAt aw j 1, vP b] [E7a681 aw cw ws, .pts b [vU v0] 42] (Ret (.bool true) [E7a681 aw cw (ws.set j v0), .pts b [vU v0] 42]) := by
  refine ctr_of (args := [slAt aw j 1, vP b]) (fn := Tryz.f53) (body := B53) (nt := 7) Tryz.func53 (by kernel_rfl) (by kernel_rfl) ?_
  intro F
  refine go_exec (rs := [.tmp 3]) (by kernel_rfl) 4000 [.e 1, .j 0 j] (o := .obl (b = b) (.obl (slAt aw j 1 = slAt aw j 1) (.obl (j < ws.length) (.ex fun x_1 : Int => .obl ([vU v0] = (encI .u64) x_1) (.ret (.bool true) [E7a681 aw cw (ws.set j x_1), .pts b [vU v0] 42]))))) (by kernel_rfl) ?_
  refine ok_obl rfl ?_
  refine ok_obl rfl ?_
  refine ok_obl (by first | omega | (simp; done) | (simp; omega)) ?_
  refine ok_ex (v0 : Int) ?_
  refine ok_obl rfl ?_
  exact ret_ok (post := [E7a681 aw cw (ws.set j v0), .pts b [vU v0] 42]) [0, 1] (by kernel_rfl) ⟨rfl, (by kernel_rfl)⟩

noncomputable def B88 : Code := (Tryz.f88.body).getD .skip

theorem atomic_Add (ba : Nat) (sa : Option Addr) (sn sc : Nat) (s k1 k2 k3 : Int) (k4 : Bool) (d : Int) (h : InK .i64 (s + d)) :
    Ctr Tryz.prog 88 #[.pointer (some ⟨ba, 1, none⟩), vI d] [Ef994c ba sa sn sc s k1 k2 k3 k4] (Ret (vI (s + d)) [Ef994c ba sa sn sc (s + d) k1 k2 k3 k4]) := by
  refine ctr_of (args := [.pointer (some ⟨ba, 1, none⟩), vI d]) (fn := Tryz.f88) (body := B88) (nt := 10) Tryz.func88 (by kernel_rfl) (by kernel_rfl) ?_
  intro F
  refine go_exec (rs := [.tmp 4]) (by kernel_rfl) 4000 [.z [0, 1] 4 [7, 8]] (o := .stop [.o [0, 1] 4, .c [1, 1]] [(7, .pointer (some ⟨ba, 1, none⟩)), (8, vI d)] [Ef994c ba sa sn sc s k1 k2 k3 k4]) (by kernel_rfl) ?_
  refine ok_stop ?_
  refine go_extern (some 9) (f := 105) (args := #[.pointer (some ⟨ba, 1, none⟩), vI d]) (by kernel_rfl) (ext_add Tryz.func105 (by kernel_rfl) (by kernel_rfl) (by kernel_rfl) .i64 (by kernel_rfl)  (L := [Ef994c ba sa sn sc s k1 k2 k3 k4]) (i := 0) (b := ba) (off := 1) (cs := [.slice sa sn sc, vI s, vI k1, vI k2, vU k3, .bool k4, .nilIface]) (t := 115) (x := s) (y := d) (by kernel_rfl) (by kernel_rfl) (by simp only [InK] at *; omega)) ?_
  rintro v L2 ⟨rfl, rfl⟩
  refine go_exec (rs := [.tmp 4]) (by kernel_rfl) 4000 [] (o := .ret (vI (s + d)) [Ef994c ba sa sn sc (s + d) k1 k2 k3 k4]) (by kernel_rfl) ?_
  exact ret_ok (post := [Ef994c ba sa sn sc (s + d) k1 k2 k3 k4]) [0] (by kernel_rfl) ⟨rfl, (by kernel_rfl)⟩

noncomputable def B66 : Code := (Tryz.f66.body).getD .skip

theorem atomic_Load (ba : Nat) (sa : Option Addr) (sn sc : Nat) (s k1 k2 k3 : Int) (k4 : Bool)  :
    Ctr Tryz.prog 66 #[.pointer (some ⟨ba, 1, none⟩)] [Ef994c ba sa sn sc s k1 k2 k3 k4] (Ret (vI s) [Ef994c ba sa sn sc s k1 k2 k3 k4]) := by
  refine ctr_of (args := [.pointer (some ⟨ba, 1, none⟩)]) (fn := Tryz.f66) (body := B66) (nt := 7) Tryz.func66 (by kernel_rfl) (by kernel_rfl) ?_
  intro F
  refine go_exec (rs := [.tmp 2]) (by kernel_rfl) 4000 [.z [0, 1] 3 [5]] (o := .stop [.o [0, 1] 3, .c [1, 1]] [(5, .pointer (some ⟨ba, 1, none⟩))] [Ef994c ba sa sn sc s k1 k2 k3 k4]) (by kernel_rfl) ?_
  refine ok_stop ?_
  refine go_extern (some 6) (f := 93) (args := #[.pointer (some ⟨ba, 1, none⟩)]) (by kernel_rfl) (ext_load Tryz.func93 (by kernel_rfl) (by kernel_rfl) (by kernel_rfl) .i64 (by kernel_rfl)  (L := [Ef994c ba sa sn sc s k1 k2 k3 k4]) (i := 0) (b := ba) (off := 1) (cs := [.slice sa sn sc, vI s, vI k1, vI k2, vU k3, .bool k4, .nilIface]) (t := 115) (x := s) (by kernel_rfl) (by kernel_rfl)) ?_
  rintro v L2 ⟨rfl, rfl⟩
  refine go_exec (rs := [.tmp 2]) (by kernel_rfl) 4000 [] (o := .ret (vI s) [Ef994c ba sa sn sc s k1 k2 k3 k4]) (by kernel_rfl) ?_
  exact ret_ok (post := [Ef994c ba sa sn sc s k1 k2 k3 k4]) [0] (by kernel_rfl) ⟨rfl, (by kernel_rfl)⟩

noncomputable def B52 : Code := (Tryz.f52.body).getD .skip

theorem step_Load (ba : Nat) (A : Ar) (i : Int) (b : Nat) (v0 : Int) (hn : A.ws.length = A.n) (hi : 0 ≤ i ∧ i < A.n) (hs : 0 ≤ A.steps ∧ A.steps ≤ 1000000000) :
    Ctr Tryz.prog 52 #[vP ba, vI 1, vI i, .func (.func 99) #[] #[vP b]] [E21626 ba A, E671ef A, .pts b [vU v0] 42] (Ret (.bool false) [E21626 ba (A.load i), E671ef (A.load i), .pts b [vU (A.ws.getD i.toNat 0)] 42]) := by
  refine ctr_of (args := [vP ba, vI 1, vI i, .func (.func 99) #[] #[vP b]]) (fn := Tryz.f52) (body := B52) (nt := 71) Tryz.func52 (by kernel_rfl) (by kernel_rfl) ?_
  intro F
  refine go_exec (rs := [.tmp 8]) (by kernel_rfl) 4000 [.z [0, 1, 1] 3 [0, 1, 2, 3, 13]] (o := .stop [.o [0, 1, 1] 3, .c [1, 1, 1]] [(0, vP ba), (1, vI 1), (2, vI i), (3, .func (.func 99) #[] #[vP b]), (13, .pointer (some ⟨ba, 1, none⟩))] [E21626 ba A, E671ef A, .pts b [vU v0] 42]) (by kernel_rfl) ?_
  refine ok_stop ?_
  refine go_call (some 14) [0] Tryz.call88 (atomic_Add ba A.aw A.n A.cw A.steps A.lk A.lw A.lv A.lc 1 (by first | assumption | omega | (simp only [InK] at *; omega))) (by kernel_rfl) ?_
  rintro v post ⟨rfl, rfl⟩
  refine go_exec (rs := [.tmp 8]) (by kernel_rfl) 4000 [.e 2, .sp [23, 22] [.dead] [.e 2, .sp [31, 30] [.dead] [.e 2, .s 0, .z [0, 1, 1, 1, 1, 1] 8 [0, 2, 43, 44, 50]]]] (o := .obl (ba = ba) (.obl ((decide (i < 0)) = (decide (i < 0))) (.br (decide (i < 0)) (.bad) (.obl (ba = ba) (.obl ((decide (i ≥ ((A.n : Nat) : Int))) = (decide (i ≥ ((A.n : Nat) : Int)))) (.br (decide (i ≥ ((A.n : Nat) : Int))) (.bad) (.obl (ba = ba) (.obl (A.aw = A.aw ∧ A.n = A.ws.length) (.obl ((0 : Int) ≤ i ∧ i < ((A.ws.length : Nat) : Int)) (.stop [.o [0, 1, 1, 1, 1, 1] 8, .c [1, 1, 1, 1, 1, 1]] [(0, vP ba), (2, vI i), (43, vP ba), (44, .func (.func 99) #[] #[vP b]), (50, slAt A.aw i.toNat 1)] [E671ef A, .pts b [vU v0] 42, E55b74 ba A (A.steps + 1) 1 i 0 false])))))))))) (by kernel_rfl) ?_
  refine ok_obl rfl ?_
  refine ok_obl rfl ?_
  refine ok_br (fun h => absurd (show (decide (i < 0)) = false from (by simp; omega)) (by rw [h]; simp)) (fun _ => ?_)
  refine ok_obl rfl ?_
  refine ok_obl rfl ?_
  refine ok_br (fun h => absurd (show (decide (i ≥ ((A.n : Nat) : Int))) = false from (by simp; omega)) (by rw [h]; simp)) (fun _ => ?_)
  refine ok_obl rfl ?_
  refine ok_obl ⟨rfl, (by first | rfl | omega | (simp; done) | (simp; omega))⟩ ?_
  refine ok_obl (by first | omega | (simp; omega)) ?_
  refine ok_stop ?_
  refine go_call (some 51) [0, 1] Tryz.call99 (clo_Load A.aw A.cw A.ws i.toNat b v0 (by first | assumption | omega | (simp only [InK] at *; omega))) (by kernel_rfl) ?_
  rintro v post ⟨rfl, rfl⟩
  refine go_exec (rs := [.tmp 8]) (by kernel_rfl) 4000 [.e 0, .e 0, .s 1, .j 1 i.toNat, .e 0, .e 0] (o := .obl (ba = ba) (.obl (ba = ba) (.obl (A.aw = A.aw ∧ A.n = A.ws.length) (.obl ((0 : Int) ≤ i ∧ i < ((A.ws.length : Nat) : Int)) (.obl (slAt A.aw i.toNat 1 = slAt A.aw i.toNat 1) (.obl (i.toNat < A.ws.length) (.obl (ba = ba) (.obl (ba = ba) (.ret (.bool false) [E55b74 ba A (A.steps + 1) 1 i (A.ws.getD i.toNat 0) false, E671ef A, .pts b [vU (A.ws.getD i.toNat 0)] 42]))))))))) (by kernel_rfl) ?_
  refine ok_obl rfl ?_
  refine ok_obl rfl ?_
  refine ok_obl ⟨rfl, (by first | rfl | omega | (simp; done) | (simp; omega))⟩ ?_
  refine ok_obl (by first | omega | (simp; omega)) ?_
  refine ok_obl rfl ?_
  refine ok_obl (by first | omega | (simp; omega)) ?_
  refine ok_obl rfl ?_
  refine ok_obl rfl ?_
  exact ret_ok (post := [E55b74 ba A (A.steps + 1) 1 i (A.ws.getD i.toNat 0) false, E671ef A, .pts b [vU (A.ws.getD i.toNat 0)] 42]) [0, 1, 2] (by kernel_rfl) ⟨rfl, (by kernel_rfl)⟩


theorem step_Store (ba : Nat) (A : Ar) (i : Int) (b : Nat) (v0 : Int) (hn : A.ws.length = A.n) (hi : 0 ≤ i ∧ i < A.n) (hs : 0 ≤ A.steps ∧ A.steps ≤ 1000000000) :
    Ctr Tryz.prog 52 #[vP ba, vI 2, vI i, .func (.func 53) #[] #[vP b]] [E21626 ba A, E671ef A, .pts b [vU v0] 42] (Ret (.bool true) [E21626 ba (A.store i v0), E671ef (A.store i v0), .pts b [vU v0] 42]) := by
  refine ctr_of (args := [vP ba, vI 2, vI i, .func (.func 53) #[] #[vP b]]) (fn := Tryz.f52) (body := B52) (nt := 71) Tryz.func52 (by kernel_rfl) (by kernel_rfl) ?_
  intro F
  refine go_exec (rs := [.tmp 8]) (by kernel_rfl) 4000 [.z [0, 1, 1] 3 [0, 1, 2, 3, 13]] (o := .stop [.o [0, 1, 1] 3, .c [1, 1, 1]] [(0, vP ba), (1, vI 2), (2, vI i), (3, .func (.func 53) #[] #[vP b]), (13, .pointer (some ⟨ba, 1, none⟩))] [E21626 ba A, E671ef A, .pts b [vU v0] 42]) (by kernel_rfl) ?_
  refine ok_stop ?_
  refine go_call (some 14) [0] Tryz.call88 (atomic_Add ba A.aw A.n A.cw A.steps A.lk A.lw A.lv A.lc 1 (by first | assumption | omega | (simp only [InK] at *; omega))) (by kernel_rfl) ?_
  rintro v post ⟨rfl, rfl⟩
  refine go_exec (rs := [.tmp 8]) (by kernel_rfl) 4000 [.e 2, .sp [23, 22] [.dead] [.e 2, .sp [31, 30] [.dead] [.e 2, .s 0, .z [0, 1, 1, 1, 1, 1] 8 [0, 2, 43, 44, 50]]]] (o := .obl (ba = ba) (.obl ((decide (i < 0)) = (decide (i < 0))) (.br (decide (i < 0)) (.bad) (.obl (ba = ba) (.obl ((decide (i ≥ ((A.n : Nat) : Int))) = (decide (i ≥ ((A.n : Nat) : Int)))) (.br (decide (i ≥ ((A.n : Nat) : Int))) (.bad) (.obl (ba = ba) (.obl (A.aw = A.aw ∧ A.n = A.ws.length) (.obl ((0 : Int) ≤ i ∧ i < ((A.ws.length : Nat) : Int)) (.stop [.o [0, 1, 1, 1, 1, 1] 8, .c [1, 1, 1, 1, 1, 1]] [(0, vP ba), (2, vI i), (43, vP ba), (44, .func (.func 53) #[] #[vP b]), (50, slAt A.aw i.toNat 1)] [E671ef A, .pts b [vU v0] 42, E55b74 ba A (A.steps + 1) 2 i 0 false])))))))))) (by kernel_rfl) ?_
  refine ok_obl rfl ?_
  refine ok_obl rfl ?_
  refine ok_br (fun h => absurd (show (decide (i < 0)) = false from (by simp; omega)) (by rw [h]; simp)) (fun _ => ?_)
  refine ok_obl rfl ?_
  refine ok_obl rfl ?_
  refine ok_br (fun h => absurd (show (decide (i ≥ ((A.n : Nat) : Int))) = false from (by simp; omega)) (by rw [h]; simp)) (fun _ => ?_)
  refine ok_obl rfl ?_
  refine ok_obl ⟨rfl, (by first | rfl | omega | (simp; done) | (simp; omega))⟩ ?_
  refine ok_obl (by first | omega | (simp; omega)) ?_
  refine ok_stop ?_
  refine go_call (some 51) [0, 1] Tryz.call53 (clo_Store A.aw A.cw A.ws i.toNat b v0 (by first | assumption | omega | (simp only [InK] at *; omega))) (by kernel_rfl) ?_
  rintro v post ⟨rfl, rfl⟩
  refine go_exec (rs := [.tmp 8]) (by kernel_rfl) 4000 [.e 0, .e 0, .s 1, .j 1 i.toNat, .e 0, .e 0] (o := .obl (ba = ba) (.obl (ba = ba) (.obl (A.aw = A.aw ∧ A.n = (A.ws.set i.toNat v0).length) (.obl ((0 : Int) ≤ i ∧ i < (((A.ws.set i.toNat v0).length : Nat) : Int)) (.obl (slAt A.aw i.toNat 1 = slAt A.aw i.toNat 1) (.obl (i.toNat < (A.ws.set i.toNat v0).length) (.obl (ba = ba) (.obl (ba = ba) (.ret (.bool true) [E55b74 ba A (A.steps + 1) 2 i ((A.ws.set i.toNat v0).getD i.toNat 0) true, E4b293 A (A.ws.set i.toNat v0), .pts b [vU v0] 42]))))))))) (by kernel_rfl) ?_
  refine ok_obl rfl ?_
  refine ok_obl rfl ?_
  refine ok_obl ⟨rfl, (by first | rfl | omega | (simp; done) | (simp; omega))⟩ ?_
  refine ok_obl (by first | omega | (simp; omega)) ?_
  refine ok_obl rfl ?_
  refine ok_obl (by first | omega | (simp; omega)) ?_
  refine ok_obl rfl ?_
  refine ok_obl rfl ?_
  exact ret_ok (post := [E55b74 ba A (A.steps + 1) 2 i ((A.ws.set i.toNat v0).getD i.toNat 0) true, E4b293 A (A.ws.set i.toNat v0), .pts b [vU v0] 42]) [0, 1, 2] (by kernel_rfl) ⟨rfl, (by kernel_rfl)⟩

noncomputable def B76 : Code := (Tryz.f76.body).getD .skip

theorem arena_Load (ba : Nat) (A : Ar) (i : Int) (hn : A.ws.length = A.n) (hi : 0 ≤ i ∧ i < A.n) (hs : 0 ≤ A.steps ∧ A.steps ≤ 1000000000) :
    Ctr Tryz.prog 76 #[vP ba, vI i] [E21626 ba A, E671ef A] (Ret (vU (A.ws.getD i.toNat 0)) [E21626 ba (A.load i), E671ef (A.load i)]) := by
  refine ctr_of (args := [vP ba, vI i]) (fn := Tryz.f76) (body := B76) (nt := 10) Tryz.func76 (by kernel_rfl) (by kernel_rfl) ?_
  intro F
  refine go_exec (rs := [.cell 4 42]) (by kernel_rfl) 4000 [.z [0, 1] 3 [4, 5, 6, 7]] (o := .new fun b_1 => .stop [.o [0, 1] 3, .c [1, 1]] [(4, vP b_1), (5, vP ba), (6, vI i), (7, .func (.func 99) #[] #[vP b_1])] [E21626 ba A, E671ef A, .pts b_1 [vU 0] 42]) (by kernel_rfl) ?_
  refine ok_new fun b_1 => ?_
  refine ok_stop ?_
  refine go_call (some 8) [0, 1, 2] Tryz.call52 (step_Load ba A i b_1 0 (by first | assumption | omega | (simp only [InK] at *; omega)) (by first | assumption | omega | (simp only [InK] at *; omega)) (by first | assumption | omega | (simp only [InK] at *; omega))) (by kernel_rfl) ?_
  rintro v post ⟨rfl, rfl⟩
  refine go_exec (rs := [.cell 4 42]) (by kernel_rfl) 4000 [.e 2, .e 2, .e 2] (o := .obl (b_1 = b_1) (.obl (b_1 = b_1) (.obl (b_1 = b_1) (.ret (vU (A.ws.getD i.toNat 0)) [E21626 ba (A.load i), E671ef (A.load i), .pts b_1 [vU (A.ws.getD i.toNat 0)] 42])))) (by kernel_rfl) ?_
  refine ok_obl rfl ?_
  refine ok_obl rfl ?_
  refine ok_obl rfl ?_
  exact ret_ok (post := [E21626 ba (A.load i), E671ef (A.load i)]) [0, 1] (by kernel_rfl) ⟨rfl, (by kernel_rfl)⟩

noncomputable def B9 : Code := (Tryz.f9.body).getD .skip

theorem arena_Store (ba : Nat) (A : Ar) (i v : Int) (hn : A.ws.length = A.n) (hi : 0 ≤ i ∧ i < A.n) (hs : 0 ≤ A.steps ∧ A.steps ≤ 1000000000) :
    Ctr Tryz.prog 9 #[vP ba, vI i, vU v] [E21626 ba A, E671ef A] (Ret (undef) [E21626 ba (A.store i v), E671ef (A.store i v)]) := by
  refine ctr_of (args := [vP ba, vI i, vU v]) (fn := Tryz.f9) (body := B9) (nt := 10) Tryz.func9 (by kernel_rfl) (by kernel_rfl) ?_
  intro F
  refine go_exec (rs := []) (by kernel_rfl) 4000 [.z [1] 3 [6, 7, 8]] (o := .new fun b_1 => .stop [.o [1] 3] [(6, vP ba), (7, vI i), (8, .func (.func 53) #[] #[vP b_1])] [E21626 ba A, E671ef A, .pts b_1 [vU v] 42]) (by kernel_rfl) ?_
  refine ok_new fun b_1 => ?_
  refine ok_stop ?_
  refine go_call (some 9) [0, 1, 2] Tryz.call52 (step_Store ba A i b_1 v (by first | assumption | omega | (simp only [InK] at *; omega)) (by first | assumption | omega | (simp only [InK] at *; omega)) (by first | assumption | omega | (simp only [InK] at *; omega))) (by kernel_rfl) ?_
  rintro v post ⟨rfl, rfl⟩
  refine go_exec (rs := []) (by kernel_rfl) 4000 [] (o := .ret (undef) [E21626 ba (A.store i v), E671ef (A.store i v), .pts b_1 [vU v] 42]) (by kernel_rfl) ?_
  exact ret_ok (post := [E21626 ba (A.store i v), E671ef (A.store i v)]) [0, 1] (by kernel_rfl) ⟨rfl, (by kernel_rfl)⟩

noncomputable def B125 : Code := (Tryz.f125.body).getD .skip

theorem clo_SwapT (aw : Option Addr) (cw : Nat) (ws : List Int) (j b b2 : Nat) (old new : Int) (hj : j < ws.length) (hw : ws.getD j 0 = old) :
    Ctr Tryz.prog 125 #[slAt aw j 1, vP b, vP b2] [E7a681 aw cw ws, .pts b [vU old] 42, .pts b2 [vU new] 42] (Ret (.bool true) [E7a681 aw cw (ws.set j new), .pts b [vU old] 42, .pts b2 [vU new] 42]) := by
  refine ctr_of (args := [slAt aw j 1, vP b, vP b2]) (fn := Tryz.f125) (body := B125) (nt := 13) Tryz.func125 (by kernel_rfl) (by kernel_rfl) ?_
  intro F
  refine go_exec (rs := [.tmp 4]) (by kernel_rfl) 4000 [.z [0, 0, 1] 0 [0, 1, 2]] (o := .stop [.c [0, 0, 1], .c [1, 0, 1], .c [1, 1]] [(0, slAt aw j 1), (1, vP b), (2, vP b2)] [E7a681 aw cw ws, .pts b [vU old] 42, .pts b2 [vU new] 42]) (by kernel_rfl) ?_
  refine ok_stop ?_
  refine go_quiet (tm' := [(0, slAt aw j 1), (2, vP b2), (9, .bool false)]) (ps := [slAt aw j 1 = slAt aw j 1, j < ws.length, b = b, ((ws.getD j 0) != old) = false]) (cs := []) [(0, .h .w), (1, .h .w), (2, .h (.j 0 j)), (3, .h (.e 1)), (4, .h (.t false))] [0, 2, 9] (by kernel_rfl) (by kernel_rfl) ⟨rfl, (by first | omega | (simp; done) | (simp; omega)), rfl, (by rw [hw]; simp), trivial⟩ trivial ?_
  refine go_exec (rs := [.tmp 4]) (by kernel_rfl) 4000 [.e 2, .j 0 j] (o := .obl (b2 = b2) (.obl (slAt aw j 1 = slAt aw j 1) (.obl (j < ws.length) (.ex fun x_1 : Int => .obl ([vU new] = (encI .u64) x_1) (.ret (.bool true) [E7a681 aw cw (ws.set j x_1), .pts b [vU old] 42, .pts b2 [vU new] 42]))))) (by kernel_rfl) ?_
  refine ok_obl rfl ?_
  refine ok_obl rfl ?_
  refine ok_obl (by first | omega | (simp; done) | (simp; omega)) ?_
  refine ok_ex (new : Int) ?_
  refine ok_obl rfl ?_
  exact ret_ok (post := [E7a681 aw cw (ws.set j new), .pts b [vU old] 42, .pts b2 [vU new] 42]) [0, 1, 2] (by kernel_rfl) ⟨rfl, (by kernel_rfl)⟩


theorem step_SwapT (ba : Nat) (A : Ar) (i : Int) (b b2 : Nat) (old new : Int) (hn : A.ws.length = A.n) (hi : 0 ≤ i ∧ i < A.n) (hs : 0 ≤ A.steps ∧ A.steps ≤ 1000000000) (hw : A.ws.getD i.toNat 0 = old) :
    Ctr Tryz.prog 52 #[vP ba, vI 3, vI i, .func (.func 125) #[] #[vP b, vP b2]] [E21626 ba A, E671ef A, .pts b [vU old] 42, .pts b2 [vU new] 42] (Ret (.bool true) [E21626 ba (A.swapT i new), E671ef (A.swapT i new), .pts b [vU old] 42, .pts b2 [vU new] 42]) := by
  refine ctr_of (args := [vP ba, vI 3, vI i, .func (.func 125) #[] #[vP b, vP b2]]) (fn := Tryz.f52) (body := B52) (nt := 71) Tryz.func52 (by kernel_rfl) (by kernel_rfl) ?_
  intro F
  refine go_exec (rs := [.tmp 8]) (by kernel_rfl) 4000 [.z [0, 1, 1] 3 [0, 1, 2, 3, 13]] (o := .stop [.o [0, 1, 1] 3, .c [1, 1, 1]] [(0, vP ba), (1, vI 3), (2, vI i), (3, .func (.func 125) #[] #[vP b, vP b2]), (13, .pointer (some ⟨ba, 1, none⟩))] [E21626 ba A, E671ef A, .pts b [vU old] 42, .pts b2 [vU new] 42]) (by kernel_rfl) ?_
  refine ok_stop ?_
  refine go_call (some 14) [0] Tryz.call88 (atomic_Add ba A.aw A.n A.cw A.steps A.lk A.lw A.lv A.lc 1 (by first | assumption | omega | (simp only [InK] at *; omega))) (by kernel_rfl) ?_
  rintro v post ⟨rfl, rfl⟩
  refine go_exec (rs := [.tmp 8]) (by kernel_rfl) 4000 [.e 3, .sp [23, 22] [.dead] [.e 3, .sp [31, 30] [.dead] [.e 3, .s 0, .z [0, 1, 1, 1, 1, 1] 8 [0, 2, 43, 44, 50]]]] (o := .obl (ba = ba) (.obl ((decide (i < 0)) = (decide (i < 0))) (.br (decide (i < 0)) (.bad) (.obl (ba = ba) (.obl ((decide (i ≥ ((A.n : Nat) : Int))) = (decide (i ≥ ((A.n : Nat) : Int)))) (.br (decide (i ≥ ((A.n : Nat) : Int))) (.bad) (.obl (ba = ba) (.obl (A.aw = A.aw ∧ A.n = A.ws.length) (.obl ((0 : Int) ≤ i ∧ i < ((A.ws.length : Nat) : Int)) (.stop [.o [0, 1, 1, 1, 1, 1] 8, .c [1, 1, 1, 1, 1, 1]] [(0, vP ba), (2, vI i), (43, vP ba), (44, .func (.func 125) #[] #[vP b, vP b2]), (50, slAt A.aw i.toNat 1)] [E671ef A, .pts b [vU old] 42, .pts b2 [vU new] 42, E55b74 ba A (A.steps + 1) 3 i 0 false])))))))))) (by kernel_rfl) ?_
  refine ok_obl rfl ?_
  refine ok_obl rfl ?_
  refine ok_br (fun h => absurd (show (decide (i < 0)) = false from (by simp; omega)) (by rw [h]; simp)) (fun _ => ?_)
  refine ok_obl rfl ?_
  refine ok_obl rfl ?_
  refine ok_br (fun h => absurd (show (decide (i ≥ ((A.n : Nat) : Int))) = false from (by simp; omega)) (by rw [h]; simp)) (fun _ => ?_)
  refine ok_obl rfl ?_
  refine ok_obl ⟨rfl, (by first | rfl | omega | (simp; done) | (simp; omega))⟩ ?_
  refine ok_obl (by first | omega | (simp; omega)) ?_
  refine ok_stop ?_
  refine go_call (some 51) [0, 1, 2] Tryz.call125 (clo_SwapT A.aw A.cw A.ws i.toNat b b2 old new (by first | assumption | omega | (simp only [InK] at *; omega)) (by first | assumption | omega | (simp only [InK] at *; omega))) (by kernel_rfl) ?_
  rintro v post ⟨rfl, rfl⟩
  refine go_exec (rs := [.tmp 8]) (by kernel_rfl) 4000 [.e 0, .e 0, .s 1, .j 1 i.toNat, .e 0, .e 0] (o := .obl (ba = ba) (.obl (ba = ba) (.obl (A.aw = A.aw ∧ A.n = (A.ws.set i.toNat new).length) (.obl ((0 : Int) ≤ i ∧ i < (((A.ws.set i.toNat new).length : Nat) : Int)) (.obl (slAt A.aw i.toNat 1 = slAt A.aw i.toNat 1) (.obl (i.toNat < (A.ws.set i.toNat new).length) (.obl (ba = ba) (.obl (ba = ba) (.ret (.bool true) [E55b74 ba A (A.steps + 1) 3 i ((A.ws.set i.toNat new).getD i.toNat 0) true, E4b293 A (A.ws.set i.toNat new), .pts b [vU old] 42, .pts b2 [vU new] 42]))))))))) (by kernel_rfl) ?_
  refine ok_obl rfl ?_
  refine ok_obl rfl ?_
  refine ok_obl ⟨rfl, (by first | rfl | omega | (simp; done) | (simp; omega))⟩ ?_
  refine ok_obl (by first | omega | (simp; omega)) ?_
  refine ok_obl rfl ?_
  refine ok_obl (by first | omega | (simp; omega)) ?_
  refine ok_obl rfl ?_
  refine ok_obl rfl ?_
  exact ret_ok (post := [E55b74 ba A (A.steps + 1) 3 i ((A.ws.set i.toNat new).getD i.toNat 0) true, E4b293 A (A.ws.set i.toNat new), .pts b [vU old] 42, .pts b2 [vU new] 42]) [0, 1, 2, 3] (by kernel_rfl) ⟨rfl, (by kernel_rfl)⟩

noncomputable def B123 : Code := (Tryz.f123.body).getD .skip

theorem arena_SwapT (ba : Nat) (A : Ar) (i old new : Int) (hn : A.ws.length = A.n) (hi : 0 ≤ i ∧ i < A.n) (hs : 0 ≤ A.steps ∧ A.steps ≤ 1000000000) (hw : A.ws.getD i.toNat 0 = old) :
    Ctr Tryz.prog 123 #[vP ba, vI i, vU old, vU new] [E21626 ba A, E671ef A] (Ret (.bool true) [E21626 ba (A.swapT i new), E671ef (A.swapT i new)]) := by
  refine ctr_of (args := [vP ba, vI i, vU old, vU new]) (fn := Tryz.f123) (body := B123) (nt := 13) Tryz.func123 (by kernel_rfl) (by kernel_rfl) ?_
  intro F
  refine go_exec (rs := [.tmp 8]) (by kernel_rfl) 4000 [.z [0, 1] 3 [9, 10, 11]] (o := .new fun b_1 => .new fun b_2 => .stop [.o [0, 1] 3, .c [1, 1]] [(9, vP ba), (10, vI i), (11, .func (.func 125) #[] #[vP b_1, vP b_2])] [E21626 ba A, E671ef A, .pts b_1 [vU old] 42, .pts b_2 [vU new] 42]) (by kernel_rfl) ?_
  refine ok_new fun b_1 => ?_
  refine ok_new fun b_2 => ?_
  refine ok_stop ?_
  refine go_call (some 12) [0, 1, 2, 3] Tryz.call52 (step_SwapT ba A i b_1 b_2 old new (by first | assumption | omega | (simp only [InK] at *; omega)) (by first | assumption | omega | (simp only [InK] at *; omega)) (by first | assumption | omega | (simp only [InK] at *; omega)) (by first | assumption | omega | (simp only [InK] at *; omega))) (by kernel_rfl) ?_
  rintro v post ⟨rfl, rfl⟩
  refine go_exec (rs := [.tmp 8]) (by kernel_rfl) 4000 [] (o := .ret (.bool true) [E21626 ba (A.swapT i new), E671ef (A.swapT i new), .pts b_1 [vU old] 42, .pts b_2 [vU new] 42]) (by kernel_rfl) ?_
  exact ret_ok (post := [E21626 ba (A.swapT i new), E671ef (A.swapT i new)]) [0, 1] (by kernel_rfl) ⟨rfl, (by kernel_rfl)⟩


theorem clo_SwapF (aw : Option Addr) (cw : Nat) (ws : List Int) (j b b2 : Nat) (old new : Int) (hj : j < ws.length) (hw : ws.getD j 0 ≠ old) :
    Ctr Tryz.prog 125 #[slAt aw j 1, vP b, vP b2] [E7a681 aw cw ws, .pts b [vU old] 42, .pts b2 [vU new] 42] (Ret (.bool false) [E7a681 aw cw ws, .pts b [vU old] 42, .pts b2 [vU new] 42]) := by
  refine ctr_of (args := [slAt aw j 1, vP b, vP b2]) (fn := Tryz.f125) (body := B125) (nt := 13) Tryz.func125 (by kernel_rfl) (by kernel_rfl) ?_
  intro F
  refine go_exec (rs := [.tmp 4]) (by kernel_rfl) 4000 [.z [0, 0, 1] 0 [0, 1, 2]] (o := .stop [.c [0, 0, 1], .c [1, 0, 1], .c [1, 1]] [(0, slAt aw j 1), (1, vP b), (2, vP b2)] [E7a681 aw cw ws, .pts b [vU old] 42, .pts b2 [vU new] 42]) (by kernel_rfl) ?_
  refine ok_stop ?_
  refine go_quiet (tm' := [(0, slAt aw j 1), (2, vP b2), (9, .bool true)]) (ps := [slAt aw j 1 = slAt aw j 1, j < ws.length, b = b, ((ws.getD j 0) != old) = true]) (cs := []) [(0, .h .w), (1, .h .w), (2, .h (.j 0 j)), (3, .h (.e 1)), (4, .h (.t true))] [0, 2, 9] (by kernel_rfl) (by kernel_rfl) ⟨rfl, (by first | omega | (simp; done) | (simp; omega)), rfl, (bne_iff_ne.2 hw), trivial⟩ trivial ?_
  refine go_exec (rs := [.tmp 4]) (by kernel_rfl) 4000 [] (o := .ret (.bool false) [E7a681 aw cw ws, .pts b [vU old] 42, .pts b2 [vU new] 42]) (by kernel_rfl) ?_
  exact ret_ok (post := [E7a681 aw cw ws, .pts b [vU old] 42, .pts b2 [vU new] 42]) [0, 1, 2] (by kernel_rfl) ⟨rfl, (by kernel_rfl)⟩


theorem step_SwapF (ba : Nat) (A : Ar) (i : Int) (b b2 : Nat) (old new : Int) (hn : A.ws.length = A.n) (hi : 0 ≤ i ∧ i < A.n) (hs : 0 ≤ A.steps ∧ A.steps ≤ 1000000000) (hw : A.ws.getD i.toNat 0 ≠ old) :
    Ctr Tryz.prog 52 #[vP ba, vI 3, vI i, .func (.func 125) #[] #[vP b, vP b2]] [E21626 ba A, E671ef A, .pts b [vU old] 42, .pts b2 [vU new] 42] (Ret (.bool false) [E21626 ba (A.swapF i), E671ef (A.swapF i), .pts b [vU old] 42, .pts b2 [vU new] 42]) := by
  refine ctr_of (args := [vP ba, vI 3, vI i, .func (.func 125) #[] #[vP b, vP b2]]) (fn := Tryz.f52) (body := B52) (nt := 71) Tryz.func52 (by kernel_rfl) (by kernel_rfl) ?_
  intro F
  refine go_exec (rs := [.tmp 8]) (by kernel_rfl) 4000 [.z [0, 1, 1] 3 [0, 1, 2, 3, 13]] (o := .stop [.o [0, 1, 1] 3, .c [1, 1, 1]] [(0, vP ba), (1, vI 3), (2, vI i), (3, .func (.func 125) #[] #[vP b, vP b2]), (13, .pointer (some ⟨ba, 1, none⟩))] [E21626 ba A, E671ef A, .pts b [vU old] 42, .pts b2 [vU new] 42]) (by kernel_rfl) ?_
  refine ok_stop ?_
  refine go_call (some 14) [0] Tryz.call88 (atomic_Add ba A.aw A.n A.cw A.steps A.lk A.lw A.lv A.lc 1 (by first | assumption | omega | (simp only [InK] at *; omega))) (by kernel_rfl) ?_
  rintro v post ⟨rfl, rfl⟩
  refine go_exec (rs := [.tmp 8]) (by kernel_rfl) 4000 [.e 3, .sp [23, 22] [.dead] [.e 3, .sp [31, 30] [.dead] [.e 3, .s 0, .z [0, 1, 1, 1, 1, 1] 8 [0, 2, 43, 44, 50]]]] (o := .obl (ba = ba) (.obl ((decide (i < 0)) = (decide (i < 0))) (.br (decide (i < 0)) (.bad) (.obl (ba = ba) (.obl ((decide (i ≥ ((A.n : Nat) : Int))) = (decide (i ≥ ((A.n : Nat) : Int)))) (.br (decide (i ≥ ((A.n : Nat) : Int))) (.bad) (.obl (ba = ba) (.obl (A.aw = A.aw ∧ A.n = A.ws.length) (.obl ((0 : Int) ≤ i ∧ i < ((A.ws.length : Nat) : Int)) (.stop [.o [0, 1, 1, 1, 1, 1] 8, .c [1, 1, 1, 1, 1, 1]] [(0, vP ba), (2, vI i), (43, vP ba), (44, .func (.func 125) #[] #[vP b, vP b2]), (50, slAt A.aw i.toNat 1)] [E671ef A, .pts b [vU old] 42, .pts b2 [vU new] 42, E55b74 ba A (A.steps + 1) 3 i 0 false])))))))))) (by kernel_rfl) ?_
  refine ok_obl rfl ?_
  refine ok_obl rfl ?_
  refine ok_br (fun h => absurd (show (decide (i < 0)) = false from (by simp; omega)) (by rw [h]; simp)) (fun _ => ?_)
  refine ok_obl rfl ?_
  refine ok_obl rfl ?_
  refine ok_br (fun h => absurd (show (decide (i ≥ ((A.n : Nat) : Int))) = false from (by simp; omega)) (by rw [h]; simp)) (fun _ => ?_)
  refine ok_obl rfl ?_
  refine ok_obl ⟨rfl, (by first | rfl | omega | (simp; done) | (simp; omega))⟩ ?_
  refine ok_obl (by first | omega | (simp; omega)) ?_
  refine ok_stop ?_
  refine go_call (some 51) [0, 1, 2] Tryz.call125 (clo_SwapF A.aw A.cw A.ws i.toNat b b2 old new (by first | assumption | omega | (simp only [InK] at *; omega)) (by first | assumption | omega | (simp only [InK] at *; omega))) (by kernel_rfl) ?_
  rintro v post ⟨rfl, rfl⟩
  refine go_exec (rs := [.tmp 8]) (by kernel_rfl) 4000 [.e 0, .e 0, .s 1, .j 1 i.toNat, .e 0, .e 0] (o := .obl (ba = ba) (.obl (ba = ba) (.obl (A.aw = A.aw ∧ A.n = A.ws.length) (.obl ((0 : Int) ≤ i ∧ i < ((A.ws.length : Nat) : Int)) (.obl (slAt A.aw i.toNat 1 = slAt A.aw i.toNat 1) (.obl (i.toNat < A.ws.length) (.obl (ba = ba) (.obl (ba = ba) (.ret (.bool false) [E55b74 ba A (A.steps + 1) 3 i (A.ws.getD i.toNat 0) false, E671ef A, .pts b [vU old] 42, .pts b2 [vU new] 42]))))))))) (by kernel_rfl) ?_
  refine ok_obl rfl ?_
  refine ok_obl rfl ?_
  refine ok_obl ⟨rfl, (by first | rfl | omega | (simp; done) | (simp; omega))⟩ ?_
  refine ok_obl (by first | omega | (simp; omega)) ?_
  refine ok_obl rfl ?_
  refine ok_obl (by first | omega | (simp; omega)) ?_
  refine ok_obl rfl ?_
  refine ok_obl rfl ?_
  exact ret_ok (post := [E55b74 ba A (A.steps + 1) 3 i (A.ws.getD i.toNat 0) false, E671ef A, .pts b [vU old] 42, .pts b2 [vU new] 42]) [0, 1, 2, 3] (by kernel_rfl) ⟨rfl, (by kernel_rfl)⟩


theorem arena_SwapF (ba : Nat) (A : Ar) (i old new : Int) (hn : A.ws.length = A.n) (hi : 0 ≤ i ∧ i < A.n) (hs : 0 ≤ A.steps ∧ A.steps ≤ 1000000000) (hw : A.ws.getD i.toNat 0 ≠ old) :
    Ctr Tryz.prog 123 #[vP ba, vI i, vU old, vU new] [E21626 ba A, E671ef A] (Ret (.bool false) [E21626 ba (A.swapF i), E671ef (A.swapF i)]) := by
  refine ctr_of (args := [vP ba, vI i, vU old, vU new]) (fn := Tryz.f123) (body := B123) (nt := 13) Tryz.func123 (by kernel_rfl) (by kernel_rfl) ?_
  intro F
  refine go_exec (rs := [.tmp 8]) (by kernel_rfl) 4000 [.z [0, 1] 3 [9, 10, 11]] (o := .new fun b_1 => .new fun b_2 => .stop [.o [0, 1] 3, .c [1, 1]] [(9, vP ba), (10, vI i), (11, .func (.func 125) #[] #[vP b_1, vP b_2])] [E21626 ba A, E671ef A, .pts b_1 [vU old] 42, .pts b_2 [vU new] 42]) (by kernel_rfl) ?_
  refine ok_new fun b_1 => ?_
  refine ok_new fun b_2 => ?_
  refine ok_stop ?_
  refine go_call (some 12) [0, 1, 2, 3] Tryz.call52 (step_SwapF ba A i b_1 b_2 old new (by first | assumption | omega | (simp only [InK] at *; omega)) (by first | assumption | omega | (simp only [InK] at *; omega)) (by first | assumption | omega | (simp only [InK] at *; omega)) (by first | assumption | omega | (simp only [InK] at *; omega))) (by kernel_rfl) ?_
  rintro v post ⟨rfl, rfl⟩
  refine go_exec (rs := [.tmp 8]) (by kernel_rfl) 4000 [] (o := .ret (.bool false) [E21626 ba (A.swapF i), E671ef (A.swapF i), .pts b_1 [vU old] 42, .pts b_2 [vU new] 42]) (by kernel_rfl) ?_
  exact ret_ok (post := [E21626 ba (A.swapF i), E671ef (A.swapF i)]) [0, 1] (by kernel_rfl) ⟨rfl, (by kernel_rfl)⟩

noncomputable def B21 : Code := (Tryz.f21.body).getD .skip

theorem arena_Steps (ba : Nat) (A : Ar)  :
    Ctr Tryz.prog 21 #[vP ba] [E21626 ba A, E671ef A] (Ret (vI A.steps) [E21626 ba A, E671ef A]) := by
  refine ctr_of (args := [vP ba]) (fn := Tryz.f21) (body := B21) (nt := 9) Tryz.func21 (by kernel_rfl) (by kernel_rfl) ?_
  intro F
  refine go_exec (rs := [.tmp 2]) (by kernel_rfl) 4000 [.z [0, 1, 1] 3 [7]] (o := .stop [.o [0, 1, 1] 3, .c [1, 1, 1]] [(7, .pointer (some ⟨ba, 1, none⟩))] [E21626 ba A, E671ef A]) (by kernel_rfl) ?_
  refine ok_stop ?_
  refine go_call (some 8) [0] Tryz.call66 (atomic_Load ba A.aw A.n A.cw A.steps A.lk A.lw A.lv A.lc) (by kernel_rfl) ?_
  rintro v post ⟨rfl, rfl⟩
  refine go_exec (rs := [.tmp 2]) (by kernel_rfl) 4000 [] (o := .ret (vI A.steps) [E671ef A, E21626 ba A]) (by kernel_rfl) ?_
  exact ret_ok (post := [E21626 ba A, E671ef A]) [1, 0] (by kernel_rfl) ⟨rfl, (by kernel_rfl)⟩

noncomputable def B29 : Code := (Tryz.f29.body).getD .skip

theorem arena_Len (ba : Nat) (A : Ar)  :
    Ctr Tryz.prog 29 #[vP ba] [E21626 ba A, E671ef A] (Ret (vI ((A.n : Nat) : Int)) [E21626 ba A, E671ef A]) := by
  refine ctr_of (args := [vP ba]) (fn := Tryz.f29) (body := B29) (nt := 10) Tryz.func29 (by kernel_rfl) (by kernel_rfl) ?_
  intro F
  refine go_exec (rs := [.tmp 2]) (by kernel_rfl) 4000 [.e 0] (o := .obl (ba = ba) (.ret (vI ((A.n : Nat) : Int)) [E21626 ba A, E671ef A])) (by kernel_rfl) ?_
  refine ok_obl rfl ?_
  exact ret_ok (post := [E21626 ba A, E671ef A]) [0, 1] (by kernel_rfl) ⟨rfl, (by kernel_rfl)⟩

noncomputable def B20 : Code := (Tryz.f20.body).getD .skip

theorem arena_Last (ba : Nat) (A : Ar)  :
    Ctr Tryz.prog 20 #[vP ba] [E21626 ba A, E671ef A] (Ret (.agg #[vI A.lk, vI A.lw, vU A.lv, .bool A.lc]) [E21626 ba A, E671ef A]) := by
  refine ctr_of (args := [vP ba]) (fn := Tryz.f20) (body := B20) (nt := 10) Tryz.func20 (by kernel_rfl) (by kernel_rfl) ?_
  intro F
  refine go_exec (rs := [.cell 2 55]) (by kernel_rfl) 4000 [.e 0, .e 2, .e 2] (o := .new fun b_1 => .obl (ba = ba) (.obl (b_1 = b_1) (.obl (b_1 = b_1) (.ret (.agg #[vI A.lk, vI A.lw, vU A.lv, .bool A.lc]) [E21626 ba A, E671ef A, E829f8 b_1 A])))) (by kernel_rfl) ?_
  refine ok_new fun b_1 => ?_
  refine ok_obl rfl ?_
  refine ok_obl rfl ?_
  refine ok_obl rfl ?_
  exact ret_ok (post := [E21626 ba A, E671ef A]) [0, 1] (by kernel_rfl) ⟨rfl, (by kernel_rfl)⟩

noncomputable def B120 : Code := (Tryz.f120.body).getD .skip

theorem heads_Block (w_ : Int) (hw : 0 ≤ w_ ∧ w_ ≤ 18446744073709551615) :
    Ctr Tryz.prog 120 #[vU w_] [] (Ret (vI (lo32 w_)) []) := by
  refine ctr_of (args := [vU w_]) (fn := Tryz.f120) (body := B120) (nt := 6) Tryz.func120 (by kernel_rfl) (by kernel_rfl) ?_
  intro F
  refine go_exec (rs := [.tmp 2]) (by kernel_rfl) 4000 [.z [0, 1] 1 [3]] (o := .stop [.o [0, 1] 1, .c [1, 1]] [(3, vU w_)] []) (by kernel_rfl) ?_
  refine ok_stop ?_
  refine go_call (some 4) [] Tryz.call100 (bits_Get w_ 0 32 (by first | assumption | omega | (simp only [InK] at *; omega))) (by kernel_rfl) ?_
  rintro v post ⟨rfl, rfl⟩
  refine go_exec (rs := [.tmp 2]) (by kernel_rfl) 4000 [.n] (o := .obl (InK .i64 (bAnd .u64 (bShr .u64 w_ 0) (bShr .u64 18446744073709551615 (64 - 32)))) (.ret (vI (bAnd .u64 (bShr .u64 w_ 0) (bShr .u64 18446744073709551615 (64 - 32)))) [])) (by kernel_rfl) ?_
  refine ok_obl (by rw [get_lo hw]; simp only [InK]; have := lo32_lt w_; omega) ?_
  exact ret_ok (post := []) [] (by kernel_rfl) ⟨(congrArg (Value.int .i64) (get_lo hw)), (by kernel_rfl)⟩

noncomputable def B127 : Code := (Tryz.f127.body).getD .skip

theorem heads_Tag (w_ : Int) (hw : 0 ≤ w_ ∧ w_ ≤ 18446744073709551615) :
    Ctr Tryz.prog 127 #[vU w_] [] (Ret (.int .u32 (hi32 w_)) []) := by
  refine ctr_of (args := [vU w_]) (fn := Tryz.f127) (body := B127) (nt := 6) Tryz.func127 (by kernel_rfl) (by kernel_rfl) ?_
  intro F
  refine go_exec (rs := [.tmp 2]) (by kernel_rfl) 4000 [.z [0, 1] 1 [3]] (o := .stop [.o [0, 1] 1, .c [1, 1]] [(3, vU w_)] []) (by kernel_rfl) ?_
  refine ok_stop ?_
  refine go_call (some 4) [] Tryz.call100 (bits_Get w_ 32 32 (by first | assumption | omega | (simp only [InK] at *; omega))) (by kernel_rfl) ?_
  rintro v post ⟨rfl, rfl⟩
  refine go_exec (rs := [.tmp 2]) (by kernel_rfl) 4000 [.w] (o := .ret (.int .u32 (IntKind.u32.wrap (bAnd .u64 (bShr .u64 w_ 32) (bShr .u64 18446744073709551615 (64 - 32))))) []) (by kernel_rfl) ?_
  exact ret_ok (post := []) [] (by kernel_rfl) ⟨(congrArg (Value.int .u32) (get_hi hw)), (by kernel_rfl)⟩

noncomputable def B126 : Code := (Tryz.f126.body).getD .skip

theorem heads_Make (t_ b_ : Int) (ht : 0 ≤ t_ ∧ t_ ≤ 4294967295) (hb : 0 ≤ b_ ∧ b_ ≤ 4294967295) :
    Ctr Tryz.prog 126 #[.int .u32 t_, vI b_] [] (Ret (vU (t_ * 4294967296 + b_)) []) := by
  refine ctr_of (args := [.int .u32 t_, vI b_]) (fn := Tryz.f126) (body := B126) (nt := 12) Tryz.func126 (by kernel_rfl) (by kernel_rfl) ?_
  intro F
  refine go_exec (rs := [.tmp 4]) (by kernel_rfl) 4000 [.w, .n, .w, .w] (o := .obl ((0 : Int) ≤ 32) (.ret (vU (bOr .u64 (bShl .u64 (IntKind.u64.wrap t_) 32) (IntKind.u64.wrap (IntKind.u32.wrap b_)))) [])) (by kernel_rfl) ?_
  refine ok_obl (by first | omega | (simp; done) | (simp; omega)) ?_
  exact ret_ok (post := []) [] (by kernel_rfl) ⟨(congrArg (Value.int .u64) (make_eq ht hb)), (by kernel_rfl)⟩

noncomputable def B124 : Code := (Tryz.f124.body).getD .skip

theorem heads_Turn (w_ b_ : Int) (hw : 0 ≤ w_ ∧ w_ ≤ 18446744073709551615) (hb : 0 ≤ b_ ∧ b_ ≤ 4294967295) :
    Ctr Tryz.prog 124 #[vU w_, vI b_] [] (Ret (vU (turnW w_ b_)) []) := by
  refine ctr_of (args := [vU w_, vI b_]) (fn := Tryz.f124) (body := B124) (nt := 10) Tryz.func124 (by kernel_rfl) (by kernel_rfl) ?_
  intro F
  refine go_exec (rs := [.tmp 4]) (by kernel_rfl) 4000 [.z [0, 1] 1 [1, 5]] (o := .stop [.o [0, 1] 1, .c [1, 1]] [(1, vI b_), (5, vU w_)] []) (by kernel_rfl) ?_
  refine ok_stop ?_
  refine go_call (some 6) [] Tryz.call127 (heads_Tag w_ (by first | assumption | omega | (simp only [InK] at *; omega))) (by kernel_rfl) ?_
  rintro v post ⟨rfl, rfl⟩
  refine go_exec (rs := [.tmp 4]) (by kernel_rfl) 4000 [.w, .z [0, 1] 4 [7, 8]] (o := .stop [.o [0, 1] 4, .c [1, 1]] [(7, .int .u32 (IntKind.u32.wrap ((hi32 w_) + 1))), (8, vI b_)] []) (by kernel_rfl) ?_
  refine ok_stop ?_
  refine go_call (some 9) [] Tryz.call126 (heads_Make (IntKind.u32.wrap ((hi32 w_) + 1)) b_ (by have := wrap32_rng (hi32 w_ + 1); omega) (by first | assumption | omega | (simp only [InK] at *; omega))) (by kernel_rfl) ?_
  rintro v post ⟨rfl, rfl⟩
  refine go_exec (rs := [.tmp 4]) (by kernel_rfl) 4000 [] (o := .ret (vU ((IntKind.u32.wrap ((hi32 w_) + 1)) * 4294967296 + b_)) []) (by kernel_rfl) ?_
  exact ret_ok (post := []) [] (by kernel_rfl) ⟨(congrArg (Value.int .u64) (turn_eq w_ b_)), (by kernel_rfl)⟩

noncomputable def B77 : Code := (Tryz.f77.body).getD .skip

theorem slots_Client (w_ : Int) (hw : 0 ≤ w_ ∧ w_ ≤ 18446744073709551615) :
    Ctr Tryz.prog 77 #[vU w_] [] (Ret (vI (hi32 w_ - 1)) []) := by
  refine ctr_of (args := [vU w_]) (fn := Tryz.f77) (body := B77) (nt := 7) Tryz.func77 (by kernel_rfl) (by kernel_rfl) ?_
  intro F
  refine go_exec (rs := [.tmp 2]) (by kernel_rfl) 4000 [.z [0, 1] 1 [3]] (o := .stop [.o [0, 1] 1, .c [1, 1]] [(3, vU w_)] []) (by kernel_rfl) ?_
  refine ok_stop ?_
  refine go_call (some 4) [] Tryz.call100 (bits_Get w_ 32 32 (by first | assumption | omega | (simp only [InK] at *; omega))) (by kernel_rfl) ?_
  rintro v post ⟨rfl, rfl⟩
  refine go_exec (rs := [.tmp 2]) (by kernel_rfl) 4000 [.n, .n] (o := .obl (InK .i64 (bAnd .u64 (bShr .u64 w_ 32) (bShr .u64 18446744073709551615 (64 - 32)))) (.obl (InK .i64 ((bAnd .u64 (bShr .u64 w_ 32) (bShr .u64 18446744073709551615 (64 - 32))) - 1)) (.ret (vI ((bAnd .u64 (bShr .u64 w_ 32) (bShr .u64 18446744073709551615 (64 - 32))) - 1)) []))) (by kernel_rfl) ?_
  refine ok_obl (by rw [get_hi64 hw]; simp only [InK]; have := hi32_lt hw; omega) ?_
  refine ok_obl (by rw [get_hi64 hw]; simp only [InK]; have := hi32_lt hw; omega) ?_
  exact ret_ok (post := []) [] (by kernel_rfl) ⟨(congrArg (Value.int .i64) (by rw [get_hi64 hw])), (by kernel_rfl)⟩

noncomputable def B78 : Code := (Tryz.f78.body).getD .skip

theorem slots_Block (w_ : Int) (hw : 0 ≤ w_ ∧ w_ ≤ 18446744073709551615) :
    Ctr Tryz.prog 78 #[vU w_] [] (Ret (vI (lo32 w_)) []) := by
  refine ctr_of (args := [vU w_]) (fn := Tryz.f78) (body := B78) (nt := 6) Tryz.func78 (by kernel_rfl) (by kernel_rfl) ?_
  intro F
  refine go_exec (rs := [.tmp 2]) (by kernel_rfl) 4000 [.z [0, 1] 1 [3]] (o := .stop [.o [0, 1] 1, .c [1, 1]] [(3, vU w_)] []) (by kernel_rfl) ?_
  refine ok_stop ?_
  refine go_call (some 4) [] Tryz.call100 (bits_Get w_ 0 32 (by first | assumption | omega | (simp only [InK] at *; omega))) (by kernel_rfl) ?_
  rintro v post ⟨rfl, rfl⟩
  refine go_exec (rs := [.tmp 2]) (by kernel_rfl) 4000 [.n] (o := .obl (InK .i64 (bAnd .u64 (bShr .u64 w_ 0) (bShr .u64 18446744073709551615 (64 - 32)))) (.ret (vI (bAnd .u64 (bShr .u64 w_ 0) (bShr .u64 18446744073709551615 (64 - 32)))) [])) (by kernel_rfl) ?_
  refine ok_obl (by rw [get_lo hw]; simp only [InK]; have := lo32_lt w_; omega) ?_
  exact ret_ok (post := []) [] (by kernel_rfl) ⟨(congrArg (Value.int .i64) (get_lo hw)), (by kernel_rfl)⟩

end Go.Proofs.YtilaihbbollcnaaGreatDoor


namespace Go.Proofs.YtilaihbbollcnaaGreatDoor
open Go.Sx
abbrev E548a5 (x0 : Nat) (c1 : Cfg) (x2 : Int) (x3 : Int) (x4 : Value) (x5 : Int) : Ent := .pts x0 [.int .i64 c1.topics, .int .i64 c1.small, .int .i64 c1.slots, .int .i64 c1.clients, .int .i64 c1.s0, .int .i64 c1.n0, .int .i64 c1.s1, .int .i64 c1.n1, .int .i64 c1.retry, .int .i64 x2, .int .u64 x3, x4, .int .i64 x5] 161
abbrev Ebd80e (x0 : Nat) (c1 : Cfg) (g2 : Gv) (x3 : Value) : Ent := .pts x0 [.int .i64 c1.topics, .int .i64 c1.small, .int .i64 c1.slots, .int .i64 c1.clients, .int .i64 c1.s0, .int .i64 c1.n0, .int .i64 c1.s1, .int .i64 c1.n1, .int .i64 c1.retry, .int .i64 g2.head, .int .u64 g2.seen, x3, .int .i64 g2.block] 161

/-- the step that is next -/
noncomputable def nxV (g : Nat) : Nat → Value
  | 1 => .func (.func 113) #[vP g] #[]
  | 2 => .func (.func 119) #[vP g] #[]
  | 3 => .func (.func 121) #[vP g] #[]
  | _ => .nilFunc
noncomputable def B114 : Code := (Tryz.f114.body).getD .skip

theorem run_Done0 (c : Cfg) (gv : Nat) (hd sn bk : Int)  :
    Ctr Tryz.prog 114 #[vP gv] [E548a5 gv c hd sn (.nilFunc) bk] (Ret (.bool true) [E548a5 gv c hd sn (.nilFunc) bk]) := by
  refine ctr_of (args := [vP gv]) (fn := Tryz.f114) (body := B114) (nt := 12) Tryz.func114 (by kernel_rfl) (by kernel_rfl) ?_
  intro F
  refine go_exec (rs := [.tmp 2]) (by kernel_rfl) 4000 [.e 0] (o := .obl (gv = gv) (.ret (.bool true) [E548a5 gv c hd sn (.nilFunc) bk])) (by kernel_rfl) ?_
  refine ok_obl rfl ?_
  exact ret_ok (post := [E548a5 gv c hd sn (.nilFunc) bk]) [0] (by kernel_rfl) ⟨rfl, (by kernel_rfl)⟩


theorem run_Done1 (c : Cfg) (gv : Nat) (hd sn bk : Int)  :
    Ctr Tryz.prog 114 #[vP gv] [E548a5 gv c hd sn (.func (.func 113) #[vP gv] #[]) bk] (Ret (.bool false) [E548a5 gv c hd sn (.func (.func 113) #[vP gv] #[]) bk]) := by
  refine ctr_of (args := [vP gv]) (fn := Tryz.f114) (body := B114) (nt := 12) Tryz.func114 (by kernel_rfl) (by kernel_rfl) ?_
  intro F
  refine go_exec (rs := [.tmp 2]) (by kernel_rfl) 4000 [.e 0] (o := .obl (gv = gv) (.ret (.bool false) [E548a5 gv c hd sn (.func (.func 113) #[vP gv] #[]) bk])) (by kernel_rfl) ?_
  refine ok_obl rfl ?_
  exact ret_ok (post := [E548a5 gv c hd sn (.func (.func 113) #[vP gv] #[]) bk]) [0] (by kernel_rfl) ⟨rfl, (by kernel_rfl)⟩


theorem run_Done2 (c : Cfg) (gv : Nat) (hd sn bk : Int)  :
    Ctr Tryz.prog 114 #[vP gv] [E548a5 gv c hd sn (.func (.func 119) #[vP gv] #[]) bk] (Ret (.bool false) [E548a5 gv c hd sn (.func (.func 119) #[vP gv] #[]) bk]) := by
  refine ctr_of (args := [vP gv]) (fn := Tryz.f114) (body := B114) (nt := 12) Tryz.func114 (by kernel_rfl) (by kernel_rfl) ?_
  intro F
  refine go_exec (rs := [.tmp 2]) (by kernel_rfl) 4000 [.e 0] (o := .obl (gv = gv) (.ret (.bool false) [E548a5 gv c hd sn (.func (.func 119) #[vP gv] #[]) bk])) (by kernel_rfl) ?_
  refine ok_obl rfl ?_
  exact ret_ok (post := [E548a5 gv c hd sn (.func (.func 119) #[vP gv] #[]) bk]) [0] (by kernel_rfl) ⟨rfl, (by kernel_rfl)⟩


theorem run_Done3 (c : Cfg) (gv : Nat) (hd sn bk : Int)  :
    Ctr Tryz.prog 114 #[vP gv] [E548a5 gv c hd sn (.func (.func 121) #[vP gv] #[]) bk] (Ret (.bool false) [E548a5 gv c hd sn (.func (.func 121) #[vP gv] #[]) bk]) := by
  refine ctr_of (args := [vP gv]) (fn := Tryz.f114) (body := B114) (nt := 12) Tryz.func114 (by kernel_rfl) (by kernel_rfl) ?_
  intro F
  refine go_exec (rs := [.tmp 2]) (by kernel_rfl) 4000 [.e 0] (o := .obl (gv = gv) (.ret (.bool false) [E548a5 gv c hd sn (.func (.func 121) #[vP gv] #[]) bk])) (by kernel_rfl) ?_
  refine ok_obl rfl ?_
  exact ret_ok (post := [E548a5 gv c hd sn (.func (.func 121) #[vP gv] #[]) bk]) [0] (by kernel_rfl) ⟨rfl, (by kernel_rfl)⟩

noncomputable def B118 : Code := (Tryz.f118.body).getD .skip

theorem run_load (c : Cfg) (gv ba : Nat) (hd sn bk : Int) (A : Ar) (nx : Value) (hn : A.ws.length = A.n) (hs : 0 ≤ A.steps ∧ A.steps ≤ 1000000000) (hh : 0 ≤ hd ∧ hd < A.n) :
    Ctr Tryz.prog 118 #[vP gv, vP ba] [E548a5 gv c hd sn nx bk, E21626 ba A, E671ef A] (Ret (undef) [E548a5 gv c hd (A.ws.getD hd.toNat 0) nx bk, E21626 ba (A.load hd), E671ef (A.load hd)]) := by
  refine ctr_of (args := [vP gv, vP ba]) (fn := Tryz.f118) (body := B118) (nt := 13) Tryz.func118 (by kernel_rfl) (by kernel_rfl) ?_
  intro F
  refine go_exec (rs := []) (by kernel_rfl) 4000 [.e 0, .z [] 6 [4, 5, 9]] (o := .obl (gv = gv) (.stop [.o [] 6] [(4, vP gv), (5, vP ba), (9, vI hd)] [E548a5 gv c hd sn nx bk, E21626 ba A, E671ef A])) (by kernel_rfl) ?_
  refine ok_obl rfl ?_
  refine ok_stop ?_
  refine go_call (some 10) [1, 2] Tryz.call76 (arena_Load ba A hd (by first | assumption | omega | (simp only [InK] at *; omega)) (by first | assumption | omega | (simp only [InK] at *; omega)) (by first | assumption | omega | (simp only [InK] at *; omega))) (by kernel_rfl) ?_
  rintro v post ⟨rfl, rfl⟩
  refine go_exec (rs := []) (by kernel_rfl) 4000 [.e 0] (o := .obl (gv = gv) (.ret (undef) [E548a5 gv c hd (A.ws.getD hd.toNat 0) nx bk, E21626 ba (A.load hd), E671ef (A.load hd)])) (by kernel_rfl) ?_
  refine ok_obl rfl ?_
  exact ret_ok (post := [E548a5 gv c hd (A.ws.getD hd.toNat 0) nx bk, E21626 ba (A.load hd), E671ef (A.load hd)]) [0, 1, 2] (by kernel_rfl) ⟨rfl, (by kernel_rfl)⟩

noncomputable def B113 : Code := (Tryz.f113.body).getD .skip

theorem give_first (c : Cfg) (gv ba : Nat) (hd sn bk : Int) (A : Ar) (nx : Value) (hn : A.ws.length = A.n) (hs : 0 ≤ A.steps ∧ A.steps ≤ 1000000000) (hh : 0 ≤ hd ∧ hd < A.n) :
    Ctr Tryz.prog 113 #[vP gv, vP ba] [E548a5 gv c hd sn nx bk, E21626 ba A, E671ef A] (Ret (undef) [E548a5 gv c hd (A.ws.getD hd.toNat 0) (.func (.func 119) #[vP gv] #[]) bk, E21626 ba (A.load hd), E671ef (A.load hd)]) := by
  refine ctr_of (args := [vP gv, vP ba]) (fn := Tryz.f113) (body := B113) (nt := 15) Tryz.func113 (by kernel_rfl) (by kernel_rfl) ?_
  intro F
  refine go_exec (rs := []) (by kernel_rfl) 4000 [.z [0] 4 [0, 6, 7]] (o := .stop [.o [0] 4, .c [1]] [(0, vP gv), (6, vP gv), (7, vP ba)] [E548a5 gv c hd sn nx bk, E21626 ba A, E671ef A]) (by kernel_rfl) ?_
  refine ok_stop ?_
  refine go_call (some 8) [0, 1, 2] Tryz.call118 (run_load c gv ba hd sn bk A nx (by first | assumption | omega | (simp only [InK] at *; omega)) (by first | assumption | omega | (simp only [InK] at *; omega)) (by first | assumption | omega | (simp only [InK] at *; omega))) (by kernel_rfl) ?_
  rintro v post ⟨rfl, rfl⟩
  refine go_exec (rs := []) (by kernel_rfl) 4000 [.e 0] (o := .obl (gv = gv) (.ret (undef) [E548a5 gv c hd (A.ws.getD hd.toNat 0) (.func (.func 119) #[vP gv] #[]) bk, E21626 ba (A.load hd), E671ef (A.load hd)])) (by kernel_rfl) ?_
  refine ok_obl rfl ?_
  exact ret_ok (post := [E548a5 gv c hd (A.ws.getD hd.toNat 0) (.func (.func 119) #[vP gv] #[]) bk, E21626 ba (A.load hd), E671ef (A.load hd)]) [0, 1, 2] (by kernel_rfl) ⟨rfl, (by kernel_rfl)⟩

noncomputable def B119 : Code := (Tryz.f119.body).getD .skip

theorem give_second (c : Cfg) (gv ba : Nat) (hd sn bk : Int) (A : Ar) (nx : Value) (hn : A.ws.length = A.n) (hs : 0 ≤ A.steps ∧ A.steps ≤ 1000000000) (hc : c.Ok) (hk : 0 ≤ bk ∧ bk ≤ 4294967295) (hb : 0 ≤ blockAt c bk ∧ blockAt c bk < A.n) (hw : 0 ≤ sn ∧ sn ≤ 18446744073709551615) :
    Ctr Tryz.prog 119 #[vP gv, vP ba] [E548a5 gv c hd sn nx bk, E21626 ba A, E671ef A] (Ret (undef) [E548a5 gv c hd sn (.func (.func 121) #[vP gv] #[]) bk, E21626 ba (A.store (blockAt c bk) (lo32 sn)), E671ef (A.store (blockAt c bk) (lo32 sn))]) := by
  refine ctr_of (args := [vP gv, vP ba]) (fn := Tryz.f119) (body := B119) (nt := 29) Tryz.func119 (by kernel_rfl) (by kernel_rfl) ?_
  intro F
  refine go_exec (rs := []) (by kernel_rfl) 4000 [.z [0] 0 [0, 1]] (o := .stop [.c [0], .c [1]] [(0, vP gv), (1, vP ba)] [E548a5 gv c hd sn nx bk, E21626 ba A, E671ef A]) (by kernel_rfl) ?_
  refine ok_stop ?_
  refine go_tail_call (dst := (some 22)) (ps := [gv = gv, gv = gv, gv = gv, InK .u64 (lo32 sn)]) (cs := [(45, #[cfgV c, vI bk], vI (blockAt c bk)), (120, #[vU sn], vI (lo32 sn))]) [(0, .h .w), (1, .h .w), (2, .h .w), (3, .h .w), (4, .h .w), (5, .h (.e 0)), (6, .h .w), (7, .h .w), (8, .h .w), (9, .h (.e 0)), (10, .q (vI (blockAt c bk))), (11, .h .w), (12, .h .w), (13, .h .w), (14, .h .w), (15, .h (.e 0)), (16, .q (vI (lo32 sn))), (17, .h (.n))] 18 [] [1, 2] [0] (by kernel_rfl) Tryz.call9 (arena_Store ba A (blockAt c bk) (lo32 sn) (by first | assumption | omega | (simp only [InK] at *; omega)) hb (by first | assumption | omega | (simp only [InK] at *; omega))) (by kernel_rfl) ⟨rfl, rfl, rfl, (by simp only [InK]; have := lo32_lt sn; omega), trivial⟩ ⟨⟨Tryz.call45, quiet_of [] (plan_Block c bk (by first | assumption | omega | (simp only [InK] at *; omega)) (by simp only [InK]; omega)) (by kernel_rfl) (by rintro v post ⟨rfl, rfl⟩; exact ⟨rfl, rfl⟩)⟩, ⟨Tryz.call120, quiet_of [] (heads_Block sn (by first | assumption | omega | (simp only [InK] at *; omega))) (by kernel_rfl) (by rintro v post ⟨rfl, rfl⟩; exact ⟨rfl, rfl⟩)⟩, trivial⟩ ?_
  rintro v post ⟨rfl, rfl⟩
  refine tail_next (tm' := [(0, vP gv)]) (ps2 := []) (by kernel_rfl) trivial ?_
  refine go_exec (rs := []) (by kernel_rfl) 4000 [.e 0] (o := .obl (gv = gv) (.ret (undef) [E548a5 gv c hd sn (.func (.func 121) #[vP gv] #[]) bk, E21626 ba (A.store (blockAt c bk) (lo32 sn)), E671ef (A.store (blockAt c bk) (lo32 sn))])) (by kernel_rfl) ?_
  refine ok_obl rfl ?_
  exact ret_ok (post := [E548a5 gv c hd sn (.func (.func 121) #[vP gv] #[]) bk, E21626 ba (A.store (blockAt c bk) (lo32 sn)), E671ef (A.store (blockAt c bk) (lo32 sn))]) [0, 1, 2] (by kernel_rfl) ⟨rfl, (by kernel_rfl)⟩

noncomputable def B122 : Code := (Tryz.f122.body).getD .skip

theorem run_turnT (c : Cfg) (gv ba : Nat) (hd sn bk : Int) (A : Ar) (nx : Value) (hn : A.ws.length = A.n) (hs : 0 ≤ A.steps ∧ A.steps ≤ 1000000000) (hh : 0 ≤ hd ∧ hd < A.n) (hc : c.Ok) (hk : 0 ≤ bk ∧ bk ≤ 4294967295) (hb : 0 ≤ blockAt c bk ∧ blockAt c bk < A.n) (hw : 0 ≤ sn ∧ sn ≤ 18446744073709551615) (hq : (A.ws.getD hd.toNat 0) = sn) :
    Ctr Tryz.prog 122 #[vP gv, vP ba, vI bk] [E548a5 gv c hd sn nx bk, E21626 ba A, E671ef A] (Ret (.bool true) [E548a5 gv c hd sn nx bk, E21626 ba (A.swapT hd (turnW sn bk)), E671ef (A.swapT hd (turnW sn bk))]) := by
  refine ctr_of (args := [vP gv, vP ba, vI bk]) (fn := Tryz.f122) (body := B122) (nt := 23) Tryz.func122 (by kernel_rfl) (by kernel_rfl) ?_
  intro F
  refine go_exec (rs := [.tmp 6]) (by kernel_rfl) 4000 [.z [0, 1] 0 [0, 1, 2]] (o := .stop [.c [0, 1], .c [1, 1]] [(0, vP gv), (1, vP ba), (2, vI bk)] [E548a5 gv c hd sn nx bk, E21626 ba A, E671ef A]) (by kernel_rfl) ?_
  refine ok_stop ?_
  refine go_tail_call (dst := (some 22)) (ps := [gv = gv, gv = gv, gv = gv]) (cs := [(124, #[vU sn, vI bk], vU (turnW sn bk))]) [(0, .h .w), (1, .h .w), (2, .h .w), (3, .h .w), (4, .h (.e 0)), (5, .h .w), (6, .h .w), (7, .h .w), (8, .h (.e 0)), (9, .h .w), (10, .h .w), (11, .h .w), (12, .h (.e 0)), (13, .h .w), (14, .q (vU (turnW sn bk)))] 15 [(16, .h .w)] [1, 2] [6] (by kernel_rfl) Tryz.call123 (arena_SwapT ba A hd sn (turnW sn bk) (by first | assumption | omega | (simp only [InK] at *; omega)) hh (by first | assumption | omega | (simp only [InK] at *; omega)) (by first | assumption | omega | (simp only [InK] at *; omega))) (by kernel_rfl) ⟨rfl, rfl, rfl, trivial⟩ ⟨⟨Tryz.call124, quiet_of [] (heads_Turn sn bk (by first | assumption | omega | (simp only [InK] at *; omega)) hk) (by kernel_rfl) (by rintro v post ⟨rfl, rfl⟩; exact ⟨rfl, rfl⟩)⟩, trivial⟩ ?_
  rintro v post ⟨rfl, rfl⟩
  refine tail_next (tm' := [(6, .bool true)]) (ps2 := []) (by kernel_rfl) trivial ?_
  refine go_exec (rs := [.tmp 6]) (by kernel_rfl) 4000 [] (o := .ret (.bool true) [E548a5 gv c hd sn nx bk, E21626 ba (A.swapT hd (turnW sn bk)), E671ef (A.swapT hd (turnW sn bk))]) (by kernel_rfl) ?_
  exact ret_ok (post := [E548a5 gv c hd sn nx bk, E21626 ba (A.swapT hd (turnW sn bk)), E671ef (A.swapT hd (turnW sn bk))]) [0, 1, 2] (by kernel_rfl) ⟨rfl, (by kernel_rfl)⟩

noncomputable def B121 : Code := (Tryz.f121.body).getD .skip

theorem give_thirdT (c : Cfg) (gv ba : Nat) (hd sn bk : Int) (A : Ar) (nx : Value) (hn : A.ws.length = A.n) (hs : 0 ≤ A.steps ∧ A.steps ≤ 1000000000) (hh : 0 ≤ hd ∧ hd < A.n) (hc : c.Ok) (hk : 0 ≤ bk ∧ bk ≤ 4294967295) (hb : 0 ≤ blockAt c bk ∧ blockAt c bk < A.n) (hw : 0 ≤ sn ∧ sn ≤ 18446744073709551615) (hq : (A.ws.getD hd.toNat 0) = sn) :
    Ctr Tryz.prog 121 #[vP gv, vP ba] [E548a5 gv c hd sn nx bk, E21626 ba A, E671ef A] (Ret (undef) [E548a5 gv c hd sn (.nilFunc) bk, E21626 ba (A.swapT hd (turnW sn bk)), E671ef (A.swapT hd (turnW sn bk))]) := by
  refine ctr_of (args := [vP gv, vP ba]) (fn := Tryz.f121) (body := B121) (nt := 23) Tryz.func121 (by kernel_rfl) (by kernel_rfl) ?_
  intro F
  refine go_exec (rs := []) (by kernel_rfl) 4000 [.e 0, .z [0, 1] 0 [0, 1]] (o := .obl (gv = gv) (.stop [.c [0, 1], .c [1, 1]] [(0, vP gv), (1, vP ba)] [E548a5 gv c hd sn (.func (.func 113) #[vP gv] #[]) bk, E21626 ba A, E671ef A])) (by kernel_rfl) ?_
  refine ok_obl rfl ?_
  refine ok_stop ?_
  refine go_tail_call (dst := (some 18)) (ps := [gv = gv]) (cs := []) [(0, .h .w), (1, .h .w), (2, .h .w), (3, .h .w), (4, .h .w), (5, .h .w), (6, .h .w), (7, .h (.e 0))] 8 [] [0, 1, 2] [0, 18] (by kernel_rfl) Tryz.call122 (run_turnT c gv ba hd sn bk A (.func (.func 113) #[vP gv] #[]) (by first | assumption | omega | (simp only [InK] at *; omega)) (by first | assumption | omega | (simp only [InK] at *; omega)) (by first | assumption | omega | (simp only [InK] at *; omega)) (by first | assumption | omega | (simp only [InK] at *; omega)) (by first | assumption | omega | (simp only [InK] at *; omega)) (by first | assumption | omega | (simp only [InK] at *; omega)) (by first | assumption | omega | (simp only [InK] at *; omega)) (by first | assumption | omega | (simp only [InK] at *; omega))) (by kernel_rfl) ⟨rfl, trivial⟩ trivial ?_
  rintro v post ⟨rfl, rfl⟩
  refine tail_next (tm' := [(0, vP gv), (18, .bool true)]) (ps2 := []) (by kernel_rfl) trivial ?_
  refine go_exec (rs := []) (by kernel_rfl) 4000 [.e 0] (o := .obl (gv = gv) (.ret (undef) [E548a5 gv c hd sn (.nilFunc) bk, E21626 ba (A.swapT hd (turnW sn bk)), E671ef (A.swapT hd (turnW sn bk))])) (by kernel_rfl) ?_
  refine ok_obl rfl ?_
  exact ret_ok (post := [E548a5 gv c hd sn (.nilFunc) bk, E21626 ba (A.swapT hd (turnW sn bk)), E671ef (A.swapT hd (turnW sn bk))]) [0, 1, 2] (by kernel_rfl) ⟨rfl, (by kernel_rfl)⟩


theorem run_turnF (c : Cfg) (gv ba : Nat) (hd sn bk : Int) (A : Ar) (nx : Value) (hn : A.ws.length = A.n) (hs : 0 ≤ A.steps ∧ A.steps ≤ 1000000000) (hh : 0 ≤ hd ∧ hd < A.n) (hc : c.Ok) (hk : 0 ≤ bk ∧ bk ≤ 4294967295) (hb : 0 ≤ blockAt c bk ∧ blockAt c bk < A.n) (hw : 0 ≤ sn ∧ sn ≤ 18446744073709551615) (hq : (A.ws.getD hd.toNat 0) ≠ sn) :
    Ctr Tryz.prog 122 #[vP gv, vP ba, vI bk] [E548a5 gv c hd sn nx bk, E21626 ba A, E671ef A] (Ret (.bool false) [E548a5 gv c hd sn nx bk, E21626 ba (A.swapF hd), E671ef (A.swapF hd)]) := by
  refine ctr_of (args := [vP gv, vP ba, vI bk]) (fn := Tryz.f122) (body := B122) (nt := 23) Tryz.func122 (by kernel_rfl) (by kernel_rfl) ?_
  intro F
  refine go_exec (rs := [.tmp 6]) (by kernel_rfl) 4000 [.z [0, 1] 0 [0, 1, 2]] (o := .stop [.c [0, 1], .c [1, 1]] [(0, vP gv), (1, vP ba), (2, vI bk)] [E548a5 gv c hd sn nx bk, E21626 ba A, E671ef A]) (by kernel_rfl) ?_
  refine ok_stop ?_
  refine go_tail_call (dst := (some 22)) (ps := [gv = gv, gv = gv, gv = gv]) (cs := [(124, #[vU sn, vI bk], vU (turnW sn bk))]) [(0, .h .w), (1, .h .w), (2, .h .w), (3, .h .w), (4, .h (.e 0)), (5, .h .w), (6, .h .w), (7, .h .w), (8, .h (.e 0)), (9, .h .w), (10, .h .w), (11, .h .w), (12, .h (.e 0)), (13, .h .w), (14, .q (vU (turnW sn bk)))] 15 [(16, .h .w)] [1, 2] [6] (by kernel_rfl) Tryz.call123 (arena_SwapF ba A hd sn (turnW sn bk) (by first | assumption | omega | (simp only [InK] at *; omega)) hh (by first | assumption | omega | (simp only [InK] at *; omega)) (by first | assumption | omega | (simp only [InK] at *; omega))) (by kernel_rfl) ⟨rfl, rfl, rfl, trivial⟩ ⟨⟨Tryz.call124, quiet_of [] (heads_Turn sn bk (by first | assumption | omega | (simp only [InK] at *; omega)) hk) (by kernel_rfl) (by rintro v post ⟨rfl, rfl⟩; exact ⟨rfl, rfl⟩)⟩, trivial⟩ ?_
  rintro v post ⟨rfl, rfl⟩
  refine tail_next (tm' := [(6, .bool false)]) (ps2 := []) (by kernel_rfl) trivial ?_
  refine go_exec (rs := [.tmp 6]) (by kernel_rfl) 4000 [] (o := .ret (.bool false) [E548a5 gv c hd sn nx bk, E21626 ba (A.swapF hd), E671ef (A.swapF hd)]) (by kernel_rfl) ?_
  exact ret_ok (post := [E548a5 gv c hd sn nx bk, E21626 ba (A.swapF hd), E671ef (A.swapF hd)]) [0, 1, 2] (by kernel_rfl) ⟨rfl, (by kernel_rfl)⟩


theorem give_thirdF (c : Cfg) (gv ba : Nat) (hd sn bk : Int) (A : Ar) (nx : Value) (hn : A.ws.length = A.n) (hs : 0 ≤ A.steps ∧ A.steps ≤ 1000000000) (hh : 0 ≤ hd ∧ hd < A.n) (hc : c.Ok) (hk : 0 ≤ bk ∧ bk ≤ 4294967295) (hb : 0 ≤ blockAt c bk ∧ blockAt c bk < A.n) (hw : 0 ≤ sn ∧ sn ≤ 18446744073709551615) (hq : (A.ws.getD hd.toNat 0) ≠ sn) :
    Ctr Tryz.prog 121 #[vP gv, vP ba] [E548a5 gv c hd sn nx bk, E21626 ba A, E671ef A] (Ret (undef) [E548a5 gv c hd sn (.func (.func 113) #[vP gv] #[]) bk, E21626 ba (A.swapF hd), E671ef (A.swapF hd)]) := by
  refine ctr_of (args := [vP gv, vP ba]) (fn := Tryz.f121) (body := B121) (nt := 23) Tryz.func121 (by kernel_rfl) (by kernel_rfl) ?_
  intro F
  refine go_exec (rs := []) (by kernel_rfl) 4000 [.e 0, .z [0, 1] 0 [0, 1]] (o := .obl (gv = gv) (.stop [.c [0, 1], .c [1, 1]] [(0, vP gv), (1, vP ba)] [E548a5 gv c hd sn (.func (.func 113) #[vP gv] #[]) bk, E21626 ba A, E671ef A])) (by kernel_rfl) ?_
  refine ok_obl rfl ?_
  refine ok_stop ?_
  refine go_tail_call (dst := (some 18)) (ps := [gv = gv]) (cs := []) [(0, .h .w), (1, .h .w), (2, .h .w), (3, .h .w), (4, .h .w), (5, .h .w), (6, .h .w), (7, .h (.e 0))] 8 [] [0, 1, 2] [0, 18] (by kernel_rfl) Tryz.call122 (run_turnF c gv ba hd sn bk A (.func (.func 113) #[vP gv] #[]) (by first | assumption | omega | (simp only [InK] at *; omega)) (by first | assumption | omega | (simp only [InK] at *; omega)) (by first | assumption | omega | (simp only [InK] at *; omega)) (by first | assumption | omega | (simp only [InK] at *; omega)) (by first | assumption | omega | (simp only [InK] at *; omega)) (by first | assumption | omega | (simp only [InK] at *; omega)) (by first | assumption | omega | (simp only [InK] at *; omega)) (by first | assumption | omega | (simp only [InK] at *; omega))) (by kernel_rfl) ⟨rfl, trivial⟩ trivial ?_
  rintro v post ⟨rfl, rfl⟩
  refine tail_next (tm' := [(0, vP gv), (18, .bool false)]) (ps2 := []) (by kernel_rfl) trivial ?_
  refine go_exec (rs := []) (by kernel_rfl) 4000 [] (o := .ret (undef) [E548a5 gv c hd sn (.func (.func 113) #[vP gv] #[]) bk, E21626 ba (A.swapF hd), E671ef (A.swapF hd)]) (by kernel_rfl) ?_
  exact ret_ok (post := [E548a5 gv c hd sn (.func (.func 113) #[vP gv] #[]) bk, E21626 ba (A.swapF hd), E671ef (A.swapF hd)]) [0, 1, 2] (by kernel_rfl) ⟨rfl, (by kernel_rfl)⟩

noncomputable def B102 : Code := (Tryz.f102.body).getD .skip

theorem run_Step0 (c : Cfg) (gv ba : Nat) (hd sn bk : Int) (A : Ar) (hn : A.ws.length = A.n) (hs : 0 ≤ A.steps ∧ A.steps ≤ 1000000000) (hh : 0 ≤ hd ∧ hd < A.n) (hc : c.Ok) (hk : 0 ≤ bk ∧ bk ≤ 4294967295) (hb : 0 ≤ blockAt c bk ∧ blockAt c bk < A.n) (hw : 0 ≤ sn ∧ sn ≤ 18446744073709551615) :
    Ctr Tryz.prog 102 #[vP gv, vP ba] [E548a5 gv c hd sn (.nilFunc) bk, E21626 ba A, E671ef A] (Ret (.bool true) [E548a5 gv c hd sn (.nilFunc) bk, E21626 ba A, E671ef A]) := by
  refine ctr_of (args := [vP gv, vP ba]) (fn := Tryz.f102) (body := B102) (nt := 16) Tryz.func102 (by kernel_rfl) (by kernel_rfl) ?_
  intro F
  refine go_exec (rs := [.tmp 4]) (by kernel_rfl) 4000 [.z [0, 0, 1] 1 [0, 1, 5]] (o := .stop [.o [0, 0, 1] 1, .c [1, 0, 1], .c [1, 1]] [(0, vP gv), (1, vP ba), (5, vP gv)] [E548a5 gv c hd sn (.nilFunc) bk, E21626 ba A, E671ef A]) (by kernel_rfl) ?_
  refine ok_stop ?_
  refine go_call (some 6) [0] Tryz.call114 (run_Done0 c gv hd sn bk) (by kernel_rfl) ?_
  rintro v post ⟨rfl, rfl⟩
  refine go_exec (rs := [.tmp 4]) (by kernel_rfl) 4000 [.z [0, 1, 1] 1 [14]] (o := .stop [.o [0, 1, 1] 1, .c [1, 1, 1]] [(14, vP gv)] [E21626 ba A, E671ef A, E548a5 gv c hd sn (.nilFunc) bk]) (by kernel_rfl) ?_
  refine ok_stop ?_
  refine go_call (some 15) [2] Tryz.call114 (run_Done0 c gv hd sn bk) (by kernel_rfl) ?_
  rintro v post ⟨rfl, rfl⟩
  refine go_exec (rs := [.tmp 4]) (by kernel_rfl) 4000 [] (o := .ret (.bool true) [E21626 ba A, E671ef A, E548a5 gv c hd sn (.nilFunc) bk]) (by kernel_rfl) ?_
  exact ret_ok (post := [E548a5 gv c hd sn (.nilFunc) bk, E21626 ba A, E671ef A]) [2, 0, 1] (by kernel_rfl) ⟨rfl, (by kernel_rfl)⟩


theorem run_Step1 (c : Cfg) (gv ba : Nat) (hd sn bk : Int) (A : Ar) (hn : A.ws.length = A.n) (hs : 0 ≤ A.steps ∧ A.steps ≤ 1000000000) (hh : 0 ≤ hd ∧ hd < A.n) (hc : c.Ok) (hk : 0 ≤ bk ∧ bk ≤ 4294967295) (hb : 0 ≤ blockAt c bk ∧ blockAt c bk < A.n) (hw : 0 ≤ sn ∧ sn ≤ 18446744073709551615) :
    Ctr Tryz.prog 102 #[vP gv, vP ba] [E548a5 gv c hd sn (.func (.func 113) #[vP gv] #[]) bk, E21626 ba A, E671ef A] (Ret (.bool false) [E548a5 gv c hd (A.ws.getD hd.toNat 0) (.func (.func 119) #[vP gv] #[]) bk, E21626 ba (A.load hd), E671ef (A.load hd)]) := by
  refine ctr_of (args := [vP gv, vP ba]) (fn := Tryz.f102) (body := B102) (nt := 16) Tryz.func102 (by kernel_rfl) (by kernel_rfl) ?_
  intro F
  refine go_exec (rs := [.tmp 4]) (by kernel_rfl) 4000 [.z [0, 0, 1] 1 [0, 1, 5]] (o := .stop [.o [0, 0, 1] 1, .c [1, 0, 1], .c [1, 1]] [(0, vP gv), (1, vP ba), (5, vP gv)] [E548a5 gv c hd sn (.func (.func 113) #[vP gv] #[]) bk, E21626 ba A, E671ef A]) (by kernel_rfl) ?_
  refine ok_stop ?_
  refine go_call (some 6) [0] Tryz.call114 (run_Done1 c gv hd sn bk) (by kernel_rfl) ?_
  rintro v post ⟨rfl, rfl⟩
  refine go_exec (rs := [.tmp 4]) (by kernel_rfl) 4000 [.e 2, .z [0, 1, 0, 1] 5 [0, 11, 12]] (o := .obl (gv = gv) (.stop [.o [0, 1, 0, 1] 5, .c [1, 1]] [(0, vP gv), (11, .func (.func 113) #[vP gv] #[]), (12, vP ba)] [E21626 ba A, E671ef A, E548a5 gv c hd sn (.func (.func 113) #[vP gv] #[]) bk])) (by kernel_rfl) ?_
  refine ok_obl rfl ?_
  refine ok_stop ?_
  refine go_call (some 13) [2, 0, 1] Tryz.call113 (give_first c gv ba hd sn bk A (.func (.func 113) #[vP gv] #[]) (by first | assumption | omega | (simp only [InK] at *; omega)) (by first | assumption | omega | (simp only [InK] at *; omega)) (by first | assumption | omega | (simp only [InK] at *; omega))) (by kernel_rfl) ?_
  rintro v post ⟨rfl, rfl⟩
  refine go_exec (rs := [.tmp 4]) (by kernel_rfl) 4000 [.z [0, 1, 1] 1 [14]] (o := .stop [.o [0, 1, 1] 1, .c [1, 1, 1]] [(14, vP gv)] [E548a5 gv c hd (A.ws.getD hd.toNat 0) (.func (.func 119) #[vP gv] #[]) bk, E21626 ba (A.load hd), E671ef (A.load hd)]) (by kernel_rfl) ?_
  refine ok_stop ?_
  refine go_call (some 15) [0] Tryz.call114 (run_Done2 c gv hd (A.ws.getD hd.toNat 0) bk) (by kernel_rfl) ?_
  rintro v post ⟨rfl, rfl⟩
  refine go_exec (rs := [.tmp 4]) (by kernel_rfl) 4000 [] (o := .ret (.bool false) [E21626 ba (A.load hd), E671ef (A.load hd), E548a5 gv c hd (A.ws.getD hd.toNat 0) (.func (.func 119) #[vP gv] #[]) bk]) (by kernel_rfl) ?_
  exact ret_ok (post := [E548a5 gv c hd (A.ws.getD hd.toNat 0) (.func (.func 119) #[vP gv] #[]) bk, E21626 ba (A.load hd), E671ef (A.load hd)]) [2, 0, 1] (by kernel_rfl) ⟨rfl, (by kernel_rfl)⟩


theorem run_Step2 (c : Cfg) (gv ba : Nat) (hd sn bk : Int) (A : Ar) (hn : A.ws.length = A.n) (hs : 0 ≤ A.steps ∧ A.steps ≤ 1000000000) (hh : 0 ≤ hd ∧ hd < A.n) (hc : c.Ok) (hk : 0 ≤ bk ∧ bk ≤ 4294967295) (hb : 0 ≤ blockAt c bk ∧ blockAt c bk < A.n) (hw : 0 ≤ sn ∧ sn ≤ 18446744073709551615) :
    Ctr Tryz.prog 102 #[vP gv, vP ba] [E548a5 gv c hd sn (.func (.func 119) #[vP gv] #[]) bk, E21626 ba A, E671ef A] (Ret (.bool false) [E548a5 gv c hd sn (.func (.func 121) #[vP gv] #[]) bk, E21626 ba (A.store (blockAt c bk) (lo32 sn)), E671ef (A.store (blockAt c bk) (lo32 sn))]) := by
  refine ctr_of (args := [vP gv, vP ba]) (fn := Tryz.f102) (body := B102) (nt := 16) Tryz.func102 (by kernel_rfl) (by kernel_rfl) ?_
  intro F
  refine go_exec (rs := [.tmp 4]) (by kernel_rfl) 4000 [.z [0, 0, 1] 1 [0, 1, 5]] (o := .stop [.o [0, 0, 1] 1, .c [1, 0, 1], .c [1, 1]] [(0, vP gv), (1, vP ba), (5, vP gv)] [E548a5 gv c hd sn (.func (.func 119) #[vP gv] #[]) bk, E21626 ba A, E671ef A]) (by kernel_rfl) ?_
  refine ok_stop ?_
  refine go_call (some 6) [0] Tryz.call114 (run_Done2 c gv hd sn bk) (by kernel_rfl) ?_
  rintro v post ⟨rfl, rfl⟩
  refine go_exec (rs := [.tmp 4]) (by kernel_rfl) 4000 [.e 2, .z [0, 1, 0, 1] 5 [0, 11, 12]] (o := .obl (gv = gv) (.stop [.o [0, 1, 0, 1] 5, .c [1, 1]] [(0, vP gv), (11, .func (.func 119) #[vP gv] #[]), (12, vP ba)] [E21626 ba A, E671ef A, E548a5 gv c hd sn (.func (.func 119) #[vP gv] #[]) bk])) (by kernel_rfl) ?_
  refine ok_obl rfl ?_
  refine ok_stop ?_
  refine go_call (some 13) [2, 0, 1] Tryz.call119 (give_second c gv ba hd sn bk A (.func (.func 119) #[vP gv] #[]) (by first | assumption | omega | (simp only [InK] at *; omega)) (by first | assumption | omega | (simp only [InK] at *; omega)) (by first | assumption | omega | (simp only [InK] at *; omega)) (by first | assumption | omega | (simp only [InK] at *; omega)) (by first | assumption | omega | (simp only [InK] at *; omega)) (by first | assumption | omega | (simp only [InK] at *; omega))) (by kernel_rfl) ?_
  rintro v post ⟨rfl, rfl⟩
  refine go_exec (rs := [.tmp 4]) (by kernel_rfl) 4000 [.z [0, 1, 1] 1 [14]] (o := .stop [.o [0, 1, 1] 1, .c [1, 1, 1]] [(14, vP gv)] [E548a5 gv c hd sn (.func (.func 121) #[vP gv] #[]) bk, E21626 ba (A.store (blockAt c bk) (lo32 sn)), E671ef (A.store (blockAt c bk) (lo32 sn))]) (by kernel_rfl) ?_
  refine ok_stop ?_
  refine go_call (some 15) [0] Tryz.call114 (run_Done3 c gv hd sn bk) (by kernel_rfl) ?_
  rintro v post ⟨rfl, rfl⟩
  refine go_exec (rs := [.tmp 4]) (by kernel_rfl) 4000 [] (o := .ret (.bool false) [E21626 ba (A.store (blockAt c bk) (lo32 sn)), E671ef (A.store (blockAt c bk) (lo32 sn)), E548a5 gv c hd sn (.func (.func 121) #[vP gv] #[]) bk]) (by kernel_rfl) ?_
  exact ret_ok (post := [E548a5 gv c hd sn (.func (.func 121) #[vP gv] #[]) bk, E21626 ba (A.store (blockAt c bk) (lo32 sn)), E671ef (A.store (blockAt c bk) (lo32 sn))]) [2, 0, 1] (by kernel_rfl) ⟨rfl, (by kernel_rfl)⟩


theorem run_Step3T (c : Cfg) (gv ba : Nat) (hd sn bk : Int) (A : Ar) (hn : A.ws.length = A.n) (hs : 0 ≤ A.steps ∧ A.steps ≤ 1000000000) (hh : 0 ≤ hd ∧ hd < A.n) (hc : c.Ok) (hk : 0 ≤ bk ∧ bk ≤ 4294967295) (hb : 0 ≤ blockAt c bk ∧ blockAt c bk < A.n) (hw : 0 ≤ sn ∧ sn ≤ 18446744073709551615) (hq : (A.ws.getD hd.toNat 0) = sn) :
    Ctr Tryz.prog 102 #[vP gv, vP ba] [E548a5 gv c hd sn (.func (.func 121) #[vP gv] #[]) bk, E21626 ba A, E671ef A] (Ret (.bool true) [E548a5 gv c hd sn (.nilFunc) bk, E21626 ba (A.swapT hd (turnW sn bk)), E671ef (A.swapT hd (turnW sn bk))]) := by
  refine ctr_of (args := [vP gv, vP ba]) (fn := Tryz.f102) (body := B102) (nt := 16) Tryz.func102 (by kernel_rfl) (by kernel_rfl) ?_
  intro F
  refine go_exec (rs := [.tmp 4]) (by kernel_rfl) 4000 [.z [0, 0, 1] 1 [0, 1, 5]] (o := .stop [.o [0, 0, 1] 1, .c [1, 0, 1], .c [1, 1]] [(0, vP gv), (1, vP ba), (5, vP gv)] [E548a5 gv c hd sn (.func (.func 121) #[vP gv] #[]) bk, E21626 ba A, E671ef A]) (by kernel_rfl) ?_
  refine ok_stop ?_
  refine go_call (some 6) [0] Tryz.call114 (run_Done3 c gv hd sn bk) (by kernel_rfl) ?_
  rintro v post ⟨rfl, rfl⟩
  refine go_exec (rs := [.tmp 4]) (by kernel_rfl) 4000 [.e 2, .z [0, 1, 0, 1] 5 [0, 11, 12]] (o := .obl (gv = gv) (.stop [.o [0, 1, 0, 1] 5, .c [1, 1]] [(0, vP gv), (11, .func (.func 121) #[vP gv] #[]), (12, vP ba)] [E21626 ba A, E671ef A, E548a5 gv c hd sn (.func (.func 121) #[vP gv] #[]) bk])) (by kernel_rfl) ?_
  refine ok_obl rfl ?_
  refine ok_stop ?_
  refine go_call (some 13) [2, 0, 1] Tryz.call121 (give_thirdT c gv ba hd sn bk A (.func (.func 121) #[vP gv] #[]) (by first | assumption | omega | (simp only [InK] at *; omega)) (by first | assumption | omega | (simp only [InK] at *; omega)) (by first | assumption | omega | (simp only [InK] at *; omega)) (by first | assumption | omega | (simp only [InK] at *; omega)) (by first | assumption | omega | (simp only [InK] at *; omega)) (by first | assumption | omega | (simp only [InK] at *; omega)) (by first | assumption | omega | (simp only [InK] at *; omega)) (by first | assumption | omega | (simp only [InK] at *; omega))) (by kernel_rfl) ?_
  rintro v post ⟨rfl, rfl⟩
  refine go_exec (rs := [.tmp 4]) (by kernel_rfl) 4000 [.z [0, 1, 1] 1 [14]] (o := .stop [.o [0, 1, 1] 1, .c [1, 1, 1]] [(14, vP gv)] [E548a5 gv c hd sn (.nilFunc) bk, E21626 ba (A.swapT hd (turnW sn bk)), E671ef (A.swapT hd (turnW sn bk))]) (by kernel_rfl) ?_
  refine ok_stop ?_
  refine go_call (some 15) [0] Tryz.call114 (run_Done0 c gv hd sn bk) (by kernel_rfl) ?_
  rintro v post ⟨rfl, rfl⟩
  refine go_exec (rs := [.tmp 4]) (by kernel_rfl) 4000 [] (o := .ret (.bool true) [E21626 ba (A.swapT hd (turnW sn bk)), E671ef (A.swapT hd (turnW sn bk)), E548a5 gv c hd sn (.nilFunc) bk]) (by kernel_rfl) ?_
  exact ret_ok (post := [E548a5 gv c hd sn (.nilFunc) bk, E21626 ba (A.swapT hd (turnW sn bk)), E671ef (A.swapT hd (turnW sn bk))]) [2, 0, 1] (by kernel_rfl) ⟨rfl, (by kernel_rfl)⟩


theorem run_Step3F (c : Cfg) (gv ba : Nat) (hd sn bk : Int) (A : Ar) (hn : A.ws.length = A.n) (hs : 0 ≤ A.steps ∧ A.steps ≤ 1000000000) (hh : 0 ≤ hd ∧ hd < A.n) (hc : c.Ok) (hk : 0 ≤ bk ∧ bk ≤ 4294967295) (hb : 0 ≤ blockAt c bk ∧ blockAt c bk < A.n) (hw : 0 ≤ sn ∧ sn ≤ 18446744073709551615) (hq : (A.ws.getD hd.toNat 0) ≠ sn) :
    Ctr Tryz.prog 102 #[vP gv, vP ba] [E548a5 gv c hd sn (.func (.func 121) #[vP gv] #[]) bk, E21626 ba A, E671ef A] (Ret (.bool false) [E548a5 gv c hd sn (.func (.func 113) #[vP gv] #[]) bk, E21626 ba (A.swapF hd), E671ef (A.swapF hd)]) := by
  refine ctr_of (args := [vP gv, vP ba]) (fn := Tryz.f102) (body := B102) (nt := 16) Tryz.func102 (by kernel_rfl) (by kernel_rfl) ?_
  intro F
  refine go_exec (rs := [.tmp 4]) (by kernel_rfl) 4000 [.z [0, 0, 1] 1 [0, 1, 5]] (o := .stop [.o [0, 0, 1] 1, .c [1, 0, 1], .c [1, 1]] [(0, vP gv), (1, vP ba), (5, vP gv)] [E548a5 gv c hd sn (.func (.func 121) #[vP gv] #[]) bk, E21626 ba A, E671ef A]) (by kernel_rfl) ?_
  refine ok_stop ?_
  refine go_call (some 6) [0] Tryz.call114 (run_Done3 c gv hd sn bk) (by kernel_rfl) ?_
  rintro v post ⟨rfl, rfl⟩
  refine go_exec (rs := [.tmp 4]) (by kernel_rfl) 4000 [.e 2, .z [0, 1, 0, 1] 5 [0, 11, 12]] (o := .obl (gv = gv) (.stop [.o [0, 1, 0, 1] 5, .c [1, 1]] [(0, vP gv), (11, .func (.func 121) #[vP gv] #[]), (12, vP ba)] [E21626 ba A, E671ef A, E548a5 gv c hd sn (.func (.func 121) #[vP gv] #[]) bk])) (by kernel_rfl) ?_
  refine ok_obl rfl ?_
  refine ok_stop ?_
  refine go_call (some 13) [2, 0, 1] Tryz.call121 (give_thirdF c gv ba hd sn bk A (.func (.func 121) #[vP gv] #[]) (by first | assumption | omega | (simp only [InK] at *; omega)) (by first | assumption | omega | (simp only [InK] at *; omega)) (by first | assumption | omega | (simp only [InK] at *; omega)) (by first | assumption | omega | (simp only [InK] at *; omega)) (by first | assumption | omega | (simp only [InK] at *; omega)) (by first | assumption | omega | (simp only [InK] at *; omega)) (by first | assumption | omega | (simp only [InK] at *; omega)) (by first | assumption | omega | (simp only [InK] at *; omega))) (by kernel_rfl) ?_
  rintro v post ⟨rfl, rfl⟩
  refine go_exec (rs := [.tmp 4]) (by kernel_rfl) 4000 [.z [0, 1, 1] 1 [14]] (o := .stop [.o [0, 1, 1] 1, .c [1, 1, 1]] [(14, vP gv)] [E548a5 gv c hd sn (.func (.func 113) #[vP gv] #[]) bk, E21626 ba (A.swapF hd), E671ef (A.swapF hd)]) (by kernel_rfl) ?_
  refine ok_stop ?_
  refine go_call (some 15) [0] Tryz.call114 (run_Done1 c gv hd sn bk) (by kernel_rfl) ?_
  rintro v post ⟨rfl, rfl⟩
  refine go_exec (rs := [.tmp 4]) (by kernel_rfl) 4000 [] (o := .ret (.bool false) [E21626 ba (A.swapF hd), E671ef (A.swapF hd), E548a5 gv c hd sn (.func (.func 113) #[vP gv] #[]) bk]) (by kernel_rfl) ?_
  exact ret_ok (post := [E548a5 gv c hd sn (.func (.func 113) #[vP gv] #[]) bk, E21626 ba (A.swapF hd), E671ef (A.swapF hd)]) [2, 0, 1] (by kernel_rfl) ⟨rfl, (by kernel_rfl)⟩

noncomputable def B80 : Code := (Tryz.f80.body).getD .skip

theorem gstep0 (c : Cfg) (gv ba : Nat) (hd sn bk : Int) (A : Ar) (hn : A.ws.length = A.n) (hs : 0 ≤ A.steps ∧ A.steps ≤ 1000000000) (hh : 0 ≤ hd ∧ hd < A.n) (hc : c.Ok) (hk : 0 ≤ bk ∧ bk ≤ 4294967295) (hb : 0 ≤ blockAt c bk ∧ blockAt c bk < A.n) (hw : 0 ≤ sn ∧ sn ≤ 18446744073709551615) :
    Ctr Tryz.prog 80 #[vP gv, vP ba] [E548a5 gv c hd sn (.nilFunc) bk, E21626 ba A, E671ef A] (Ret (.bool true) [E548a5 gv c hd sn (.nilFunc) bk, E21626 ba A, E671ef A]) := by
  refine ctr_of (args := [vP gv, vP ba]) (fn := Tryz.f80) (body := B80) (nt := 14) Tryz.func80 (by kernel_rfl) (by kernel_rfl) ?_
  intro F
  refine go_exec (rs := [.tmp 4]) (by kernel_rfl) 4000 [.z [0, 1] 7 [7, 10, 11]] (o := .stop [.o [0, 1] 7, .c [1, 1]] [(7, .bool false), (10, vP gv), (11, vP ba)] [E548a5 gv c hd sn (.nilFunc) bk, E21626 ba A, E671ef A]) (by kernel_rfl) ?_
  refine ok_stop ?_
  refine go_call (some 12) [0, 1, 2] Tryz.call102 (run_Step0 c gv ba hd sn bk A (by first | assumption | omega | (simp only [InK] at *; omega)) (by first | assumption | omega | (simp only [InK] at *; omega)) (by first | assumption | omega | (simp only [InK] at *; omega)) (by first | assumption | omega | (simp only [InK] at *; omega)) (by first | assumption | omega | (simp only [InK] at *; omega)) (by first | assumption | omega | (simp only [InK] at *; omega)) (by first | assumption | omega | (simp only [InK] at *; omega))) (by kernel_rfl) ?_
  rintro v post ⟨rfl, rfl⟩
  refine go_exec (rs := [.tmp 4]) (by kernel_rfl) 4000 [] (o := .ret (.bool true) [E548a5 gv c hd sn (.nilFunc) bk, E21626 ba A, E671ef A]) (by kernel_rfl) ?_
  exact ret_ok (post := [E548a5 gv c hd sn (.nilFunc) bk, E21626 ba A, E671ef A]) [0, 1, 2] (by kernel_rfl) ⟨rfl, (by kernel_rfl)⟩


theorem gstep1 (c : Cfg) (gv ba : Nat) (hd sn bk : Int) (A : Ar) (hn : A.ws.length = A.n) (hs : 0 ≤ A.steps ∧ A.steps ≤ 1000000000) (hh : 0 ≤ hd ∧ hd < A.n) (hc : c.Ok) (hk : 0 ≤ bk ∧ bk ≤ 4294967295) (hb : 0 ≤ blockAt c bk ∧ blockAt c bk < A.n) (hw : 0 ≤ sn ∧ sn ≤ 18446744073709551615) :
    Ctr Tryz.prog 80 #[vP gv, vP ba] [E548a5 gv c hd sn (.func (.func 113) #[vP gv] #[]) bk, E21626 ba A, E671ef A] (Ret (.bool false) [E548a5 gv c hd (A.ws.getD hd.toNat 0) (.func (.func 119) #[vP gv] #[]) bk, E21626 ba (A.load hd), E671ef (A.load hd)]) := by
  refine ctr_of (args := [vP gv, vP ba]) (fn := Tryz.f80) (body := B80) (nt := 14) Tryz.func80 (by kernel_rfl) (by kernel_rfl) ?_
  intro F
  refine go_exec (rs := [.tmp 4]) (by kernel_rfl) 4000 [.z [0, 1] 7 [7, 10, 11]] (o := .stop [.o [0, 1] 7, .c [1, 1]] [(7, .bool false), (10, vP gv), (11, vP ba)] [E548a5 gv c hd sn (.func (.func 113) #[vP gv] #[]) bk, E21626 ba A, E671ef A]) (by kernel_rfl) ?_
  refine ok_stop ?_
  refine go_call (some 12) [0, 1, 2] Tryz.call102 (run_Step1 c gv ba hd sn bk A (by first | assumption | omega | (simp only [InK] at *; omega)) (by first | assumption | omega | (simp only [InK] at *; omega)) (by first | assumption | omega | (simp only [InK] at *; omega)) (by first | assumption | omega | (simp only [InK] at *; omega)) (by first | assumption | omega | (simp only [InK] at *; omega)) (by first | assumption | omega | (simp only [InK] at *; omega)) (by first | assumption | omega | (simp only [InK] at *; omega))) (by kernel_rfl) ?_
  rintro v post ⟨rfl, rfl⟩
  refine go_exec (rs := [.tmp 4]) (by kernel_rfl) 4000 [] (o := .ret (.bool false) [E548a5 gv c hd (A.ws.getD hd.toNat 0) (.func (.func 119) #[vP gv] #[]) bk, E21626 ba (A.load hd), E671ef (A.load hd)]) (by kernel_rfl) ?_
  exact ret_ok (post := [E548a5 gv c hd (A.ws.getD hd.toNat 0) (.func (.func 119) #[vP gv] #[]) bk, E21626 ba (A.load hd), E671ef (A.load hd)]) [0, 1, 2] (by kernel_rfl) ⟨rfl, (by kernel_rfl)⟩


theorem gstep2 (c : Cfg) (gv ba : Nat) (hd sn bk : Int) (A : Ar) (hn : A.ws.length = A.n) (hs : 0 ≤ A.steps ∧ A.steps ≤ 1000000000) (hh : 0 ≤ hd ∧ hd < A.n) (hc : c.Ok) (hk : 0 ≤ bk ∧ bk ≤ 4294967295) (hb : 0 ≤ blockAt c bk ∧ blockAt c bk < A.n) (hw : 0 ≤ sn ∧ sn ≤ 18446744073709551615) :
    Ctr Tryz.prog 80 #[vP gv, vP ba] [E548a5 gv c hd sn (.func (.func 119) #[vP gv] #[]) bk, E21626 ba A, E671ef A] (Ret (.bool false) [E548a5 gv c hd sn (.func (.func 121) #[vP gv] #[]) bk, E21626 ba (A.store (blockAt c bk) (lo32 sn)), E671ef (A.store (blockAt c bk) (lo32 sn))]) := by
  refine ctr_of (args := [vP gv, vP ba]) (fn := Tryz.f80) (body := B80) (nt := 14) Tryz.func80 (by kernel_rfl) (by kernel_rfl) ?_
  intro F
  refine go_exec (rs := [.tmp 4]) (by kernel_rfl) 4000 [.z [0, 1] 7 [7, 10, 11]] (o := .stop [.o [0, 1] 7, .c [1, 1]] [(7, .bool false), (10, vP gv), (11, vP ba)] [E548a5 gv c hd sn (.func (.func 119) #[vP gv] #[]) bk, E21626 ba A, E671ef A]) (by kernel_rfl) ?_
  refine ok_stop ?_
  refine go_call (some 12) [0, 1, 2] Tryz.call102 (run_Step2 c gv ba hd sn bk A (by first | assumption | omega | (simp only [InK] at *; omega)) (by first | assumption | omega | (simp only [InK] at *; omega)) (by first | assumption | omega | (simp only [InK] at *; omega)) (by first | assumption | omega | (simp only [InK] at *; omega)) (by first | assumption | omega | (simp only [InK] at *; omega)) (by first | assumption | omega | (simp only [InK] at *; omega)) (by first | assumption | omega | (simp only [InK] at *; omega))) (by kernel_rfl) ?_
  rintro v post ⟨rfl, rfl⟩
  refine go_exec (rs := [.tmp 4]) (by kernel_rfl) 4000 [] (o := .ret (.bool false) [E548a5 gv c hd sn (.func (.func 121) #[vP gv] #[]) bk, E21626 ba (A.store (blockAt c bk) (lo32 sn)), E671ef (A.store (blockAt c bk) (lo32 sn))]) (by kernel_rfl) ?_
  exact ret_ok (post := [E548a5 gv c hd sn (.func (.func 121) #[vP gv] #[]) bk, E21626 ba (A.store (blockAt c bk) (lo32 sn)), E671ef (A.store (blockAt c bk) (lo32 sn))]) [0, 1, 2] (by kernel_rfl) ⟨rfl, (by kernel_rfl)⟩


theorem gstep3T (c : Cfg) (gv ba : Nat) (hd sn bk : Int) (A : Ar) (hn : A.ws.length = A.n) (hs : 0 ≤ A.steps ∧ A.steps ≤ 1000000000) (hh : 0 ≤ hd ∧ hd < A.n) (hc : c.Ok) (hk : 0 ≤ bk ∧ bk ≤ 4294967295) (hb : 0 ≤ blockAt c bk ∧ blockAt c bk < A.n) (hw : 0 ≤ sn ∧ sn ≤ 18446744073709551615) (hq : (A.ws.getD hd.toNat 0) = sn) :
    Ctr Tryz.prog 80 #[vP gv, vP ba] [E548a5 gv c hd sn (.func (.func 121) #[vP gv] #[]) bk, E21626 ba A, E671ef A] (Ret (.bool true) [E548a5 gv c hd sn (.nilFunc) bk, E21626 ba (A.swapT hd (turnW sn bk)), E671ef (A.swapT hd (turnW sn bk))]) := by
  refine ctr_of (args := [vP gv, vP ba]) (fn := Tryz.f80) (body := B80) (nt := 14) Tryz.func80 (by kernel_rfl) (by kernel_rfl) ?_
  intro F
  refine go_exec (rs := [.tmp 4]) (by kernel_rfl) 4000 [.z [0, 1] 7 [7, 10, 11]] (o := .stop [.o [0, 1] 7, .c [1, 1]] [(7, .bool false), (10, vP gv), (11, vP ba)] [E548a5 gv c hd sn (.func (.func 121) #[vP gv] #[]) bk, E21626 ba A, E671ef A]) (by kernel_rfl) ?_
  refine ok_stop ?_
  refine go_call (some 12) [0, 1, 2] Tryz.call102 (run_Step3T c gv ba hd sn bk A (by first | assumption | omega | (simp only [InK] at *; omega)) (by first | assumption | omega | (simp only [InK] at *; omega)) (by first | assumption | omega | (simp only [InK] at *; omega)) (by first | assumption | omega | (simp only [InK] at *; omega)) (by first | assumption | omega | (simp only [InK] at *; omega)) (by first | assumption | omega | (simp only [InK] at *; omega)) (by first | assumption | omega | (simp only [InK] at *; omega)) (by first | assumption | omega | (simp only [InK] at *; omega))) (by kernel_rfl) ?_
  rintro v post ⟨rfl, rfl⟩
  refine go_exec (rs := [.tmp 4]) (by kernel_rfl) 4000 [] (o := .ret (.bool true) [E548a5 gv c hd sn (.nilFunc) bk, E21626 ba (A.swapT hd (turnW sn bk)), E671ef (A.swapT hd (turnW sn bk))]) (by kernel_rfl) ?_
  exact ret_ok (post := [E548a5 gv c hd sn (.nilFunc) bk, E21626 ba (A.swapT hd (turnW sn bk)), E671ef (A.swapT hd (turnW sn bk))]) [0, 1, 2] (by kernel_rfl) ⟨rfl, (by kernel_rfl)⟩


theorem gstep3F (c : Cfg) (gv ba : Nat) (hd sn bk : Int) (A : Ar) (hn : A.ws.length = A.n) (hs : 0 ≤ A.steps ∧ A.steps ≤ 1000000000) (hh : 0 ≤ hd ∧ hd < A.n) (hc : c.Ok) (hk : 0 ≤ bk ∧ bk ≤ 4294967295) (hb : 0 ≤ blockAt c bk ∧ blockAt c bk < A.n) (hw : 0 ≤ sn ∧ sn ≤ 18446744073709551615) (hq : (A.ws.getD hd.toNat 0) ≠ sn) :
    Ctr Tryz.prog 80 #[vP gv, vP ba] [E548a5 gv c hd sn (.func (.func 121) #[vP gv] #[]) bk, E21626 ba A, E671ef A] (Ret (.bool false) [E548a5 gv c hd sn (.func (.func 113) #[vP gv] #[]) bk, E21626 ba (A.swapF hd), E671ef (A.swapF hd)]) := by
  refine ctr_of (args := [vP gv, vP ba]) (fn := Tryz.f80) (body := B80) (nt := 14) Tryz.func80 (by kernel_rfl) (by kernel_rfl) ?_
  intro F
  refine go_exec (rs := [.tmp 4]) (by kernel_rfl) 4000 [.z [0, 1] 7 [7, 10, 11]] (o := .stop [.o [0, 1] 7, .c [1, 1]] [(7, .bool false), (10, vP gv), (11, vP ba)] [E548a5 gv c hd sn (.func (.func 121) #[vP gv] #[]) bk, E21626 ba A, E671ef A]) (by kernel_rfl) ?_
  refine ok_stop ?_
  refine go_call (some 12) [0, 1, 2] Tryz.call102 (run_Step3F c gv ba hd sn bk A (by first | assumption | omega | (simp only [InK] at *; omega)) (by first | assumption | omega | (simp only [InK] at *; omega)) (by first | assumption | omega | (simp only [InK] at *; omega)) (by first | assumption | omega | (simp only [InK] at *; omega)) (by first | assumption | omega | (simp only [InK] at *; omega)) (by first | assumption | omega | (simp only [InK] at *; omega)) (by first | assumption | omega | (simp only [InK] at *; omega)) (by first | assumption | omega | (simp only [InK] at *; omega))) (by kernel_rfl) ?_
  rintro v post ⟨rfl, rfl⟩
  refine go_exec (rs := [.tmp 4]) (by kernel_rfl) 4000 [] (o := .ret (.bool false) [E548a5 gv c hd sn (.func (.func 113) #[vP gv] #[]) bk, E21626 ba (A.swapF hd), E671ef (A.swapF hd)]) (by kernel_rfl) ?_
  exact ret_ok (post := [E548a5 gv c hd sn (.func (.func 113) #[vP gv] #[]) bk, E21626 ba (A.swapF hd), E671ef (A.swapF hd)]) [0, 1, 2] (by kernel_rfl) ⟨rfl, (by kernel_rfl)⟩


theorem give_Step (c : Cfg) (gv ba : Nat) (G : Gv) (A : Ar) (hn : A.ws.length = A.n) (hs : 0 ≤ A.steps ∧ A.steps ≤ 1000000000) (hc : c.Ok) (hg : Gv.Ok c A.n G) :
    Ctr Tryz.prog 80 #[vP gv, vP ba] [Ebd80e gv c G (nxV gv G.ph), E21626 ba A, E671ef A] (Ret (.bool ((G.step c A).1.ph == 0)) [Ebd80e gv c ((G.step c A).1) (nxV gv ((G.step c A).1).ph), E21626 ba ((G.step c A).2), E671ef ((G.step c A).2)]) := by
  obtain ⟨hd, sn, bk, ph⟩ := G
  obtain ⟨hph, hh, hw, hk, hb⟩ := hg
  simp only at hph hh hw hk hb
  match ph, hph with
  | 0, _ => exact gstep0 c gv ba hd sn bk A hn hs hh hc hk hb hw
  | 1, _ => exact gstep1 c gv ba hd sn bk A hn hs hh hc hk hb hw
  | 2, _ => exact gstep2 c gv ba hd sn bk A hn hs hh hc hk hb hw
  | 3, _ =>
    by_cases hq : A.ws.getD hd.toNat 0 = sn
    · have e : Gv.step c ⟨hd, sn, bk, 3⟩ A = (⟨hd, sn, bk, 0⟩, A.swapT hd (turnW sn bk)) := by simp only [Gv.step, if_pos hq]
      rw [e]; exact gstep3T c gv ba hd sn bk A hn hs hh hc hk hb hw hq
    · have e : Gv.step c ⟨hd, sn, bk, 3⟩ A = (⟨hd, sn, bk, 1⟩, A.swapF hd) := by simp only [Gv.step, if_neg hq]
      rw [e]; exact gstep3F c gv ba hd sn bk A hn hs hh hc hk hb hw hq
  | n + 4, h => omega

end Go.Proofs.YtilaihbbollcnaaGreatDoor


namespace Go.Proofs.YtilaihbbollcnaaGreatDoor
open Go.Sx
abbrev Ee1326 (x0 : Option Addr) (x1 : Nat) (x2 : List Int) : Ent := .sl x0 x1 (encI .i64) 0 1 x2 3
abbrev q3_0 : List Nat := [1, 0, 0, 1, 1, 0, 0, 1, 0, 1, 1, 1, 1]
abbrev q3_1 : List Nat := [1, 1, 1, 0, 0, 1, 0, 1, 1, 1, 1]
abbrev q3_2 : List Nat := [0, 1, 0, 1, 1, 1, 1]
noncomputable def B75 : Code := (Tryz.f75.body).getD .skip

theorem clone_some_i64 (ad : Addr) (c : Nat) (xs : List Int) (hl : xs.length ≤ 1000000) :
    Ctr Tryz.prog 75 #[.slice (some ad) xs.length c] [Ee1326 (some ad) c xs] (fun v L => ∃ (a2 : Option Addr) (c2 : Nat), v = .slice a2 xs.length c2 ∧ L = [Ee1326 (some ad) c xs, Ee1326 a2 c2 xs]) := by
  refine ctr_of (args := [.slice (some ad) xs.length c]) (fn := Tryz.f75) (body := B75) (nt := 8) Tryz.func75 (by kernel_rfl) (by kernel_rfl) ?_
  intro F
  refine go_exec (rs := [.tmp 2]) (by kernel_rfl) 4000 [.z [0, 1, 1] 2 [5, 6]] (o := .new fun b_1 => .stop [.o [0, 1, 1] 2, .c [1, 1, 1]] [(5, .slice (some ⟨b_1, 0, none⟩) 0 0), (6, .slice (some ad) xs.length c)] [Ee1326 (some ad) c xs, .pts b_1 [] 3]) (by kernel_rfl) ?_
  refine ok_new fun b_1 => ?_
  refine ok_stop ?_
  refine go_view (L' := [Ee1326 (some ad) c xs, Ee1326 (some ⟨b_1, 0, none⟩) 0 []]) (view_empty 1 (b := b_1) (encI .i64) 0 1 3 (sizedI _) (by kernel_rfl)) ?_
  refine go_by (some 7) (appO Tryz.prog _) (some (.slice (some ⟨b_1, 0, none⟩) ([]).length 0, .slice (some ad) xs.length c, (3, 1, 8))) (R_append 1 (a := (some ⟨b_1, 0, none⟩)) (c := 0) (enc := encI .i64) (d := 0) (sz := 1) (xs := []) (te := 3) (by kernel_rfl) (.slice (some ad) xs.length c) xs (src_sl (i := 0) (d := 0) (sz := 1) (t := 3) (by kernel_rfl)) (oneI _) 8 (by first | omega | (simp; done) | (simp; omega)) (by first | omega | (simp; done) | (simp; omega))) (by kernel_rfl) ?_
  rintro v L2 ⟨a_2, c_3, rfl, rfl⟩
  refine go_exec (rs := [.tmp 2]) (by kernel_rfl) 4000 [] (o := .ret (.slice a_2 (([] ++ xs).length) c_3) [Ee1326 (some ad) c xs, Ee1326 a_2 c_3 ([] ++ xs)]) (by kernel_rfl) ?_
  exact ret_ok (post := [Ee1326 (some ad) c xs, Ee1326 a_2 c_3 ([] ++ xs)]) [0, 1] (by kernel_rfl) ⟨a_2, c_3, rfl, (by kernel_rfl)⟩


theorem clone_nil_i64   :
    Ctr Tryz.prog 75 #[.slice none 0 0] [] (Ret (.slice none 0 0) []) := by
  refine ctr_of (args := [.slice none 0 0]) (fn := Tryz.f75) (body := B75) (nt := 8) Tryz.func75 (by kernel_rfl) (by kernel_rfl) ?_
  intro F
  refine go_exec (rs := [.tmp 2]) (by kernel_rfl) 4000 [] (o := .ret (.slice none 0 0) []) (by kernel_rfl) ?_
  exact ret_ok (post := []) [] (by kernel_rfl) ⟨rfl, (by kernel_rfl)⟩


theorem clone_i64 (a : Option Addr) (c : Nat) (xs : List Int) (hl : xs.length ≤ 1000000) :
    Ctr Tryz.prog 75 #[.slice a xs.length c] [Ee1326 a c xs] (fun v L => ∃ (a2 : Option Addr) (c2 : Nat), v = .slice a2 xs.length c2 ∧ L = [Ee1326 a c xs, Ee1326 a2 c2 xs]) := by
  cases a with
  | some ad => exact clone_some_i64 ad c xs hl
  | none =>
    refine ctr_sl_nil (i := 0) rfl ?_
    rintro rfl rfl
    exact ctr_post (ctr_pre [] (by kernel_rfl) clone_nil_i64) fun v L h => ⟨_, (view_nil2 _ _ _ _ (sizedI _) _ _ _ _ (sizedI _) h.2), none, 0, h.1, rfl⟩

noncomputable def B68 : Code := (Tryz.f68.body).getD .skip

theorem clone_some_u64 (ad : Addr) (c : Nat) (xs : List Int) (hl : xs.length ≤ 1000000) :
    Ctr Tryz.prog 68 #[.slice (some ad) xs.length c] [E7a681 (some ad) c xs] (fun v L => ∃ (a2 : Option Addr) (c2 : Nat), v = .slice a2 xs.length c2 ∧ L = [E7a681 (some ad) c xs, E7a681 a2 c2 xs]) := by
  refine ctr_of (args := [.slice (some ad) xs.length c]) (fn := Tryz.f68) (body := B68) (nt := 8) Tryz.func68 (by kernel_rfl) (by kernel_rfl) ?_
  intro F
  refine go_exec (rs := [.tmp 2]) (by kernel_rfl) 4000 [.z [0, 1, 1] 2 [5, 6]] (o := .new fun b_1 => .stop [.o [0, 1, 1] 2, .c [1, 1, 1]] [(5, .slice (some ⟨b_1, 0, none⟩) 0 0), (6, .slice (some ad) xs.length c)] [E7a681 (some ad) c xs, .pts b_1 [] 42]) (by kernel_rfl) ?_
  refine ok_new fun b_1 => ?_
  refine ok_stop ?_
  refine go_view (L' := [E7a681 (some ad) c xs, E7a681 (some ⟨b_1, 0, none⟩) 0 []]) (view_empty 1 (b := b_1) (encI .u64) 0 1 42 (sizedI _) (by kernel_rfl)) ?_
  refine go_by (some 7) (appO Tryz.prog _) (some (.slice (some ⟨b_1, 0, none⟩) ([]).length 0, .slice (some ad) xs.length c, (42, 1, 8))) (R_append 1 (a := (some ⟨b_1, 0, none⟩)) (c := 0) (enc := encI .u64) (d := 0) (sz := 1) (xs := []) (te := 42) (by kernel_rfl) (.slice (some ad) xs.length c) xs (src_sl (i := 0) (d := 0) (sz := 1) (t := 42) (by kernel_rfl)) (oneI _) 8 (by first | omega | (simp; done) | (simp; omega)) (by first | omega | (simp; done) | (simp; omega))) (by kernel_rfl) ?_
  rintro v L2 ⟨a_2, c_3, rfl, rfl⟩
  refine go_exec (rs := [.tmp 2]) (by kernel_rfl) 4000 [] (o := .ret (.slice a_2 (([] ++ xs).length) c_3) [E7a681 (some ad) c xs, E7a681 a_2 c_3 ([] ++ xs)]) (by kernel_rfl) ?_
  exact ret_ok (post := [E7a681 (some ad) c xs, E7a681 a_2 c_3 ([] ++ xs)]) [0, 1] (by kernel_rfl) ⟨a_2, c_3, rfl, (by kernel_rfl)⟩


theorem clone_nil_u64   :
    Ctr Tryz.prog 68 #[.slice none 0 0] [] (Ret (.slice none 0 0) []) := by
  refine ctr_of (args := [.slice none 0 0]) (fn := Tryz.f68) (body := B68) (nt := 8) Tryz.func68 (by kernel_rfl) (by kernel_rfl) ?_
  intro F
  refine go_exec (rs := [.tmp 2]) (by kernel_rfl) 4000 [] (o := .ret (.slice none 0 0) []) (by kernel_rfl) ?_
  exact ret_ok (post := []) [] (by kernel_rfl) ⟨rfl, (by kernel_rfl)⟩


theorem clone_u64 (a : Option Addr) (c : Nat) (xs : List Int) (hl : xs.length ≤ 1000000) :
    Ctr Tryz.prog 68 #[.slice a xs.length c] [E7a681 a c xs] (fun v L => ∃ (a2 : Option Addr) (c2 : Nat), v = .slice a2 xs.length c2 ∧ L = [E7a681 a c xs, E7a681 a2 c2 xs]) := by
  cases a with
  | some ad => exact clone_some_u64 ad c xs hl
  | none =>
    refine ctr_sl_nil (i := 0) rfl ?_
    rintro rfl rfl
    exact ctr_post (ctr_pre [] (by kernel_rfl) clone_nil_u64) fun v L h => ⟨_, (view_nil2 _ _ _ _ (sizedI _) _ _ _ _ (sizedI _) h.2), none, 0, h.1, rfl⟩


theorem clone_n (a : Option Addr) (c n : Nat) (xs : List Int) (hn : xs.length = n) (hl : xs.length ≤ 1000000) :
    Ctr Tryz.prog 68 #[.slice a n c] [E7a681 a c xs] (fun v L => ∃ (a2 : Option Addr) (c2 : Nat), v = .slice a2 xs.length c2 ∧ L = [E7a681 a c xs, E7a681 a2 c2 xs]) := by
  subst hn; exact clone_u64 a c xs hl

noncomputable def B112 : Code := (Tryz.f112.body).getD .skip

theorem grow (n : Int) (hn : 0 ≤ n ∧ n ≤ 1000000) :
    Ctr Tryz.prog 112 #[.slice none 0 0, vI n] [] (fun v L => ∃ (a2 : Option Addr) (c2 : Nat), v = .slice a2 0 c2 ∧ L = [Ee1326 a2 c2 []]) := by
  refine ctr_of (args := [.slice none 0 0, vI n]) (fn := Tryz.f112) (body := B112) (nt := 27) Tryz.func112 (by kernel_rfl) (by kernel_rfl) ?_
  intro F
  refine go_exec (rs := [.tmp 4]) (by kernel_rfl) 4000 [.sp [6] [.dead] [.w, .n, .sp [16] [.z [0, 1, 1, 0, 1, 1] 5 [0, 20, 21]] []]] (o := .br (decide (n < 0)) (.bad) (.obl (InK .i64 (n - 0)) (.br (decide ((n - 0) > 0)) (.stop [.o [0, 1, 1, 0, 1, 1] 5, .c [1, 1, 1]] [(0, .slice none 0 0), (20, .slice none 0 0), (21, vI (n - 0))] []) (.ret (.slice none 0 0) [])))) (by kernel_rfl) ?_
  refine ok_br (fun h => absurd (show (decide (n < 0)) = false from (by simp; omega)) (by rw [h]; simp)) (fun _ => ?_)
  refine ok_obl (by simp only [InK] at *; omega) ?_
  refine ok_br (fun h_1 => ?_) (fun h_1 => ?_)
  · replace h_1 := decT h_1
    refine ok_stop ?_
    refine go_by (some 22) (appZ Tryz.prog _) (some (.slice none 0 0, vI (n - 0), (3, 1, 8), some ((encI .i64) (0 : Int)))) (R_appZ (encI .i64) 0 (0 : Int) (sizedI _) (n - 0) 8 (by omega) (by omega) (by omega)) (by kernel_rfl) ?_
    rintro v L2 ⟨a_2, c_3, rfl, rfl⟩
    refine go_exec (rs := [.tmp 4]) (by kernel_rfl) 4000 [.z [0, 1, 1, 0, 1, 1] 8 [22, 24]] (o := .stop [.o [0, 1, 1, 0, 1, 1] 8, .c [1, 1, 1]] [(22, .slice a_2 ((List.replicate (n - 0).toNat (0 : Int)).length) c_3), (24, vI 0)] [Ee1326 a_2 c_3 (List.replicate (n - 0).toNat (0 : Int))]) (by kernel_rfl) ?_
    refine ok_stop ?_
    refine go_by (some 25) (cutO Tryz.prog _) (some (.slice a_2 ((List.replicate (n - 0).toNat (0 : Int))).length c_3, none, (some (vI 0)), 1)) (R_cut 0 (a := a_2) (c := c_3) (enc := encI .i64) (d := 0) (sz := 1) (xs := (List.replicate (n - 0).toNat (0 : Int))) (te := 3) (by kernel_rfl) none (some (vI 0)) ⟨(by first | omega | (simp; done) | (simp; omega)), (by first | omega | (simp; done) | (simp; omega))⟩ trivial) (by kernel_rfl) ?_
    rintro v L2 ⟨a_4, c_5, rfl, rfl⟩
    refine go_exec (rs := [.tmp 4]) (by kernel_rfl) 4000 [] (o := .ret (.slice a_4 ((((List.replicate (n - 0).toNat (0 : Int)).take 0).drop 0).length) c_5) [Ee1326 a_4 c_5 (((List.replicate (n - 0).toNat (0 : Int)).take 0).drop 0)]) (by kernel_rfl) ?_
    exact ret_ok (post := [Ee1326 a_4 c_5 (((List.replicate (n - 0).toNat (0 : Int)).take 0).drop 0)]) [0] (by kernel_rfl) ⟨a_4, c_5, rfl, (by kernel_rfl)⟩
  · replace h_1 := decF h_1
    refine ret_view (L' := [Ee1326 none 0 []]) (view_nil (encI .i64) 0 1 3 (sizedI _)) ?_
    exact ret_ok (post := [Ee1326 none 0 []]) [0] (by kernel_rfl) ⟨none, 0, rfl, (by kernel_rfl)⟩

noncomputable def B98 : Code := (Tryz.f98.body).getD .skip

theorem concat (b : Nat) (a1 a3 : Option Addr) (c1 c3 : Nat) (xs ys : List Int) (h1 : xs.length ≤ 1000) (h2 : ys.length ≤ 1000) :
    Ctr Tryz.prog 98 #[.slice (some ⟨b, 0, none⟩) 2 2] [.pts b [.slice a1 xs.length c1, .slice a3 ys.length c3] 82, Ee1326 a1 c1 xs, Ee1326 a3 c3 ys] (fun v L => ∃ (a2 : Option Addr) (c2 : Nat), v = .slice a2 ((xs ++ ys).length) c2 ∧ L = [Ee1326 a1 c1 xs, Ee1326 a3 c3 ys, Ee1326 a2 c2 (xs ++ ys)]) := by
  refine ctr_of (args := [.slice (some ⟨b, 0, none⟩) 2 2]) (fn := Tryz.f98) (body := B98) (nt := 36) Tryz.func98 (by kernel_rfl) (by kernel_rfl) ?_
  intro F
  refine go_exec (rs := [.tmp 2]) (by kernel_rfl) 4000 [.u, .w, .e 0, .n, .sp [20] [.dead] [.w, .u, .w, .e 0, .n, .sp [20] [.dead] [.w, .u, .z [0, 1, 1, 1] 1 [0, 23]]]] (o := .obl (b = b) (.obl (InK .i64 (0 + ((xs.length : Nat) : Int))) (.br (decide ((0 + ((xs.length : Nat) : Int)) < 0)) (.bad) (.obl (b = b) (.obl (InK .i64 ((0 + ((xs.length : Nat) : Int)) + ((ys.length : Nat) : Int))) (.br (decide (((0 + ((xs.length : Nat) : Int)) + ((ys.length : Nat) : Int)) < 0)) (.bad) (.stop [.o [0, 1, 1, 1] 1, .c [1, 1, 1, 1]] [(0, .slice (some ⟨b, 0, none⟩) 2 2), (23, vI ((0 + ((xs.length : Nat) : Int)) + ((ys.length : Nat) : Int)))] [.pts b [.slice a1 xs.length c1, .slice a3 ys.length c3] 82, Ee1326 a1 c1 xs, Ee1326 a3 c3 ys]))))))) (by kernel_rfl) ?_
  refine ok_obl rfl ?_
  refine ok_obl (by simp only [InK] at *; omega) ?_
  refine ok_br (fun h => absurd (show (decide ((0 + ((xs.length : Nat) : Int)) < 0)) = false from (by first | (simp; done) | (simp; omega))) (by rw [h]; simp)) (fun _ => ?_)
  refine ok_obl rfl ?_
  refine ok_obl (by simp only [InK] at *; omega) ?_
  refine ok_br (fun h => absurd (show (decide (((0 + ((xs.length : Nat) : Int)) + ((ys.length : Nat) : Int)) < 0)) = false from (by first | (simp; done) | (simp; omega))) (by rw [h]; simp)) (fun _ => ?_)
  refine ok_stop ?_
  refine go_call (some 24) [] Tryz.call112 (grow ((0 + ((xs.length : Nat) : Int)) + ((ys.length : Nat) : Int)) (by first | assumption | omega | (simp only [InK] at *; omega))) (by kernel_rfl) ?_
  rintro v post ⟨a2_1, c2_2, rfl, rfl⟩
  refine go_exec (rs := [.tmp 2]) (by kernel_rfl) 4000 [.u, .w, .e 0, .z q3_0 2 [25, 26, 27, 31, 32]] (o := .obl (b = b) (.stop [.o q3_0 2, .b 3, .c q3_1, .r q3_2, .b 2, .c [1, 1, 1, 1, 1]] [(25, .slice (some ⟨b, 0, none⟩) 2 2), (26, vI 2), (27, vI 0), (31, .slice a2_1 0 c2_2), (32, .slice a1 xs.length c1)] [.pts b [.slice a1 xs.length c1, .slice a3 ys.length c3] 82, Ee1326 a1 c1 xs, Ee1326 a3 c3 ys, Ee1326 a2_1 c2_2 []])) (by kernel_rfl) ?_
  refine ok_obl rfl ?_
  refine ok_stop ?_
  refine go_by (some 33) (appO Tryz.prog _) (some (.slice a2_1 ([]).length c2_2, .slice a1 xs.length c1, (3, 1, 8))) (R_append 3 (a := a2_1) (c := c2_2) (enc := encI .i64) (d := 0) (sz := 1) (xs := []) (te := 3) (by kernel_rfl) (.slice a1 xs.length c1) xs (src_sl (i := 1) (d := 0) (sz := 1) (t := 3) (by kernel_rfl)) (oneI _) 8 (by first | omega | (simp; done) | (simp; omega)) (by first | omega | (simp; done) | (simp; omega))) (by kernel_rfl) ?_
  rintro v L2 ⟨a_3, c_4, rfl, rfl⟩
  refine go_exec (rs := [.tmp 2]) (by kernel_rfl) 4000 [.w, .u, .w, .e 0, .z q3_0 2 [25, 26, 27, 31, 32]] (o := .obl (b = b) (.stop [.o q3_0 2, .b 3, .c q3_1, .r q3_2, .b 2, .c [1, 1, 1, 1, 1]] [(25, .slice (some ⟨b, 0, none⟩) 2 2), (26, vI 2), (27, vI 1), (31, .slice a_3 (([] ++ xs).length) c_4), (32, .slice a3 ys.length c3)] [.pts b [.slice a1 xs.length c1, .slice a3 ys.length c3] 82, Ee1326 a1 c1 xs, Ee1326 a3 c3 ys, Ee1326 a_3 c_4 ([] ++ xs)])) (by kernel_rfl) ?_
  refine ok_obl rfl ?_
  refine ok_stop ?_
  refine go_by (some 33) (appO Tryz.prog _) (some (.slice a_3 (([] ++ xs)).length c_4, .slice a3 ys.length c3, (3, 1, 8))) (R_append 3 (a := a_3) (c := c_4) (enc := encI .i64) (d := 0) (sz := 1) (xs := ([] ++ xs)) (te := 3) (by kernel_rfl) (.slice a3 ys.length c3) ys (src_sl (i := 2) (d := 0) (sz := 1) (t := 3) (by kernel_rfl)) (oneI _) 8 (by first | omega | (simp; done) | (simp; omega)) (by first | omega | (simp; done) | (simp; omega))) (by kernel_rfl) ?_
  rintro v L2 ⟨a_5, c_6, rfl, rfl⟩
  refine go_exec (rs := [.tmp 2]) (by kernel_rfl) 4000 [.w, .u] (o := .ret (.slice a_5 ((([] ++ xs) ++ ys).length) c_6) [.pts b [.slice a1 xs.length c1, .slice a3 ys.length c3] 82, Ee1326 a1 c1 xs, Ee1326 a3 c3 ys, Ee1326 a_5 c_6 (([] ++ xs) ++ ys)]) (by kernel_rfl) ?_
  exact ret_ok (post := [Ee1326 a1 c1 xs, Ee1326 a3 c3 ys, Ee1326 a_5 c_6 (([] ++ xs) ++ ys)]) [1, 2, 3] (by kernel_rfl) ⟨a_5, c_6, rfl, (by kernel_rfl)⟩

end Go.Proofs.YtilaihbbollcnaaGreatDoor


namespace Go.Proofs.YtilaihbbollcnaaGreatDoor
open Go.Sx
abbrev Ed2009 (x0 : Nat) (c1 : Cfg) (x2 : Int) (x3 : Nat) (x4 : Option Addr) (x5 : Nat) (x6 : Nat) (x7 : Option Addr) (x8 : Nat) (x9 : Nat) (x10 : Option Addr) (x11 : Nat) (x12 : Nat) (x13 : Value) : Ent := .pts x0 [.int .i64 c1.topics, .int .i64 c1.small, .int .i64 c1.slots, .int .i64 c1.clients, .int .i64 c1.s0, .int .i64 c1.n0, .int .i64 c1.s1, .int .i64 c1.n1, .int .i64 c1.retry, .int .i64 x2, .map (some x3), .slice x4 x5 x6, .slice x7 x8 x9, .slice x10 x11 x12, x13] 127
abbrev q4_0 : List Nat := [0, 0, 1, 0, 1, 0, 0, 1]
abbrev q4_1 : List Nat := [1, 1, 0, 1, 0, 0, 1]
abbrev q4_2 : List Nat := [0, 0, 1, 0, 1, 0, 1, 0, 0, 1]

/-- where a scan's rows lie -/
structure ScH where
  m : Nat
  al : Option Addr
  ak : Option Addr
  ag : Option Addr
  cl : Nat
  ck : Nat
  cg : Nat
  gp : Nat
noncomputable def gpV (gp : Nat) : Option Gv → Value
  | none => .pointer none
  | some _ => .pointer (some ⟨gp, 0, none⟩)
noncomputable def givL (c : Cfg) (gp : Nat) : Option Gv → List Ent
  | none => []
  | some G => [Ebd80e gp c G (nxV gp G.ph)]
noncomputable def scanL (s : Nat) (c : Cfg) (S : Sc) (h : ScH) : List Ent :=
  [Ed2009 s c S.slot h.m h.al S.left.length h.cl h.ak S.kept.length h.ck h.ag S.given.length h.cg (gpV h.gp S.give), .res (IMap h.m .i64 (Value.int .i64) S.named), Ee1326 h.al h.cl S.left, Ee1326 h.ak h.ck S.kept, Ee1326 h.ag h.cg S.given] ++ givL c h.gp S.give
noncomputable def ScanR (s : Nat) (c : Cfg) (S : Sc) : Res := Box (fun _ : ScH => True) (scanL s c S)
structure NxI where
  kept : List Int
  left : List Int
  ak : Option Addr
  al : Option Addr
  ck : Nat
  cl : Nat
noncomputable def B101 : Code := (Tryz.f101.body).getD .skip

theorem new_Give (c : Cfg) (bk : Int) (hc : c.Ok) (h0 : 0 ≤ clsOf c bk) :
    Ctr Tryz.prog 101 #[cfgV c, vI bk] [] (fun v L => ∃ (gv : Nat), v = vP gv ∧ L = [E548a5 gv c (3 + clsOf c bk) 0 (.func (.func 113) #[vP gv] #[]) bk]) := by
  refine ctr_of (args := [cfgV c, vI bk]) (fn := Tryz.f101) (body := B101) (nt := 26) Tryz.func101 (by kernel_rfl) (by kernel_rfl) ?_
  intro F
  refine go_exec (rs := [.tmp 4]) (by kernel_rfl) 4000 [.e 0, .z [0, 1] 2 [1, 2, 7, 8]] (o := .new fun b_1 => .obl (b_1 = b_1) (.stop [.o [0, 1] 2, .c [1, 1]] [(1, vI bk), (2, vP b_1), (7, cfgV c), (8, vI bk)] [Ee1539 b_1 c])) (by kernel_rfl) ?_
  refine ok_new fun b_1 => ?_
  refine ok_obl rfl ?_
  refine ok_stop ?_
  refine go_call (some 9) [] Tryz.call44 (plan_Class c bk (by first | assumption | omega | (simp only [InK] at *; omega)) (by have := clsOf_ok h0; simp only [Cfg.Ok, InK] at *; omega)) (by kernel_rfl) ?_
  rintro v post ⟨rfl, rfl⟩
  refine go_exec (rs := [.tmp 4]) (by kernel_rfl) 4000 [.sp [11] [.dead] [.z [0, 1, 1, 1] 0 [1, 2, 5]]] (o := .br (decide ((clsOf c bk) < 0)) (.bad) (.stop [.c [0, 1, 1, 1], .c [1, 1, 1, 1]] [(1, vI bk), (2, vP b_1), (5, vI (clsOf c bk))] [Ee1539 b_1 c])) (by kernel_rfl) ?_
  refine ok_br (fun h => absurd (show (decide ((clsOf c bk) < 0)) = false from (by simp; omega)) (by rw [h]; simp)) (fun _ => ?_)
  refine ok_stop ?_
  refine go_tail_op (so := .new fun b_2 => .ok (.value (vP b_2)) [Ee1539 b_1 c, E548a5 b_2 c (3 + (clsOf c bk)) 0 (.nilFunc) bk]) (dst := (some 18)) (ps := [b_1 = b_1]) (cs := [(42, #[vI (clsOf c bk)], vI (3 + (clsOf c bk)))]) [(0, .h (.e 0)), (1, .h .w), (2, .q (vI (3 + (clsOf c bk)))), (3, .h .w), (4, .h .w), (5, .h .w)] 6 [(7, .h .w)] .w [6] (by kernel_rfl) (by kernel_rfl) ⟨rfl, trivial⟩ ⟨⟨Tryz.call42, quiet_of [] (plan_Head (clsOf c bk) ⟨h0, clsOf_le c bk⟩) (by kernel_rfl) (by rintro v post ⟨rfl, rfl⟩; exact ⟨rfl, rfl⟩)⟩, trivial⟩ ?_
  refine sat_new fun b_2 => ?_
  refine sat_value ?_
  refine tail_next (tm' := [(6, vP b_2)]) (ps2 := []) (by kernel_rfl) trivial ?_
  refine go_exec (rs := [.tmp 4]) (by kernel_rfl) 4000 [.e 1] (o := .obl (b_2 = b_2) (.ret (vP b_2) [Ee1539 b_1 c, E548a5 b_2 c (3 + (clsOf c bk)) 0 (.func (.func 113) #[vP b_2] #[]) bk])) (by kernel_rfl) ?_
  refine ok_obl rfl ?_
  exact ret_ok (post := [E548a5 b_2 c (3 + (clsOf c bk)) 0 (.func (.func 113) #[vP b_2] #[]) bk]) [1] (by kernel_rfl) ⟨b_2, rfl, (by kernel_rfl)⟩

noncomputable def B79 : Code := (Tryz.f79.body).getD .skip

theorem scan_next (c : Cfg) (s m : Nat) (sl : Int) (named : Int → Option Int) (left kept given : List Int) (al ak ag : Option Addr) (cl ck cg : Nat) (gp : Value) (hc : c.Ok) (hl : kept.length + left.length ≤ 100) (hb : ∀ b ∈ left, 0 ≤ clsOf c b) :
    Ctr Tryz.prog 79 #[vP s] [Ed2009 s c sl m al left.length cl ak kept.length ck ag given.length cg gp, .res (IMap m .i64 (Value.int .i64) named), Ee1326 al cl left, Ee1326 ak ck kept, Ee1326 ag cg given] (Ret (undef) [.res (ScanR s c (Sc.next c (⟨sl, named, left, kept, given, none⟩ : Sc)))]) := by
  refine ctr_of (args := [vP s]) (fn := Tryz.f79) (body := B79) (nt := 59) Tryz.func79 (by kernel_rfl) (by kernel_rfl) ?_
  intro F
  refine go_exec (rs := []) (by kernel_rfl) 4000 [.e 0, .z [0, 1] 0 [0]] (o := .obl (s = s) (.stop [.c [0, 1], .b 0] [(0, vP s)] [Ed2009 s c sl m al left.length cl ak kept.length ck ag given.length cg (.pointer none), .res (IMap m .i64 (Value.int .i64) named), Ee1326 al cl left, Ee1326 ak ck kept, Ee1326 ag cg given])) (by kernel_rfl) ?_
  refine ok_obl rfl ?_
  refine ok_stop ?_
  refine go_loop (ι := NxI) (fun i => [(0, vP s)]) (fun i => [Ed2009 s c sl m i.al i.left.length i.cl i.ak i.kept.length i.ck ag given.length cg (.pointer none), .res (IMap m .i64 (Value.int .i64) named), Ee1326 i.al i.cl i.left, Ee1326 i.ak i.ck i.kept, Ee1326 ag cg given]) (fun i => nextL named i.kept i.left = nextL named kept left ∧ i.kept.length + i.left.length ≤ 100 ∧ ∀ b ∈ i.left, 0 ≤ clsOf c b) (fun i => i.left.length) ⟨kept, left, ak, al, ck, cl⟩ [0] [0, 1, 2, 3, 4] (by kernel_rfl) rfl (by kernel_rfl) (by kernel_rfl) ⟨rfl, hl, hb⟩ ?_
  intro i J_1 hIJ_1 hJ_1
  have hx := hIJ_1
  refine go_exec (rs := []) (by kernel_rfl) 4000 [.e 0, .sp [12, 11] [.e 0, .e 0, .s 2, .j 2 0, .e 0, .z q4_0 5 [0, 2, 28, 29]] []] (o := .obl (s = s) (.obl ((decide (((i.left.length : Nat) : Int) > 0)) = (decide (((i.left.length : Nat) : Int) > 0))) (.br (decide (((i.left.length : Nat) : Int) > 0)) (.obl (s = s) (.obl (s = s) (.obl (i.al = i.al ∧ i.left.length = i.left.length) (.obl ((0 : Int) ≤ 0 ∧ 0 < ((i.left.length : Nat) : Int)) (.obl (slAt i.al 0 1 = slAt i.al 0 1) (.obl (0 < i.left.length) (.obl (s = s) (.stop [.o q4_0 5, .c [1, 0, 1, 0, 1, 0, 0, 1], .c q4_1, .b 1, .j J_1, .b 0] [(0, vP s), (2, vI (i.left.getD 0 0)), (28, .map (some m)), (29, vI (i.left.getD 0 0))] [Ed2009 s c sl m i.al i.left.length i.cl i.ak i.kept.length i.ck ag given.length cg (.pointer none), .res (IMap m .i64 (Value.int .i64) named), Ee1326 i.al i.cl i.left, Ee1326 i.ak i.ck i.kept, Ee1326 ag cg given])))))))) (.ret (undef) [Ed2009 s c sl m i.al i.left.length i.cl i.ak i.kept.length i.ck ag given.length cg (.pointer none), .res (IMap m .i64 (Value.int .i64) named), Ee1326 i.al i.cl i.left, Ee1326 i.ak i.ck i.kept, Ee1326 ag cg given])))) (by kernel_rfl) ?_
  refine ok_obl rfl ?_
  refine ok_obl rfl ?_
  refine ok_br (fun h_2 => ?_) (fun h_2 => ?_)
  · replace h_2 := decT h_2
    refine ok_obl rfl ?_
    refine ok_obl rfl ?_
    refine ok_obl ⟨rfl, (by first | rfl | omega | (simp; done) | (simp; omega))⟩ ?_
    refine ok_obl (by first | omega | (simp; done) | (simp; omega)) ?_
    refine ok_obl rfl ?_
    refine ok_obl (by first | omega | (simp; done) | (simp; omega)) ?_
    refine ok_obl rfl ?_
    refine ok_stop ?_
    refine go_by (some 30) (getO Tryz.prog _) (some (.map (some m), vI (i.left.getD 0 0), false, .i64, some (Value.int .i64 0))) (R_get 1 (enc := Value.int .i64) (m := named) (by kernel_rfl) (i.left.getD 0 0) false 0) (by kernel_rfl) ?_
    rintro v L2 ⟨rfl, rfl⟩
    refine go_exec (rs := []) (by kernel_rfl) 4000 [.sp [31] [.e 0, .z q4_2 6 [32, 36, 37]] [.z q4_1 0 [0, 2]]] (o := .br (((named (i.left.getD 0 0)).getD 0) == 0) (.obl (s = s) (.stop [.o q4_2 6, .c [1, 0, 1, 0, 1, 0, 1, 0, 0, 1], .c q4_1, .b 1, .j J_1, .b 0] [(32, vP s), (36, cfgV c), (37, vI (i.left.getD 0 0))] [Ed2009 s c sl m i.al i.left.length i.cl i.ak i.kept.length i.ck ag given.length cg (.pointer none), .res (IMap m .i64 (Value.int .i64) named), Ee1326 i.al i.cl i.left, Ee1326 i.ak i.ck i.kept, Ee1326 ag cg given])) (.stop [.c q4_1, .b 1, .j J_1, .b 0] [(0, vP s), (2, vI (i.left.getD 0 0))] [Ed2009 s c sl m i.al i.left.length i.cl i.ak i.kept.length i.ck ag given.length cg (.pointer none), .res (IMap m .i64 (Value.int .i64) named), Ee1326 i.al i.cl i.left, Ee1326 i.ak i.ck i.kept, Ee1326 ag cg given])) (by kernel_rfl) ?_
    refine ok_br (fun h_3 => ?_) (fun h_3 => ?_)
    · replace h_3 := beqT h_3
      refine ok_obl rfl ?_
      refine ok_stop ?_
      refine go_call (some 38) [] Tryz.call101 (new_Give c (i.left.getD 0 0) (by first | assumption | omega | (simp only [InK] at *; omega)) (hx.2.2 _ (by rw [List.getD_eq_getElem?_getD, List.getElem?_eq_getElem (by omega)]; exact List.getElem_mem _))) (by kernel_rfl) ?_
      rintro v post ⟨gv_4, rfl, rfl⟩
      refine go_exec (rs := []) (by kernel_rfl) 4000 [.e 0] (o := .obl (s = s) (.ret (undef) [Ed2009 s c sl m i.al i.left.length i.cl i.ak i.kept.length i.ck ag given.length cg (vP gv_4), .res (IMap m .i64 (Value.int .i64) named), Ee1326 i.al i.cl i.left, Ee1326 i.ak i.ck i.kept, Ee1326 ag cg given, E548a5 gv_4 c (3 + clsOf c (i.left.getD 0 0)) 0 (.func (.func 113) #[vP gv_4] #[]) (i.left.getD 0 0)])) (by kernel_rfl) ?_
      refine ok_obl rfl ?_
      refine ret_view (L' := [.res (ScanR s c (⟨sl, named, i.left, i.kept, given, (some (newGv c (i.left.getD 0 0)))⟩ : Sc))]) (view_pack (fun _ : ScH => True) (scanL s c (⟨sl, named, i.left, i.kept, given, (some (newGv c (i.left.getD 0 0)))⟩ : Sc)) (⟨m, i.al, i.ak, ag, i.cl, i.ck, cg, gv_4⟩ : ScH) (M := []) [0, 1, 2, 3, 4, 5] (by kernel_rfl) trivial) ?_
      exact ret_ok (post := [.res (ScanR s c (⟨sl, named, i.left, i.kept, given, (some (newGv c (i.left.getD 0 0)))⟩ : Sc))]) [0] (by kernel_rfl) ⟨rfl, (by rw [nextL_some hx.1 (by omega) (by assumption) sl given none c])⟩
    · replace h_3 := beqF h_3
      refine ok_stop ?_
      refine go_lz (by kernel_rfl) (by kernel_rfl) ?_
      refine lz_node (l' := (mk 20 [0, 1, 2, 3, 4, 5, 6, 9, 10, 11, 12, 13])) (V' := [0, 1, 2, 3, 4, 5, 6, 9, 10, 11, 12, 13]) (T1 := [(0, vP s), (2, vI (i.left.getD 0 0)), (41, vP s), (42, vP s), (43, vP s), (44, vP s), (45, .pointer (some ⟨s, 12, none⟩)), (46, .slice i.ak i.kept.length i.ck), (47, vI (i.left.getD 0 0)), (50, vP s), (51, vP s), (52, .pointer (some ⟨s, 11, none⟩)), (53, .slice i.al i.left.length i.cl), (54, .slice (cutA i.al i.cl 1 1) ((i.left.drop 1).length) (i.cl - 1))]) (ps := [s = s, s = s, LawQ Tryz.prog F [Ed2009 s c sl m i.al i.left.length i.cl i.ak i.kept.length i.ck ag given.length cg (.pointer none), .res (IMap m .i64 (Value.int .i64) named), Ee1326 i.al i.cl i.left, Ee1326 i.ak i.ck i.kept, Ee1326 ag cg given] (.slice (cutA i.al i.cl 1 1) ((i.left.drop 1).length) (i.cl - 1)) cutO (.slice i.al (i.left).length i.cl, some (vI 1), none, 1)]) [0, 1, 2, 3, 4, 5, 6, 9, 10, 11, 12, 13] [(0, .h .w), (1, .h .w), (2, .h .w), (3, .h .w), (4, .h .w), (5, .h (.e 0)), (6, .h .w), (9, .h .w), (10, .h .w), (11, .h .w), (12, .h (.e 0)), (13, .cut (.slice (cutA i.al i.cl 1 1) ((i.left.drop 1).length) (i.cl - 1)))] [0, 2, 41, 42, 43, 44, 45, 46, 47, 50, 51, 52, 53, 54] [7] (by kernel_rfl) ⟨rfl, rfl, (fun _ => (R_cutV 2 (a := i.al) (c := i.cl) (enc := encI .i64) (d := 0) (sz := 1) (xs := i.left) (te := 3) (by kernel_rfl) .i64 1 ⟨(by first | omega | (simp; done) | (simp; omega)), (by first | omega | (simp; done) | (simp; omega))⟩)), trivial⟩ ⟨?_, trivial⟩
      refine lz_op (l' := (mk 20 [0, 1, 2, 3, 4, 5, 6, 7, 9, 10, 11, 12, 13])) (V' := [0, 1, 2, 3, 4, 5, 9, 10, 11, 12, 13]) (so := .new fun b_7_1 => .ok (.value (.slice (some ⟨b_7_1, 0, none⟩) 1 1)) [Ed2009 s c sl m i.al i.left.length i.cl i.ak i.kept.length i.ck ag given.length cg (.pointer none), .res (IMap m .i64 (Value.int .i64) named), Ee1326 i.al i.cl i.left, Ee1326 i.ak i.ck i.kept, Ee1326 ag cg given, .pts b_7_1 [vI (i.left.getD 0 0)] 3]) (dst := (some 48)) .w (by kernel_rfl) ?_
      refine sat_new fun b_7_1 => ?_
      refine sat_value ?_
      refine lz_node (l' := (mk 20 [0, 1, 2, 3, 4, 5, 6, 7, 9, 10, 11, 12, 13])) (V' := [0, 1, 2, 3, 4, 5, 9, 10, 11, 12, 13]) (T1 := [(48, .slice (some ⟨b_7_1, 0, none⟩) 1 1), (0, vP s), (41, vP s), (42, vP s), (43, vP s), (44, vP s), (45, .pointer (some ⟨s, 12, none⟩)), (46, .slice i.ak i.kept.length i.ck), (50, vP s), (51, vP s), (52, .pointer (some ⟨s, 11, none⟩)), (53, .slice i.al i.left.length i.cl), (54, .slice (cutA i.al i.cl 1 1) ((i.left.drop 1).length) (i.cl - 1))]) (ps := [s = s, s = s, LawQ Tryz.prog F [Ed2009 s c sl m i.al i.left.length i.cl i.ak i.kept.length i.ck ag given.length cg (.pointer none), .res (IMap m .i64 (Value.int .i64) named), Ee1326 i.al i.cl i.left, Ee1326 i.ak i.ck i.kept, Ee1326 ag cg given, .pts b_7_1 [vI (i.left.getD 0 0)] 3] (.slice (cutA i.al i.cl 1 1) ((i.left.drop 1).length) (i.cl - 1)) cutO (.slice i.al (i.left).length i.cl, some (vI 1), none, 1)]) [] [(0, .h .w), (1, .h .w), (2, .h .w), (3, .h .w), (4, .h .w), (5, .h (.e 0)), (9, .h .w), (10, .h .w), (11, .h .w), (12, .h (.e 0)), (13, .cut (.slice (cutA i.al i.cl 1 1) ((i.left.drop 1).length) (i.cl - 1)))] [48, 0, 41, 42, 43, 44, 45, 46, 50, 51, 52, 53, 54] [8] (by kernel_rfl) ⟨rfl, rfl, (fun _ => (R_cutV 2 (a := i.al) (c := i.cl) (enc := encI .i64) (d := 0) (sz := 1) (xs := i.left) (te := 3) (by kernel_rfl) .i64 1 ⟨(by first | omega | (simp; done) | (simp; omega)), (by first | omega | (simp; done) | (simp; omega))⟩)), trivial⟩ ⟨?_, trivial⟩
      refine lz_by (l' := (mk 20 [0, 1, 2, 3, 4, 5, 6, 7, 8, 9, 10, 11, 12, 13])) (V' := [0, 1, 9, 10, 11, 12, 13]) (some 49) (appO Tryz.prog _) (some (.slice i.ak (i.kept).length i.ck, .slice (some ⟨b_7_1, 0, none⟩) 1 1, (3, 1, 8))) (R_append 3 (a := i.ak) (c := i.ck) (enc := encI .i64) (d := 0) (sz := 1) (xs := i.kept) (te := 3) (by kernel_rfl) (.slice (some ⟨b_7_1, 0, none⟩) 1 1) [(i.left.getD 0 0)] (src_pts (i := 5) (t := 3) (by kernel_rfl)) (oneI _) 8 (by first | omega | (simp; done) | (simp; omega)) (by first | omega | (simp; done) | (simp; omega))) (by kernel_rfl) ?_
      rintro v L2 ⟨a_8_1, c_8_1, rfl, rfl⟩
      refine lz_node (l' := (mk 20 [0, 1, 2, 3, 4, 5, 6, 7, 8, 9, 10, 11, 12, 13, 14, 15])) (V' := [0, 1, 9, 10, 11, 12, 13, 14, 15]) (T1 := [(49, .slice a_8_1 ((i.kept ++ [(i.left.getD 0 0)]).length) c_8_1), (0, vP s), (41, vP s), (42, vP s), (50, vP s), (51, vP s), (52, .pointer (some ⟨s, 11, none⟩)), (53, .slice i.al i.left.length i.cl), (54, .slice (cutA i.al i.cl 1 1) ((i.left.drop 1).length) (i.cl - 1)), (55, vP s), (56, .pointer (some ⟨s, 12, none⟩))]) (ps := [s = s, LawQ Tryz.prog F [Ed2009 s c sl m i.al i.left.length i.cl i.ak i.kept.length i.ck ag given.length cg (.pointer none), .res (IMap m .i64 (Value.int .i64) named), Ee1326 i.al i.cl i.left, Ee1326 a_8_1 c_8_1 (i.kept ++ [(i.left.getD 0 0)]), Ee1326 ag cg given, .pts b_7_1 [vI (i.left.getD 0 0)] 3] (.slice (cutA i.al i.cl 1 1) ((i.left.drop 1).length) (i.cl - 1)) cutO (.slice i.al (i.left).length i.cl, some (vI 1), none, 1)]) [14, 15] [(0, .h .w), (1, .h .w), (9, .h .w), (10, .h .w), (11, .h .w), (12, .h (.e 0)), (13, .cut (.slice (cutA i.al i.cl 1 1) ((i.left.drop 1).length) (i.cl - 1))), (14, .h .w), (15, .h .w)] [49, 0, 41, 42, 50, 51, 52, 53, 54, 55, 56] [16] (by kernel_rfl) ⟨rfl, (fun _ => (R_cutV 2 (a := i.al) (c := i.cl) (enc := encI .i64) (d := 0) (sz := 1) (xs := i.left) (te := 3) (by kernel_rfl) .i64 1 ⟨(by first | omega | (simp; done) | (simp; omega)), (by first | omega | (simp; done) | (simp; omega))⟩)), trivial⟩ ⟨?_, trivial⟩
      refine lz_op (l' := (mk 20 [0, 1, 2, 3, 4, 5, 6, 7, 8, 9, 10, 11, 12, 13, 14, 15, 16])) (V' := [1, 13]) (so := .obl (s = s) (.ok .skip [Ed2009 s c sl m i.al i.left.length i.cl a_8_1 ((i.kept ++ [(i.left.getD 0 0)]).length) c_8_1 ag given.length cg (.pointer none), .res (IMap m .i64 (Value.int .i64) named), Ee1326 i.al i.cl i.left, Ee1326 a_8_1 c_8_1 (i.kept ++ [(i.left.getD 0 0)]), Ee1326 ag cg given, .pts b_7_1 [vI (i.left.getD 0 0)] 3])) (dst := none) (.e 0) (by kernel_rfl) ?_
      refine sat_obl rfl ?_
      refine sat_skip ?_
      refine lz_node (l' := (mk 20 [0, 1, 2, 3, 4, 5, 6, 7, 8, 9, 10, 11, 12, 13, 14, 15, 16, 17, 18])) (V' := [1, 13, 17, 18]) (T1 := [(0, vP s), (53, .slice i.al i.left.length i.cl), (42, vP s), (54, .slice (cutA i.al i.cl 1 1) ((i.left.drop 1).length) (i.cl - 1)), (57, vP s), (58, .pointer (some ⟨s, 11, none⟩))]) (ps := [LawQ Tryz.prog F [Ed2009 s c sl m i.al i.left.length i.cl a_8_1 ((i.kept ++ [(i.left.getD 0 0)]).length) c_8_1 ag given.length cg (.pointer none), .res (IMap m .i64 (Value.int .i64) named), Ee1326 i.al i.cl i.left, Ee1326 a_8_1 c_8_1 (i.kept ++ [(i.left.getD 0 0)]), Ee1326 ag cg given, .pts b_7_1 [vI (i.left.getD 0 0)] 3] (.slice (cutA i.al i.cl 1 1) ((i.left.drop 1).length) (i.cl - 1)) cutO (.slice i.al (i.left).length i.cl, some (vI 1), none, 1)]) [17, 18] [(1, .h .w), (13, .cut (.slice (cutA i.al i.cl 1 1) ((i.left.drop 1).length) (i.cl - 1))), (17, .h .w), (18, .h .w)] [0, 53, 42, 54, 57, 58] [19] (by kernel_rfl) ⟨(fun _ => (R_cutV 2 (a := i.al) (c := i.cl) (enc := encI .i64) (d := 0) (sz := 1) (xs := i.left) (te := 3) (by kernel_rfl) .i64 1 ⟨(by first | omega | (simp; done) | (simp; omega)), (by first | omega | (simp; done) | (simp; omega))⟩)), trivial⟩ ⟨?_, trivial⟩
      refine lz_op (l' := (mk 20 [0, 1, 2, 3, 4, 5, 6, 7, 8, 9, 10, 11, 12, 13, 14, 15, 16, 17, 18, 19])) (V' := []) (so := .obl (s = s) (.ok .skip [Ed2009 s c sl m (cutA i.al i.cl 1 1) ((i.left.drop 1).length) (i.cl - 1) a_8_1 ((i.kept ++ [(i.left.getD 0 0)]).length) c_8_1 ag given.length cg (.pointer none), .res (IMap m .i64 (Value.int .i64) named), Ee1326 i.al i.cl i.left, Ee1326 a_8_1 c_8_1 (i.kept ++ [(i.left.getD 0 0)]), Ee1326 ag cg given, .pts b_7_1 [vI (i.left.getD 0 0)] 3])) (dst := none) (.e 0) (by kernel_rfl) ?_
      refine sat_obl rfl ?_
      refine sat_skip ?_
      refine lz_end (T1 := [(0, vP s)]) (ps := []) [] [] [0] (by kernel_rfl) trivial ?_
      refine go_view (L' := [Ed2009 s c sl m (cutA i.al i.cl 1 1) ((i.left.drop 1).length) (i.cl - 1) a_8_1 ((i.kept ++ [(i.left.getD 0 0)]).length) c_8_1 ag given.length cg (.pointer none), .res (IMap m .i64 (Value.int .i64) named), Ee1326 (cutA i.al i.cl 1 1) (i.cl - 1) (i.left.drop 1), Ee1326 a_8_1 c_8_1 (i.kept ++ [(i.left.getD 0 0)]), Ee1326 ag cg given, .pts b_7_1 [vI (i.left.getD 0 0)] 3]) (view_cut 2 (a := i.al) (c := i.cl) (enc := encI .i64) (d := 0) (sz := 1) (xs := i.left) (te := 3) (by kernel_rfl) 1 (by first | omega | (simp; done) | (simp; omega))) ?_
      refine go_exec (rs := []) (by kernel_rfl) 4000 [.z [] 0 [0]] (o := .stop [.j J_1, .b 0] [(0, vP s)] [Ed2009 s c sl m (cutA i.al i.cl 1 1) ((i.left.drop 1).length) (i.cl - 1) a_8_1 ((i.kept ++ [(i.left.getD 0 0)]).length) c_8_1 ag given.length cg (.pointer none), .res (IMap m .i64 (Value.int .i64) named), Ee1326 (cutA i.al i.cl 1 1) (i.cl - 1) (i.left.drop 1), Ee1326 a_8_1 c_8_1 (i.kept ++ [(i.left.getD 0 0)]), Ee1326 ag cg given, .pts b_7_1 [vI (i.left.getD 0 0)] 3]) (by kernel_rfl) ?_
      refine ok_stop ?_
      exact go_back hJ_1 (⟨(i.kept ++ [(i.left.getD 0 0)]), (i.left.drop 1), a_8_1, (cutA i.al i.cl 1 1), c_8_1, (i.cl - 1)⟩ : NxI) [0, 1, 2, 3, 4] (by kernel_rfl) rfl (by kernel_rfl) ⟨(nextL_on (by omega) (by assumption)).trans hx.1, (by simp; omega), fun b hb => hx.2.2 b (List.mem_of_mem_drop hb)⟩ (by simp; omega)
  · replace h_2 := decF h_2
    refine ret_view (L' := [.res (ScanR s c (⟨sl, named, i.left, i.kept, given, none⟩ : Sc))]) (view_pack (fun _ : ScH => True) (scanL s c (⟨sl, named, i.left, i.kept, given, none⟩ : Sc)) (⟨m, i.al, i.ak, ag, i.cl, i.ck, cg, 0⟩ : ScH) (M := []) [0, 1, 2, 3, 4] (by kernel_rfl) trivial) ?_
    exact ret_ok (post := [.res (ScanR s c (⟨sl, named, i.left, i.kept, given, none⟩ : Sc))]) [0] (by kernel_rfl) ⟨rfl, (by rw [nextL_none hx.1 (List.eq_nil_of_length_eq_zero (by omega)) sl given none c])⟩

noncomputable def B71 : Code := (Tryz.f71.body).getD .skip

theorem scan_DoneT (c : Cfg) (s m : Nat) (sl : Int) (al ak ag : Option Addr) (nl nk ng cl ck cg : Nat) (hd : sl = c.slots) :
    Ctr Tryz.prog 71 #[vP s] [Ed2009 s c sl m al nl cl ak nk ck ag ng cg (.pointer none)] (Ret (.bool true) [Ed2009 s c sl m al nl cl ak nk ck ag ng cg (.pointer none)]) := by
  refine ctr_of (args := [vP s]) (fn := Tryz.f71) (body := B71) (nt := 24) Tryz.func71 (by kernel_rfl) (by kernel_rfl) ?_
  intro F
  refine go_exec (rs := [.tmp 2]) (by kernel_rfl) 4000 [.z [0, 1] 0 [0]] (o := .stop [.c [0, 1], .c [1, 1]] [(0, vP s)] [Ed2009 s c sl m al nl cl ak nk ck ag ng cg (.pointer none)]) (by kernel_rfl) ?_
  refine ok_stop ?_
  refine go_quiet (tm' := [(2, .bool true)]) (ps := [s = s, s = s, (sl == c.slots) = true, s = s]) (cs := []) [(0, .h .w), (1, .h .w), (2, .h .w), (3, .h .w), (4, .h .w), (5, .h .w), (6, .h (.e 0)), (7, .h .w), (8, .h .w), (9, .h .w), (10, .h .w), (11, .h (.e 0)), (12, .h (.t true)), (13, .h .w), (14, .h .w), (15, .h .w), (16, .h .w), (17, .h (.e 0)), (18, .h .w), (19, .h .w), (20, .h .w), (21, .h .w)] [2] (by kernel_rfl) (by kernel_rfl) ⟨rfl, rfl, (by first | (simp; done) | (simp; omega)), rfl, trivial⟩ trivial ?_
  refine go_exec (rs := [.tmp 2]) (by kernel_rfl) 4000 [] (o := .ret (.bool true) [Ed2009 s c sl m al nl cl ak nk ck ag ng cg (.pointer none)]) (by kernel_rfl) ?_
  exact ret_ok (post := [Ed2009 s c sl m al nl cl ak nk ck ag ng cg (.pointer none)]) [0] (by kernel_rfl) ⟨rfl, (by kernel_rfl)⟩


theorem scan_DoneF (c : Cfg) (s m : Nat) (sl : Int) (al ak ag : Option Addr) (nl nk ng cl ck cg : Nat) (hd : sl ≠ c.slots) :
    Ctr Tryz.prog 71 #[vP s] [Ed2009 s c sl m al nl cl ak nk ck ag ng cg (.pointer none)] (Ret (.bool false) [Ed2009 s c sl m al nl cl ak nk ck ag ng cg (.pointer none)]) := by
  refine ctr_of (args := [vP s]) (fn := Tryz.f71) (body := B71) (nt := 24) Tryz.func71 (by kernel_rfl) (by kernel_rfl) ?_
  intro F
  refine go_exec (rs := [.tmp 2]) (by kernel_rfl) 4000 [.z [0, 1] 0 [0]] (o := .stop [.c [0, 1], .c [1, 1]] [(0, vP s)] [Ed2009 s c sl m al nl cl ak nk ck ag ng cg (.pointer none)]) (by kernel_rfl) ?_
  refine ok_stop ?_
  refine go_quiet (tm' := [(2, .bool false)]) (ps := [s = s, s = s, (sl == c.slots) = false]) (cs := []) [(0, .h .w), (1, .h .w), (2, .h .w), (3, .h .w), (4, .h .w), (5, .h .w), (6, .h (.e 0)), (7, .h .w), (8, .h .w), (9, .h .w), (10, .h .w), (11, .h (.e 0)), (12, .h (.t false)), (13, .h .w), (14, .h .w), (15, .h .w), (16, .h .w), (17, .h .w), (18, .h .w), (19, .h .w), (20, .h .w), (21, .h .w)] [2] (by kernel_rfl) (by kernel_rfl) ⟨rfl, rfl, (by first | (simp; done) | (simp; omega)), trivial⟩ trivial ?_
  refine go_exec (rs := [.tmp 2]) (by kernel_rfl) 4000 [] (o := .ret (.bool false) [Ed2009 s c sl m al nl cl ak nk ck ag ng cg (.pointer none)]) (by kernel_rfl) ?_
  exact ret_ok (post := [Ed2009 s c sl m al nl cl ak nk ck ag ng cg (.pointer none)]) [0] (by kernel_rfl) ⟨rfl, (by kernel_rfl)⟩


theorem scan_DoneG (c : Cfg) (s m : Nat) (sl : Int) (al ak ag : Option Addr) (nl nk ng cl ck cg gv : Nat) (hd : sl = c.slots) :
    Ctr Tryz.prog 71 #[vP s] [Ed2009 s c sl m al nl cl ak nk ck ag ng cg (vP gv)] (Ret (.bool false) [Ed2009 s c sl m al nl cl ak nk ck ag ng cg (vP gv)]) := by
  refine ctr_of (args := [vP s]) (fn := Tryz.f71) (body := B71) (nt := 24) Tryz.func71 (by kernel_rfl) (by kernel_rfl) ?_
  intro F
  refine go_exec (rs := [.tmp 2]) (by kernel_rfl) 4000 [.z [0, 1] 0 [0]] (o := .stop [.c [0, 1], .c [1, 1]] [(0, vP s)] [Ed2009 s c sl m al nl cl ak nk ck ag ng cg (vP gv)]) (by kernel_rfl) ?_
  refine ok_stop ?_
  refine go_quiet (tm' := [(2, .bool false)]) (ps := [s = s, s = s, (sl == c.slots) = true, s = s]) (cs := []) [(0, .h .w), (1, .h .w), (2, .h .w), (3, .h .w), (4, .h .w), (5, .h .w), (6, .h (.e 0)), (7, .h .w), (8, .h .w), (9, .h .w), (10, .h .w), (11, .h (.e 0)), (12, .h (.t true)), (13, .h .w), (14, .h .w), (15, .h .w), (16, .h .w), (17, .h (.e 0)), (18, .h .w), (19, .h .w), (20, .h .w), (21, .h .w)] [2] (by kernel_rfl) (by kernel_rfl) ⟨rfl, rfl, (by first | (simp; done) | (simp; omega)), rfl, trivial⟩ trivial ?_
  refine go_exec (rs := [.tmp 2]) (by kernel_rfl) 4000 [] (o := .ret (.bool false) [Ed2009 s c sl m al nl cl ak nk ck ag ng cg (vP gv)]) (by kernel_rfl) ?_
  exact ret_ok (post := [Ed2009 s c sl m al nl cl ak nk ck ag ng cg (vP gv)]) [0] (by kernel_rfl) ⟨rfl, (by kernel_rfl)⟩


theorem scan_Done (c : Cfg) (s : Nat) (S : Sc) (hg : S.give ≠ none → S.slot = c.slots) :
    Ctr Tryz.prog 71 #[vP s] [.res (ScanR s c S)] (Ret (.bool (Sc.done c S)) [.res (ScanR s c S)]) := by
  refine ctr_open (I := fun _ : ScH => True) (LL := scanL s c S) (M := []) 0 (by kernel_rfl) ?_
  rintro h -
  obtain ⟨sl, named, left, kept, given, give⟩ := S
  cases give with
  | none =>
    by_cases hd : sl = c.slots
    · refine ctr_post (ctr_frame [0] (by kernel_rfl) (scan_DoneT c s h.m sl h.al h.ak h.ag left.length kept.length given.length h.cl h.ck h.cg hd)) ?_
      rintro v L ⟨post, ⟨rfl, rfl⟩, rfl⟩
      exact ⟨_, view_pack (fun _ : ScH => True) (scanL s c ⟨sl, named, left, kept, given, none⟩) h (M := []) [4, 0, 1, 2, 3] (by kernel_rfl) trivial, by simp [Sc.done, hd], rfl⟩
    · refine ctr_post (ctr_frame [0] (by kernel_rfl) (scan_DoneF c s h.m sl h.al h.ak h.ag left.length kept.length given.length h.cl h.ck h.cg hd)) ?_
      rintro v L ⟨post, ⟨rfl, rfl⟩, rfl⟩
      exact ⟨_, view_pack (fun _ : ScH => True) (scanL s c ⟨sl, named, left, kept, given, none⟩) h (M := []) [4, 0, 1, 2, 3] (by kernel_rfl) trivial, by simp [Sc.done, hd], rfl⟩
  | some G =>
    have hd := hg (by simp)
    refine ctr_post (ctr_frame [0] (by kernel_rfl) (scan_DoneG c s h.m sl h.al h.ak h.ag left.length kept.length given.length h.cl h.ck h.cg h.gp hd)) ?_
    rintro v L ⟨post, ⟨rfl, rfl⟩, rfl⟩
    exact ⟨_, view_pack (fun _ : ScH => True) (scanL s c ⟨sl, named, left, kept, given, some G⟩) h (M := []) [5, 0, 1, 2, 3, 4] (by kernel_rfl) trivial, by simp [Sc.done], rfl⟩

end Go.Proofs.YtilaihbbollcnaaGreatDoor


namespace Go.Proofs.YtilaihbbollcnaaGreatDoor
open Go.Sx
abbrev q5_0 : List Nat := [0, 0, 1, 1, 1, 0, 0, 1]
abbrev q5_1 : List Nat := [0, 0, 1, 1, 0, 1, 1, 1, 0, 0, 1]
abbrev q5_2 : List Nat := [1, 1, 1, 0, 1, 1, 1, 0, 0, 1]
abbrev q5_3 : List Nat := [0, 1, 0, 1, 1, 0, 1, 1, 1, 0, 0, 1]
abbrev q5_4 : List Nat := [0, 1, 1, 1, 0, 1, 1, 1, 0, 0, 1]
abbrev q5_5 : List Nat := [1, 1, 1, 1, 0, 1, 1, 1, 0, 0, 1]
abbrev q5_6 : List Nat := [0, 1, 1, 1, 1, 0, 1, 1, 1, 0, 0, 1]
abbrev q5_7 : List Nat := [0, 1, 1, 1, 1, 0, 0, 1]
abbrev q5_8 : List Nat := [0, 0, 1, 1, 1, 1, 1, 0, 0, 1]
abbrev q5_9 : List Nat := [1, 0, 1, 1, 1, 1, 1, 0, 0, 1]
noncomputable def B33 : Code := (Tryz.f33.body).getD .skip

theorem scan_StepA (c : Cfg) (s ba m : Nat) (sl : Int) (named : Int → Option Int) (left kept given : List Int) (al ak ag : Option Addr) (cl ck cg : Nat) (A : Ar) (hc : c.Ok) (hd : sl = c.slots) :
    Ctr Tryz.prog 33 #[vP s, vP ba] [Ed2009 s c sl m al left.length cl ak kept.length ck ag given.length cg (.pointer none), .res (IMap m .i64 (Value.int .i64) named), Ee1326 al cl left, Ee1326 ak ck kept, Ee1326 ag cg given, E21626 ba A, E671ef A] (Ret (.bool (Sc.done c (Sc.step c (⟨sl, named, left, kept, given, none⟩ : Sc) A).1)) [.res (ScanR s c ((Sc.step c (⟨sl, named, left, kept, given, none⟩ : Sc) A).1)), E21626 ba ((Sc.step c (⟨sl, named, left, kept, given, none⟩ : Sc) A).2), E671ef ((Sc.step c (⟨sl, named, left, kept, given, none⟩ : Sc) A).2)]) := by
  refine ctr_of (args := [vP s, vP ba]) (fn := Tryz.f33) (body := B33) (nt := 95) Tryz.func33 (by kernel_rfl) (by kernel_rfl) ?_
  intro F
  refine go_exec (rs := [.tmp 4]) (by kernel_rfl) 4000 [.z [0, 0, 0, 1] 1 [0, 1, 7]] (o := .stop [.o [0, 0, 0, 1] 1, .c [1, 0, 0, 1], .b 0, .c [1, 1]] [(0, vP s), (1, vP ba), (7, vP s)] [Ed2009 s c sl m al left.length cl ak kept.length ck ag given.length cg (.pointer none), .res (IMap m .i64 (Value.int .i64) named), Ee1326 al cl left, Ee1326 ak ck kept, Ee1326 ag cg given, E21626 ba A, E671ef A]) (by kernel_rfl) ?_
  refine ok_stop ?_
  refine go_call (some 8) [0] Tryz.call71 (scan_DoneT c s m sl al ak ag left.length kept.length given.length cl ck cg (by first | assumption | omega | (simp only [InK] at *; omega))) (by kernel_rfl) ?_
  rintro v post ⟨rfl, rfl⟩
  refine go_exec (rs := [.tmp 4]) (by kernel_rfl) 4000 [.z [0, 1, 1] 1 [93]] (o := .stop [.o [0, 1, 1] 1, .c [1, 1, 1]] [(93, vP s)] [.res (IMap m .i64 (Value.int .i64) named), Ee1326 al cl left, Ee1326 ak ck kept, Ee1326 ag cg given, E21626 ba A, E671ef A, Ed2009 s c sl m al left.length cl ak kept.length ck ag given.length cg (.pointer none)]) (by kernel_rfl) ?_
  refine ok_stop ?_
  refine go_call (some 94) [6] Tryz.call71 (scan_DoneT c s m sl al ak ag left.length kept.length given.length cl ck cg (by first | assumption | omega | (simp only [InK] at *; omega))) (by kernel_rfl) ?_
  rintro v post ⟨rfl, rfl⟩
  refine go_exec (rs := [.tmp 4]) (by kernel_rfl) 4000 [] (o := .ret (.bool true) [.res (IMap m .i64 (Value.int .i64) named), Ee1326 al cl left, Ee1326 ak ck kept, Ee1326 ag cg given, E21626 ba A, E671ef A, Ed2009 s c sl m al left.length cl ak kept.length ck ag given.length cg (.pointer none)]) (by kernel_rfl) ?_
  refine ret_view (L' := [E21626 ba A, E671ef A, .res (ScanR s c (⟨sl, named, left, kept, given, none⟩ : Sc))]) (view_pack (fun _ : ScH => True) (scanL s c (⟨sl, named, left, kept, given, none⟩ : Sc)) (⟨m, al, ak, ag, cl, ck, cg, 0⟩ : ScH) (M := [E21626 ba A, E671ef A]) [6, 0, 1, 2, 3] (by kernel_rfl) trivial) ?_
  have e : Sc.step c (⟨sl, named, left, kept, given, none⟩ : Sc) A = ((⟨sl, named, left, kept, given, none⟩ : Sc), A) := by
    unfold Sc.step; (try unfold Sc.look); dsimp only; (repeat' (first | rw [if_pos (by first | omega | assumption)] | rw [if_neg (by first | omega | assumption)])) <;> rfl
  exact ret_ok (post := [.res (ScanR s c (⟨sl, named, left, kept, given, none⟩ : Sc)), E21626 ba A, E671ef A]) [2, 0, 1] (by kernel_rfl) ⟨(by first | (rw [e]; done) | (rw [e]; rfl) | (rw [e]; simp [Sc.done]; done) | (rw [e]; simp [Sc.done]; omega)), (by first | (rw [e]; done) | (rw [e]; kernel_rfl))⟩


theorem scan_StepB (c : Cfg) (s ba m : Nat) (sl : Int) (named : Int → Option Int) (left kept given : List Int) (al ak ag : Option Addr) (cl ck cg : Nat) (A : Ar) (hc : c.Ok) (hn : A.ws.length = A.n) (hs : 0 ≤ A.steps ∧ A.steps ≤ 1000000000) (hd : 0 ≤ sl ∧ sl < c.slots) (hsz : (A.n : Int) = sizeOfC c) (hws : ∀ i, 0 ≤ A.ws.getD i 0 ∧ A.ws.getD i 0 ≤ 18446744073709551615) (hnm : ∀ k, 0 ≤ (named k).getD 0 ∧ (named k).getD 0 ≤ 100) (hl : kept.length + left.length ≤ 100 ∧ given.length ≤ 100) (hb : ∀ b ∈ left, 0 ≤ clsOf c b) :
    Ctr Tryz.prog 33 #[vP s, vP ba] [Ed2009 s c sl m al left.length cl ak kept.length ck ag given.length cg (.pointer none), .res (IMap m .i64 (Value.int .i64) named), Ee1326 al cl left, Ee1326 ak ck kept, Ee1326 ag cg given, E21626 ba A, E671ef A] (Ret (.bool (Sc.done c (Sc.step c (⟨sl, named, left, kept, given, none⟩ : Sc) A).1)) [.res (ScanR s c ((Sc.step c (⟨sl, named, left, kept, given, none⟩ : Sc) A).1)), E21626 ba ((Sc.step c (⟨sl, named, left, kept, given, none⟩ : Sc) A).2), E671ef ((Sc.step c (⟨sl, named, left, kept, given, none⟩ : Sc) A).2)]) := by
  refine ctr_of (args := [vP s, vP ba]) (fn := Tryz.f33) (body := B33) (nt := 95) Tryz.func33 (by kernel_rfl) (by kernel_rfl) ?_
  intro F
  refine go_exec (rs := [.tmp 4]) (by kernel_rfl) 4000 [.z [0, 0, 0, 1] 1 [0, 1, 7]] (o := .stop [.o [0, 0, 0, 1] 1, .c [1, 0, 0, 1], .b 0, .c [1, 1]] [(0, vP s), (1, vP ba), (7, vP s)] [Ed2009 s c sl m al left.length cl ak kept.length ck ag given.length cg (.pointer none), .res (IMap m .i64 (Value.int .i64) named), Ee1326 al cl left, Ee1326 ak ck kept, Ee1326 ag cg given, E21626 ba A, E671ef A]) (by kernel_rfl) ?_
  refine ok_stop ?_
  refine go_call (some 8) [0] Tryz.call71 (scan_DoneF c s m sl al ak ag left.length kept.length given.length cl ck cg (by first | assumption | omega | (simp only [InK] at *; omega))) (by kernel_rfl) ?_
  rintro v post ⟨rfl, rfl⟩
  refine go_exec (rs := [.tmp 4]) (by kernel_rfl) 4000 [.z [0, 1, 1, 0, 0, 1] 0 [0, 1]] (o := .stop [.c [0, 1, 1, 0, 0, 1], .c [1, 1, 1, 0, 0, 1], .b 0, .c [1, 1]] [(0, vP s), (1, vP ba)] [.res (IMap m .i64 (Value.int .i64) named), Ee1326 al cl left, Ee1326 ak ck kept, Ee1326 ag cg given, E21626 ba A, E671ef A, Ed2009 s c sl m al left.length cl ak kept.length ck ag given.length cg (.pointer none)]) (by kernel_rfl) ?_
  refine ok_stop ?_
  refine go_quiet (tm' := [(0, vP s), (1, vP ba), (9, .bool true)]) (ps := [s = s, s = s, (decide (sl < c.slots)) = true]) (cs := []) [(0, .h .w), (1, .h .w), (2, .h .w), (3, .h (.e 6)), (4, .h .w), (5, .h .w), (6, .h .w), (7, .h .w), (8, .h (.e 6)), (9, .h (.t true)), (10, .h .w)] [0, 1, 9] (by kernel_rfl) (by kernel_rfl) ⟨rfl, rfl, (by first | (simp; done) | (simp; omega)), trivial⟩ trivial ?_
  refine go_exec (rs := [.tmp 4]) (by kernel_rfl) 4000 [.z q5_0 0 [0, 1]] (o := .stop [.c q5_0, .c [1, 0, 1, 1, 1, 0, 0, 1], .b 0, .c [1, 1]] [(0, vP s), (1, vP ba)] [.res (IMap m .i64 (Value.int .i64) named), Ee1326 al cl left, Ee1326 ak ck kept, Ee1326 ag cg given, E21626 ba A, E671ef A, Ed2009 s c sl m al left.length cl ak kept.length ck ag given.length cg (.pointer none)]) (by kernel_rfl) ?_
  refine ok_stop ?_
  refine go_tail_call (dst := (some 30)) (ps := [s = s, s = s]) (cs := [(31, #[cfgV c, vI sl], vI (slotAt c sl))]) [(0, .h .w), (1, .h .w), (2, .h .w), (3, .h .w), (4, .h (.e 6)), (5, .h .w), (6, .h .w), (7, .h .w), (8, .h (.e 6)), (9, .q (vI (slotAt c sl)))] 10 [(11, .h .w)] [4, 5] [0, 5] (by kernel_rfl) Tryz.call76 (arena_Load ba A (slotAt c sl) (by first | assumption | omega | (simp only [InK] at *; omega)) (by have := slotAt_ok hc hd; rw [hsz]; omega) (by first | assumption | omega | (simp only [InK] at *; omega))) (by kernel_rfl) ⟨rfl, rfl, trivial⟩ ⟨⟨Tryz.call31, quiet_of [] (plan_Slot c sl (by first | assumption | omega | (simp only [InK] at *; omega))) (by kernel_rfl) (by rintro v post ⟨rfl, rfl⟩; exact ⟨rfl, rfl⟩)⟩, trivial⟩ ?_
  rintro v post ⟨rfl, rfl⟩
  refine tail_next (tm' := [(0, vP s), (5, vU (A.ws.getD (slotAt c sl).toNat 0))]) (ps2 := []) (by kernel_rfl) trivial ?_
  refine go_exec (rs := [.tmp 4]) (by kernel_rfl) 4000 [.e 4, .n, .e 4, .z q5_1 1 [0, 5, 38]] (o := .obl (s = s) (.obl (InK .i64 (sl + 1)) (.obl (s = s) (.stop [.o q5_1 1, .c [1, 0, 1, 1, 0, 1, 1, 1, 0, 0, 1], .c q5_2, .b 0, .c [1, 1]] [(0, vP s), (5, vU (A.ws.getD (slotAt c sl).toNat 0)), (38, vU (A.ws.getD (slotAt c sl).toNat 0))] [.res (IMap m .i64 (Value.int .i64) named), Ee1326 al cl left, Ee1326 ak ck kept, Ee1326 ag cg given, Ed2009 s c (sl + 1) m al left.length cl ak kept.length ck ag given.length cg (.pointer none), E21626 ba (A.load (slotAt c sl)), E671ef (A.load (slotAt c sl))])))) (by kernel_rfl) ?_
  refine ok_obl rfl ?_
  refine ok_obl (by simp only [Cfg.Ok, InK] at *; omega) ?_
  refine ok_obl rfl ?_
  refine ok_stop ?_
  refine go_call (some 39) [] Tryz.call77 (slots_Client (A.ws.getD (slotAt c sl).toNat 0) (hws _)) (by kernel_rfl) ?_
  rintro v post ⟨rfl, rfl⟩
  refine go_exec (rs := [.tmp 4]) (by kernel_rfl) 4000 [.sp [40] [.z q5_3 0 [0, 5]] [.z q5_4 0 [0]]] (o := .br (decide ((hi32 (A.ws.getD (slotAt c sl).toNat 0) - 1) ≥ 0)) (.stop [.c q5_3, .c q5_2, .b 0, .c [1, 1]] [(0, vP s), (5, vU (A.ws.getD (slotAt c sl).toNat 0))] [.res (IMap m .i64 (Value.int .i64) named), Ee1326 al cl left, Ee1326 ak ck kept, Ee1326 ag cg given, Ed2009 s c (sl + 1) m al left.length cl ak kept.length ck ag given.length cg (.pointer none), E21626 ba (A.load (slotAt c sl)), E671ef (A.load (slotAt c sl))]) (.stop [.c q5_4, .c q5_5, .b 0, .c [1, 1]] [(0, vP s)] [.res (IMap m .i64 (Value.int .i64) named), Ee1326 al cl left, Ee1326 ak ck kept, Ee1326 ag cg given, Ed2009 s c (sl + 1) m al left.length cl ak kept.length ck ag given.length cg (.pointer none), E21626 ba (A.load (slotAt c sl)), E671ef (A.load (slotAt c sl))])) (by kernel_rfl) ?_
  refine ok_br (fun h_1 => ?_) (fun h_1 => ?_)
  · replace h_1 := decT h_1
    refine ok_stop ?_
    refine go_lz (by kernel_rfl) (by kernel_rfl) ?_
    refine lz_node (l' := (mk 9 [0, 1, 2, 3, 4, 5, 6, 7])) (V' := [0, 1, 2, 3, 4, 5, 6, 7]) (T1 := [(0, vP s), (5, vU (A.ws.getD (slotAt c sl).toNat 0)), (41, vP s), (42, vP s), (43, .pointer (some ⟨s, 10, none⟩)), (44, .map (some m)), (45, vU (A.ws.getD (slotAt c sl).toNat 0)), (46, vI (lo32 (A.ws.getD (slotAt c sl).toNat 0))), (47, vI ((named (lo32 (A.ws.getD (slotAt c sl).toNat 0))).getD 0)), (48, vI (((named (lo32 (A.ws.getD (slotAt c sl).toNat 0))).getD 0) + 1))]) (ps := [s = s, LawQ Tryz.prog F [.res (IMap m .i64 (Value.int .i64) named), Ee1326 al cl left, Ee1326 ak ck kept, Ee1326 ag cg given, Ed2009 s c (sl + 1) m al left.length cl ak kept.length ck ag given.length cg (.pointer none), E21626 ba (A.load (slotAt c sl)), E671ef (A.load (slotAt c sl))] (vI (lo32 (A.ws.getD (slotAt c sl).toNat 0))) callO (78, #[vU (A.ws.getD (slotAt c sl).toNat 0)]), LawQ Tryz.prog F [.res (IMap m .i64 (Value.int .i64) named), Ee1326 al cl left, Ee1326 ak ck kept, Ee1326 ag cg given, Ed2009 s c (sl + 1) m al left.length cl ak kept.length ck ag given.length cg (.pointer none), E21626 ba (A.load (slotAt c sl)), E671ef (A.load (slotAt c sl))] (vI ((named (lo32 (A.ws.getD (slotAt c sl).toNat 0))).getD 0)) getO (.map (some m), vI (lo32 (A.ws.getD (slotAt c sl).toNat 0)), false, .i64, some (Value.int .i64 0)), InK .i64 (((named (lo32 (A.ws.getD (slotAt c sl).toNat 0))).getD 0) + 1)]) [0, 1, 2, 3, 4, 5, 6, 7] [(0, .h .w), (1, .h .w), (2, .h .w), (3, .h (.e 4)), (4, .h .w), (5, .q (vI (lo32 (A.ws.getD (slotAt c sl).toNat 0)))), (6, .get (vI ((named (lo32 (A.ws.getD (slotAt c sl).toNat 0))).getD 0))), (7, .h (.n))] [0, 5, 41, 42, 43, 44, 45, 46, 47, 48] [8] (by kernel_rfl) ⟨rfl, (law_call Tryz.call78 (quiet_of [] (slots_Block (A.ws.getD (slotAt c sl).toNat 0) (hws _)) (by kernel_rfl) (by rintro v post ⟨rfl, rfl⟩; exact ⟨rfl, rfl⟩))), (fun _ => (R_get 0 (enc := Value.int .i64) (m := named) (by kernel_rfl) (lo32 (A.ws.getD (slotAt c sl).toNat 0)) false 0)), (by have h1 := hnm (lo32 (A.ws.getD (slotAt c sl).toNat 0)); simp only [InK]; omega), trivial⟩ ⟨?_, trivial⟩
    refine lz_by (l' := (mk 9 [0, 1, 2, 3, 4, 5, 6, 7, 8])) (V' := []) none (setO Tryz.prog _) (some (.map (some m), vI (lo32 (A.ws.getD (slotAt c sl).toNat 0)), vI (((named (lo32 (A.ws.getD (slotAt c sl).toNat 0))).getD 0) + 1), .i64)) (R_set 0 (enc := Value.int .i64) (m := named) (by kernel_rfl) (lo32 (A.ws.getD (slotAt c sl).toNat 0)) (((named (lo32 (A.ws.getD (slotAt c sl).toNat 0))).getD 0) + 1)) (by kernel_rfl) ?_
    rintro v L2 ⟨rfl, rfl⟩
    refine lz_end (T1 := [(0, vP s)]) (ps := []) [] [] [0] (by kernel_rfl) trivial ?_
    refine go_exec (rs := [.tmp 4]) (by kernel_rfl) 4000 [.z q5_4 0 [0]] (o := .stop [.c q5_4, .c q5_5, .b 0, .c [1, 1]] [(0, vP s)] [.res (IMap m .i64 (Value.int .i64) (updM named (lo32 (A.ws.getD (slotAt c sl).toNat 0)) (((named (lo32 (A.ws.getD (slotAt c sl).toNat 0))).getD 0) + 1))), Ee1326 al cl left, Ee1326 ak ck kept, Ee1326 ag cg given, Ed2009 s c (sl + 1) m al left.length cl ak kept.length ck ag given.length cg (.pointer none), E21626 ba (A.load (slotAt c sl)), E671ef (A.load (slotAt c sl))]) (by kernel_rfl) ?_
    refine ok_stop ?_
    refine go_quiet (tm' := [(0, vP s), (58, .bool ((sl + 1) == c.slots))]) (ps := [s = s, s = s]) (cs := []) [(0, .h .w), (1, .h .w), (2, .h .w), (3, .h (.e 4)), (4, .h .w), (5, .h .w), (6, .h .w), (7, .h .w), (8, .h (.e 4)), (9, .h .w)] [0, 58] (by kernel_rfl) (by kernel_rfl) ⟨rfl, rfl, trivial⟩ trivial ?_
    refine go_exec (rs := [.tmp 4]) (by kernel_rfl) 4000 [.sp [58] [.z q5_6 1 [0, 59]] [.z [0, 1, 1] 1 [93]]] (o := .br ((sl + 1) == c.slots) (.stop [.o q5_6 1, .b 0, .c [1, 1]] [(0, vP s), (59, vP s)] [.res (IMap m .i64 (Value.int .i64) (updM named (lo32 (A.ws.getD (slotAt c sl).toNat 0)) (((named (lo32 (A.ws.getD (slotAt c sl).toNat 0))).getD 0) + 1))), Ee1326 al cl left, Ee1326 ak ck kept, Ee1326 ag cg given, Ed2009 s c (sl + 1) m al left.length cl ak kept.length ck ag given.length cg (.pointer none), E21626 ba (A.load (slotAt c sl)), E671ef (A.load (slotAt c sl))]) (.stop [.o [0, 1, 1] 1, .c [1, 1, 1]] [(93, vP s)] [.res (IMap m .i64 (Value.int .i64) (updM named (lo32 (A.ws.getD (slotAt c sl).toNat 0)) (((named (lo32 (A.ws.getD (slotAt c sl).toNat 0))).getD 0) + 1))), Ee1326 al cl left, Ee1326 ak ck kept, Ee1326 ag cg given, Ed2009 s c (sl + 1) m al left.length cl ak kept.length ck ag given.length cg (.pointer none), E21626 ba (A.load (slotAt c sl)), E671ef (A.load (slotAt c sl))])) (by kernel_rfl) ?_
    refine ok_br (fun h_2 => ?_) (fun h_2 => ?_)
    · replace h_2 := beqT h_2
      refine ok_stop ?_
      refine go_call (some 60) [4, 0, 1, 2, 3] Tryz.call79 (scan_next c s m (sl + 1) (updM named (lo32 (A.ws.getD (slotAt c sl).toNat 0)) (((named (lo32 (A.ws.getD (slotAt c sl).toNat 0))).getD 0) + 1)) left kept given al ak ag cl ck cg (.pointer none) (by first | assumption | omega | (simp only [InK] at *; omega)) hl.1 (by first | assumption | omega | (simp only [InK] at *; omega))) (by kernel_rfl) ?_
      rintro v post ⟨rfl, rfl⟩
      refine go_exec (rs := [.tmp 4]) (by kernel_rfl) 4000 [.z [0, 1, 1] 1 [93]] (o := .stop [.o [0, 1, 1] 1, .c [1, 1, 1]] [(93, vP s)] [E21626 ba (A.load (slotAt c sl)), E671ef (A.load (slotAt c sl)), .res (ScanR s c (Sc.next c (⟨(sl + 1), (updM named (lo32 (A.ws.getD (slotAt c sl).toNat 0)) (((named (lo32 (A.ws.getD (slotAt c sl).toNat 0))).getD 0) + 1)), left, kept, given, none⟩ : Sc)))]) (by kernel_rfl) ?_
      refine ok_stop ?_
      refine go_call (some 94) [2] Tryz.call71 (scan_Done c s (Sc.next c (⟨(sl + 1), (updM named (lo32 (A.ws.getD (slotAt c sl).toNat 0)) (((named (lo32 (A.ws.getD (slotAt c sl).toNat 0))).getD 0) + 1)), left, kept, given, none⟩ : Sc)) (fun _ => (by show sl + 1 = c.slots; omega))) (by kernel_rfl) ?_
      rintro v post ⟨rfl, rfl⟩
      refine go_exec (rs := [.tmp 4]) (by kernel_rfl) 4000 [] (o := .ret (.bool (Sc.done c (Sc.next c (⟨(sl + 1), (updM named (lo32 (A.ws.getD (slotAt c sl).toNat 0)) (((named (lo32 (A.ws.getD (slotAt c sl).toNat 0))).getD 0) + 1)), left, kept, given, none⟩ : Sc)))) [E21626 ba (A.load (slotAt c sl)), E671ef (A.load (slotAt c sl)), .res (ScanR s c (Sc.next c (⟨(sl + 1), (updM named (lo32 (A.ws.getD (slotAt c sl).toNat 0)) (((named (lo32 (A.ws.getD (slotAt c sl).toNat 0))).getD 0) + 1)), left, kept, given, none⟩ : Sc)))]) (by kernel_rfl) ?_
      have e : Sc.step c (⟨sl, named, left, kept, given, none⟩ : Sc) A = ((Sc.next c (⟨(sl + 1), (updM named (lo32 (A.ws.getD (slotAt c sl).toNat 0)) (((named (lo32 (A.ws.getD (slotAt c sl).toNat 0))).getD 0) + 1)), left, kept, given, none⟩ : Sc)), (A.load (slotAt c sl))) := by
        unfold Sc.step; (try unfold Sc.look); dsimp only; (repeat' (first | rw [if_pos (by first | omega | assumption)] | rw [if_neg (by first | omega | assumption)])) <;> rfl
      exact ret_ok (post := [.res (ScanR s c (Sc.next c (⟨(sl + 1), (updM named (lo32 (A.ws.getD (slotAt c sl).toNat 0)) (((named (lo32 (A.ws.getD (slotAt c sl).toNat 0))).getD 0) + 1)), left, kept, given, none⟩ : Sc))), E21626 ba (A.load (slotAt c sl)), E671ef (A.load (slotAt c sl))]) [2, 0, 1] (by kernel_rfl) ⟨(by first | (rw [e]; done) | (rw [e]; rfl) | (rw [e]; simp [Sc.done]; done) | (rw [e]; simp [Sc.done]; omega)), (by first | (rw [e]; done) | (rw [e]; kernel_rfl))⟩
    · replace h_2 := beqF h_2
      refine ok_stop ?_
      refine go_call (some 94) [4] Tryz.call71 (scan_DoneF c s m (sl + 1) al ak ag left.length kept.length given.length cl ck cg (by first | assumption | omega | (simp only [InK] at *; omega))) (by kernel_rfl) ?_
      rintro v post ⟨rfl, rfl⟩
      refine go_exec (rs := [.tmp 4]) (by kernel_rfl) 4000 [] (o := .ret (.bool false) [.res (IMap m .i64 (Value.int .i64) (updM named (lo32 (A.ws.getD (slotAt c sl).toNat 0)) (((named (lo32 (A.ws.getD (slotAt c sl).toNat 0))).getD 0) + 1))), Ee1326 al cl left, Ee1326 ak ck kept, Ee1326 ag cg given, E21626 ba (A.load (slotAt c sl)), E671ef (A.load (slotAt c sl)), Ed2009 s c (sl + 1) m al left.length cl ak kept.length ck ag given.length cg (.pointer none)]) (by kernel_rfl) ?_
      refine ret_view (L' := [E21626 ba (A.load (slotAt c sl)), E671ef (A.load (slotAt c sl)), .res (ScanR s c (⟨(sl + 1), (updM named (lo32 (A.ws.getD (slotAt c sl).toNat 0)) (((named (lo32 (A.ws.getD (slotAt c sl).toNat 0))).getD 0) + 1)), left, kept, given, none⟩ : Sc))]) (view_pack (fun _ : ScH => True) (scanL s c (⟨(sl + 1), (updM named (lo32 (A.ws.getD (slotAt c sl).toNat 0)) (((named (lo32 (A.ws.getD (slotAt c sl).toNat 0))).getD 0) + 1)), left, kept, given, none⟩ : Sc)) (⟨m, al, ak, ag, cl, ck, cg, 0⟩ : ScH) (M := [E21626 ba (A.load (slotAt c sl)), E671ef (A.load (slotAt c sl))]) [6, 0, 1, 2, 3] (by kernel_rfl) trivial) ?_
      have e : Sc.step c (⟨sl, named, left, kept, given, none⟩ : Sc) A = ((⟨(sl + 1), (updM named (lo32 (A.ws.getD (slotAt c sl).toNat 0)) (((named (lo32 (A.ws.getD (slotAt c sl).toNat 0))).getD 0) + 1)), left, kept, given, none⟩ : Sc), (A.load (slotAt c sl))) := by
        unfold Sc.step; (try unfold Sc.look); dsimp only; (repeat' (first | rw [if_pos (by first | omega | assumption)] | rw [if_neg (by first | omega | assumption)])) <;> rfl
      exact ret_ok (post := [.res (ScanR s c (⟨(sl + 1), (updM named (lo32 (A.ws.getD (slotAt c sl).toNat 0)) (((named (lo32 (A.ws.getD (slotAt c sl).toNat 0))).getD 0) + 1)), left, kept, given, none⟩ : Sc)), E21626 ba (A.load (slotAt c sl)), E671ef (A.load (slotAt c sl))]) [2, 0, 1] (by kernel_rfl) ⟨(by first | (rw [e]; done) | (rw [e]; rfl) | (rw [e]; simp [Sc.done]; done) | (rw [e]; simp [Sc.done]; omega)), (by first | (rw [e]; done) | (rw [e]; kernel_rfl))⟩
  · replace h_1 := decF h_1
    refine ok_stop ?_
    refine go_quiet (tm' := [(0, vP s), (58, .bool ((sl + 1) == c.slots))]) (ps := [s = s, s = s]) (cs := []) [(0, .h .w), (1, .h .w), (2, .h .w), (3, .h (.e 4)), (4, .h .w), (5, .h .w), (6, .h .w), (7, .h .w), (8, .h (.e 4)), (9, .h .w)] [0, 58] (by kernel_rfl) (by kernel_rfl) ⟨rfl, rfl, trivial⟩ trivial ?_
    refine go_exec (rs := [.tmp 4]) (by kernel_rfl) 4000 [.sp [58] [.z q5_6 1 [0, 59]] [.z [0, 1, 1] 1 [93]]] (o := .br ((sl + 1) == c.slots) (.stop [.o q5_6 1, .b 0, .c [1, 1]] [(0, vP s), (59, vP s)] [.res (IMap m .i64 (Value.int .i64) named), Ee1326 al cl left, Ee1326 ak ck kept, Ee1326 ag cg given, Ed2009 s c (sl + 1) m al left.length cl ak kept.length ck ag given.length cg (.pointer none), E21626 ba (A.load (slotAt c sl)), E671ef (A.load (slotAt c sl))]) (.stop [.o [0, 1, 1] 1, .c [1, 1, 1]] [(93, vP s)] [.res (IMap m .i64 (Value.int .i64) named), Ee1326 al cl left, Ee1326 ak ck kept, Ee1326 ag cg given, Ed2009 s c (sl + 1) m al left.length cl ak kept.length ck ag given.length cg (.pointer none), E21626 ba (A.load (slotAt c sl)), E671ef (A.load (slotAt c sl))])) (by kernel_rfl) ?_
    refine ok_br (fun h_3 => ?_) (fun h_3 => ?_)
    · replace h_3 := beqT h_3
      refine ok_stop ?_
      refine go_call (some 60) [4, 0, 1, 2, 3] Tryz.call79 (scan_next c s m (sl + 1) named left kept given al ak ag cl ck cg (.pointer none) (by first | assumption | omega | (simp only [InK] at *; omega)) hl.1 (by first | assumption | omega | (simp only [InK] at *; omega))) (by kernel_rfl) ?_
      rintro v post ⟨rfl, rfl⟩
      refine go_exec (rs := [.tmp 4]) (by kernel_rfl) 4000 [.z [0, 1, 1] 1 [93]] (o := .stop [.o [0, 1, 1] 1, .c [1, 1, 1]] [(93, vP s)] [E21626 ba (A.load (slotAt c sl)), E671ef (A.load (slotAt c sl)), .res (ScanR s c (Sc.next c (⟨(sl + 1), named, left, kept, given, none⟩ : Sc)))]) (by kernel_rfl) ?_
      refine ok_stop ?_
      refine go_call (some 94) [2] Tryz.call71 (scan_Done c s (Sc.next c (⟨(sl + 1), named, left, kept, given, none⟩ : Sc)) (fun _ => (by show sl + 1 = c.slots; omega))) (by kernel_rfl) ?_
      rintro v post ⟨rfl, rfl⟩
      refine go_exec (rs := [.tmp 4]) (by kernel_rfl) 4000 [] (o := .ret (.bool (Sc.done c (Sc.next c (⟨(sl + 1), named, left, kept, given, none⟩ : Sc)))) [E21626 ba (A.load (slotAt c sl)), E671ef (A.load (slotAt c sl)), .res (ScanR s c (Sc.next c (⟨(sl + 1), named, left, kept, given, none⟩ : Sc)))]) (by kernel_rfl) ?_
      have e : Sc.step c (⟨sl, named, left, kept, given, none⟩ : Sc) A = ((Sc.next c (⟨(sl + 1), named, left, kept, given, none⟩ : Sc)), (A.load (slotAt c sl))) := by
        unfold Sc.step; (try unfold Sc.look); dsimp only; (repeat' (first | rw [if_pos (by first | omega | assumption)] | rw [if_neg (by first | omega | assumption)])) <;> rfl
      exact ret_ok (post := [.res (ScanR s c (Sc.next c (⟨(sl + 1), named, left, kept, given, none⟩ : Sc))), E21626 ba (A.load (slotAt c sl)), E671ef (A.load (slotAt c sl))]) [2, 0, 1] (by kernel_rfl) ⟨(by first | (rw [e]; done) | (rw [e]; rfl) | (rw [e]; simp [Sc.done]; done) | (rw [e]; simp [Sc.done]; omega)), (by first | (rw [e]; done) | (rw [e]; kernel_rfl))⟩
    · replace h_3 := beqF h_3
      refine ok_stop ?_
      refine go_call (some 94) [4] Tryz.call71 (scan_DoneF c s m (sl + 1) al ak ag left.length kept.length given.length cl ck cg (by first | assumption | omega | (simp only [InK] at *; omega))) (by kernel_rfl) ?_
      rintro v post ⟨rfl, rfl⟩
      refine go_exec (rs := [.tmp 4]) (by kernel_rfl) 4000 [] (o := .ret (.bool false) [.res (IMap m .i64 (Value.int .i64) named), Ee1326 al cl left, Ee1326 ak ck kept, Ee1326 ag cg given, E21626 ba (A.load (slotAt c sl)), E671ef (A.load (slotAt c sl)), Ed2009 s c (sl + 1) m al left.length cl ak kept.length ck ag given.length cg (.pointer none)]) (by kernel_rfl) ?_
      refine ret_view (L' := [E21626 ba (A.load (slotAt c sl)), E671ef (A.load (slotAt c sl)), .res (ScanR s c (⟨(sl + 1), named, left, kept, given, none⟩ : Sc))]) (view_pack (fun _ : ScH => True) (scanL s c (⟨(sl + 1), named, left, kept, given, none⟩ : Sc)) (⟨m, al, ak, ag, cl, ck, cg, 0⟩ : ScH) (M := [E21626 ba (A.load (slotAt c sl)), E671ef (A.load (slotAt c sl))]) [6, 0, 1, 2, 3] (by kernel_rfl) trivial) ?_
      have e : Sc.step c (⟨sl, named, left, kept, given, none⟩ : Sc) A = ((⟨(sl + 1), named, left, kept, given, none⟩ : Sc), (A.load (slotAt c sl))) := by
        unfold Sc.step; (try unfold Sc.look); dsimp only; (repeat' (first | rw [if_pos (by first | omega | assumption)] | rw [if_neg (by first | omega | assumption)])) <;> rfl
      exact ret_ok (post := [.res (ScanR s c (⟨(sl + 1), named, left, kept, given, none⟩ : Sc)), E21626 ba (A.load (slotAt c sl)), E671ef (A.load (slotAt c sl))]) [2, 0, 1] (by kernel_rfl) ⟨(by first | (rw [e]; done) | (rw [e]; rfl) | (rw [e]; simp [Sc.done]; done) | (rw [e]; simp [Sc.done]; omega)), (by first | (rw [e]; done) | (rw [e]; kernel_rfl))⟩


theorem scan_StepC (c : Cfg) (s ba m : Nat) (sl : Int) (named : Int → Option Int) (left kept given : List Int) (al ak ag : Option Addr) (cl ck cg : Nat) (A : Ar) (gv : Nat) (G : Gv) (hc : c.Ok) (hn : A.ws.length = A.n) (hs : 0 ≤ A.steps ∧ A.steps ≤ 1000000000) (hd : sl = c.slots) (hG : Gv.Ok c A.n G) (hll : 0 < left.length) (hl : kept.length + left.length ≤ 100 ∧ given.length ≤ 100) (hb : ∀ b ∈ left, 0 ≤ clsOf c b) :
    Ctr Tryz.prog 33 #[vP s, vP ba] [Ed2009 s c sl m al left.length cl ak kept.length ck ag given.length cg (vP gv), .res (IMap m .i64 (Value.int .i64) named), Ee1326 al cl left, Ee1326 ak ck kept, Ee1326 ag cg given, Ebd80e gv c G (nxV gv G.ph), E21626 ba A, E671ef A] (Ret (.bool (Sc.done c (Sc.step c (⟨sl, named, left, kept, given, some G⟩ : Sc) A).1)) [.res (ScanR s c ((Sc.step c (⟨sl, named, left, kept, given, some G⟩ : Sc) A).1)), E21626 ba ((Sc.step c (⟨sl, named, left, kept, given, some G⟩ : Sc) A).2), E671ef ((Sc.step c (⟨sl, named, left, kept, given, some G⟩ : Sc) A).2)]) := by
  refine ctr_of (args := [vP s, vP ba]) (fn := Tryz.f33) (body := B33) (nt := 95) Tryz.func33 (by kernel_rfl) (by kernel_rfl) ?_
  intro F
  refine go_exec (rs := [.tmp 4]) (by kernel_rfl) 4000 [.z [0, 0, 0, 1] 1 [0, 1, 7]] (o := .stop [.o [0, 0, 0, 1] 1, .c [1, 0, 0, 1], .b 0, .c [1, 1]] [(0, vP s), (1, vP ba), (7, vP s)] [Ed2009 s c sl m al left.length cl ak kept.length ck ag given.length cg (vP gv), .res (IMap m .i64 (Value.int .i64) named), Ee1326 al cl left, Ee1326 ak ck kept, Ee1326 ag cg given, Ebd80e gv c G (nxV gv G.ph), E21626 ba A, E671ef A]) (by kernel_rfl) ?_
  refine ok_stop ?_
  refine go_call (some 8) [0] Tryz.call71 (scan_DoneG c s m sl al ak ag left.length kept.length given.length cl ck cg gv (by first | assumption | omega | (simp only [InK] at *; omega))) (by kernel_rfl) ?_
  rintro v post ⟨rfl, rfl⟩
  refine go_exec (rs := [.tmp 4]) (by kernel_rfl) 4000 [.z [0, 1, 1, 0, 0, 1] 0 [0, 1]] (o := .stop [.c [0, 1, 1, 0, 0, 1], .c [1, 1, 1, 0, 0, 1], .b 0, .c [1, 1]] [(0, vP s), (1, vP ba)] [.res (IMap m .i64 (Value.int .i64) named), Ee1326 al cl left, Ee1326 ak ck kept, Ee1326 ag cg given, Ebd80e gv c G (nxV gv G.ph), E21626 ba A, E671ef A, Ed2009 s c sl m al left.length cl ak kept.length ck ag given.length cg (vP gv)]) (by kernel_rfl) ?_
  refine ok_stop ?_
  refine go_quiet (tm' := [(0, vP s), (1, vP ba), (9, .bool false)]) (ps := [s = s, s = s, (decide (sl < c.slots)) = false]) (cs := []) [(0, .h .w), (1, .h .w), (2, .h .w), (3, .h (.e 7)), (4, .h .w), (5, .h .w), (6, .h .w), (7, .h .w), (8, .h (.e 7)), (9, .h (.t false)), (10, .h .w)] [0, 1, 9] (by kernel_rfl) (by kernel_rfl) ⟨rfl, rfl, (by first | (simp; done) | (simp; omega)), trivial⟩ trivial ?_
  refine go_exec (rs := [.tmp 4]) (by kernel_rfl) 4000 [.e 7, .z q5_7 5 [0, 65, 66]] (o := .obl (s = s) (.stop [.o q5_7 5, .c [1, 1, 1, 1, 1, 0, 0, 1], .b 0, .c [1, 1]] [(0, vP s), (65, vP gv), (66, vP ba)] [.res (IMap m .i64 (Value.int .i64) named), Ee1326 al cl left, Ee1326 ak ck kept, Ee1326 ag cg given, Ebd80e gv c G (nxV gv G.ph), E21626 ba A, E671ef A, Ed2009 s c sl m al left.length cl ak kept.length ck ag given.length cg (vP gv)])) (by kernel_rfl) ?_
  refine ok_obl rfl ?_
  refine ok_stop ?_
  refine go_call (some 67) [4, 5, 6] Tryz.call80 (give_Step c gv ba G A (by first | assumption | omega | (simp only [InK] at *; omega)) (by first | assumption | omega | (simp only [InK] at *; omega)) (by first | assumption | omega | (simp only [InK] at *; omega)) hG) (by kernel_rfl) ?_
  rintro v post ⟨rfl, rfl⟩
  refine go_exec (rs := [.tmp 4]) (by kernel_rfl) 4000 [.sp [61, 67] [.z q5_8 0 [0]] [.z [0, 1, 1] 1 [93]]] (o := .obl (((G.step c A).1.ph == 0) = ((G.step c A).1.ph == 0)) (.br ((G.step c A).1.ph == 0) (.stop [.c q5_8, .c q5_9, .b 0, .c [1, 1]] [(0, vP s)] [.res (IMap m .i64 (Value.int .i64) named), Ee1326 al cl left, Ee1326 ak ck kept, Ee1326 ag cg given, Ed2009 s c sl m al left.length cl ak kept.length ck ag given.length cg (vP gv), Ebd80e gv c ((G.step c A).1) (nxV gv ((G.step c A).1).ph), E21626 ba ((G.step c A).2), E671ef ((G.step c A).2)]) (.stop [.o [0, 1, 1] 1, .c [1, 1, 1]] [(93, vP s)] [.res (IMap m .i64 (Value.int .i64) named), Ee1326 al cl left, Ee1326 ak ck kept, Ee1326 ag cg given, Ed2009 s c sl m al left.length cl ak kept.length ck ag given.length cg (vP gv), Ebd80e gv c ((G.step c A).1) (nxV gv ((G.step c A).1).ph), E21626 ba ((G.step c A).2), E671ef ((G.step c A).2)]))) (by kernel_rfl) ?_
  refine ok_obl rfl ?_
  refine ok_br (fun h_1 => ?_) (fun h_1 => ?_)
  · replace h_1 := beqT h_1
    refine ok_stop ?_
    refine go_lz (by kernel_rfl) (by kernel_rfl) ?_
    refine lz_node (l' := (mk 25 [0, 1, 2, 3, 4, 5, 6, 7, 8, 9, 10, 11, 14, 15, 16, 17, 18])) (V' := [0, 1, 2, 3, 4, 5, 6, 7, 8, 9, 10, 11, 14, 15, 16, 17, 18]) (T1 := [(0, vP s), (68, vP s), (69, vP s), (70, vP s), (71, vP s), (72, .pointer (some ⟨s, 13, none⟩)), (73, .slice ag given.length cg), (74, vP s), (75, vP s), (76, .pointer (some ⟨s, 11, none⟩)), (77, .slice al left.length cl), (78, slAt al 0 1), (79, vI (left.getD 0 0)), (82, vP s), (83, vP s), (84, .pointer (some ⟨s, 11, none⟩)), (85, .slice al left.length cl), (86, .slice (cutA al cl 1 1) ((left.drop 1).length) (cl - 1))]) (ps := [s = s, s = s, al = al ∧ left.length = left.length, (0 : Int) ≤ 0 ∧ 0 < ((left.length : Nat) : Int), slAt al 0 1 = slAt al 0 1, 0 < left.length, s = s, LawQ Tryz.prog F [.res (IMap m .i64 (Value.int .i64) named), Ee1326 al cl left, Ee1326 ak ck kept, Ee1326 ag cg given, Ed2009 s c sl m al left.length cl ak kept.length ck ag given.length cg (vP gv), Ebd80e gv c ((G.step c A).1) (nxV gv ((G.step c A).1).ph), E21626 ba ((G.step c A).2), E671ef ((G.step c A).2)] (.slice (cutA al cl 1 1) ((left.drop 1).length) (cl - 1)) cutO (.slice al (left).length cl, some (vI 1), none, 1)]) [0, 1, 2, 3, 4, 5, 6, 7, 8, 9, 10, 11, 14, 15, 16, 17, 18] [(0, .h .w), (1, .h .w), (2, .h .w), (3, .h .w), (4, .h .w), (5, .h (.e 4)), (6, .h .w), (7, .h .w), (8, .h .w), (9, .h (.e 4)), (10, .h (.s 1)), (11, .h (.j 1 0)), (14, .h .w), (15, .h .w), (16, .h .w), (17, .h (.e 4)), (18, .cut (.slice (cutA al cl 1 1) ((left.drop 1).length) (cl - 1)))] [0, 68, 69, 70, 71, 72, 73, 74, 75, 76, 77, 78, 79, 82, 83, 84, 85, 86] [12] (by kernel_rfl) ⟨rfl, rfl, ⟨rfl, (by first | rfl | omega | (simp; done) | (simp; omega))⟩, (by first | omega | (simp; done) | (simp; omega)), rfl, (by first | omega | (simp; done) | (simp; omega)), rfl, (fun _ => (R_cutV 1 (a := al) (c := cl) (enc := encI .i64) (d := 0) (sz := 1) (xs := left) (te := 3) (by kernel_rfl) .i64 1 ⟨(by first | omega | (simp; done) | (simp; omega)), (by first | omega | (simp; done) | (simp; omega))⟩)), trivial⟩ ⟨?_, trivial⟩
    refine lz_op (l' := (mk 25 [0, 1, 2, 3, 4, 5, 6, 7, 8, 9, 10, 11, 12, 14, 15, 16, 17, 18])) (V' := [0, 1, 2, 3, 4, 5, 14, 15, 16, 17, 18]) (so := .new fun b_12_1 => .ok (.value (.slice (some ⟨b_12_1, 0, none⟩) 1 1)) [.res (IMap m .i64 (Value.int .i64) named), Ee1326 al cl left, Ee1326 ak ck kept, Ee1326 ag cg given, Ed2009 s c sl m al left.length cl ak kept.length ck ag given.length cg (vP gv), Ebd80e gv c ((G.step c A).1) (nxV gv ((G.step c A).1).ph), E21626 ba ((G.step c A).2), E671ef ((G.step c A).2), .pts b_12_1 [vI (left.getD 0 0)] 3]) (dst := (some 80)) .w (by kernel_rfl) ?_
    refine sat_new fun b_12_1 => ?_
    refine sat_value ?_
    refine lz_node (l' := (mk 25 [0, 1, 2, 3, 4, 5, 6, 7, 8, 9, 10, 11, 12, 14, 15, 16, 17, 18])) (V' := [0, 1, 2, 3, 4, 5, 14, 15, 16, 17, 18]) (T1 := [(80, .slice (some ⟨b_12_1, 0, none⟩) 1 1), (0, vP s), (68, vP s), (69, vP s), (70, vP s), (71, vP s), (72, .pointer (some ⟨s, 13, none⟩)), (73, .slice ag given.length cg), (82, vP s), (83, vP s), (84, .pointer (some ⟨s, 11, none⟩)), (85, .slice al left.length cl), (86, .slice (cutA al cl 1 1) ((left.drop 1).length) (cl - 1))]) (ps := [s = s, s = s, LawQ Tryz.prog F [.res (IMap m .i64 (Value.int .i64) named), Ee1326 al cl left, Ee1326 ak ck kept, Ee1326 ag cg given, Ed2009 s c sl m al left.length cl ak kept.length ck ag given.length cg (vP gv), Ebd80e gv c ((G.step c A).1) (nxV gv ((G.step c A).1).ph), E21626 ba ((G.step c A).2), E671ef ((G.step c A).2), .pts b_12_1 [vI (left.getD 0 0)] 3] (.slice (cutA al cl 1 1) ((left.drop 1).length) (cl - 1)) cutO (.slice al (left).length cl, some (vI 1), none, 1)]) [] [(0, .h .w), (1, .h .w), (2, .h .w), (3, .h .w), (4, .h .w), (5, .h (.e 4)), (14, .h .w), (15, .h .w), (16, .h .w), (17, .h (.e 4)), (18, .cut (.slice (cutA al cl 1 1) ((left.drop 1).length) (cl - 1)))] [80, 0, 68, 69, 70, 71, 72, 73, 82, 83, 84, 85, 86] [13] (by kernel_rfl) ⟨rfl, rfl, (fun _ => (R_cutV 1 (a := al) (c := cl) (enc := encI .i64) (d := 0) (sz := 1) (xs := left) (te := 3) (by kernel_rfl) .i64 1 ⟨(by first | omega | (simp; done) | (simp; omega)), (by first | omega | (simp; done) | (simp; omega))⟩)), trivial⟩ ⟨?_, trivial⟩
    refine lz_by (l' := (mk 25 [0, 1, 2, 3, 4, 5, 6, 7, 8, 9, 10, 11, 12, 13, 14, 15, 16, 17, 18])) (V' := [0, 1, 14, 15, 16, 17, 18]) (some 81) (appO Tryz.prog _) (some (.slice ag (given).length cg, .slice (some ⟨b_12_1, 0, none⟩) 1 1, (3, 1, 8))) (R_append 3 (a := ag) (c := cg) (enc := encI .i64) (d := 0) (sz := 1) (xs := given) (te := 3) (by kernel_rfl) (.slice (some ⟨b_12_1, 0, none⟩) 1 1) [(left.getD 0 0)] (src_pts (i := 8) (t := 3) (by kernel_rfl)) (oneI _) 8 (by first | omega | (simp; done) | (simp; omega)) (by first | omega | (simp; done) | (simp; omega))) (by kernel_rfl) ?_
    rintro v L2 ⟨a_13_1, c_13_1, rfl, rfl⟩
    refine lz_node (l' := (mk 25 [0, 1, 2, 3, 4, 5, 6, 7, 8, 9, 10, 11, 12, 13, 14, 15, 16, 17, 18, 19, 20])) (V' := [0, 1, 14, 15, 16, 17, 18, 19, 20]) (T1 := [(81, .slice a_13_1 ((given ++ [(left.getD 0 0)]).length) c_13_1), (0, vP s), (68, vP s), (69, vP s), (82, vP s), (83, vP s), (84, .pointer (some ⟨s, 11, none⟩)), (85, .slice al left.length cl), (86, .slice (cutA al cl 1 1) ((left.drop 1).length) (cl - 1)), (87, vP s), (88, .pointer (some ⟨s, 13, none⟩))]) (ps := [s = s, LawQ Tryz.prog F [.res (IMap m .i64 (Value.int .i64) named), Ee1326 al cl left, Ee1326 ak ck kept, Ee1326 a_13_1 c_13_1 (given ++ [(left.getD 0 0)]), Ed2009 s c sl m al left.length cl ak kept.length ck ag given.length cg (vP gv), Ebd80e gv c ((G.step c A).1) (nxV gv ((G.step c A).1).ph), E21626 ba ((G.step c A).2), E671ef ((G.step c A).2), .pts b_12_1 [vI (left.getD 0 0)] 3] (.slice (cutA al cl 1 1) ((left.drop 1).length) (cl - 1)) cutO (.slice al (left).length cl, some (vI 1), none, 1)]) [19, 20] [(0, .h .w), (1, .h .w), (14, .h .w), (15, .h .w), (16, .h .w), (17, .h (.e 4)), (18, .cut (.slice (cutA al cl 1 1) ((left.drop 1).length) (cl - 1))), (19, .h .w), (20, .h .w)] [81, 0, 68, 69, 82, 83, 84, 85, 86, 87, 88] [21] (by kernel_rfl) ⟨rfl, (fun _ => (R_cutV 1 (a := al) (c := cl) (enc := encI .i64) (d := 0) (sz := 1) (xs := left) (te := 3) (by kernel_rfl) .i64 1 ⟨(by first | omega | (simp; done) | (simp; omega)), (by first | omega | (simp; done) | (simp; omega))⟩)), trivial⟩ ⟨?_, trivial⟩
    refine lz_op (l' := (mk 25 [0, 1, 2, 3, 4, 5, 6, 7, 8, 9, 10, 11, 12, 13, 14, 15, 16, 17, 18, 19, 20, 21])) (V' := [1, 18]) (so := .obl (s = s) (.ok .skip [.res (IMap m .i64 (Value.int .i64) named), Ee1326 al cl left, Ee1326 ak ck kept, Ee1326 a_13_1 c_13_1 (given ++ [(left.getD 0 0)]), Ed2009 s c sl m al left.length cl ak kept.length ck a_13_1 ((given ++ [(left.getD 0 0)]).length) c_13_1 (vP gv), Ebd80e gv c ((G.step c A).1) (nxV gv ((G.step c A).1).ph), E21626 ba ((G.step c A).2), E671ef ((G.step c A).2), .pts b_12_1 [vI (left.getD 0 0)] 3])) (dst := none) (.e 4) (by kernel_rfl) ?_
    refine sat_obl rfl ?_
    refine sat_skip ?_
    refine lz_node (l' := (mk 25 [0, 1, 2, 3, 4, 5, 6, 7, 8, 9, 10, 11, 12, 13, 14, 15, 16, 17, 18, 19, 20, 21, 22, 23])) (V' := [1, 18, 22, 23]) (T1 := [(0, vP s), (85, .slice al left.length cl), (69, vP s), (86, .slice (cutA al cl 1 1) ((left.drop 1).length) (cl - 1)), (89, vP s), (90, .pointer (some ⟨s, 11, none⟩))]) (ps := [LawQ Tryz.prog F [.res (IMap m .i64 (Value.int .i64) named), Ee1326 al cl left, Ee1326 ak ck kept, Ee1326 a_13_1 c_13_1 (given ++ [(left.getD 0 0)]), Ed2009 s c sl m al left.length cl ak kept.length ck a_13_1 ((given ++ [(left.getD 0 0)]).length) c_13_1 (vP gv), Ebd80e gv c ((G.step c A).1) (nxV gv ((G.step c A).1).ph), E21626 ba ((G.step c A).2), E671ef ((G.step c A).2), .pts b_12_1 [vI (left.getD 0 0)] 3] (.slice (cutA al cl 1 1) ((left.drop 1).length) (cl - 1)) cutO (.slice al (left).length cl, some (vI 1), none, 1)]) [22, 23] [(1, .h .w), (18, .cut (.slice (cutA al cl 1 1) ((left.drop 1).length) (cl - 1))), (22, .h .w), (23, .h .w)] [0, 85, 69, 86, 89, 90] [24] (by kernel_rfl) ⟨(fun _ => (R_cutV 1 (a := al) (c := cl) (enc := encI .i64) (d := 0) (sz := 1) (xs := left) (te := 3) (by kernel_rfl) .i64 1 ⟨(by first | omega | (simp; done) | (simp; omega)), (by first | omega | (simp; done) | (simp; omega))⟩)), trivial⟩ ⟨?_, trivial⟩
    refine lz_op (l' := (mk 25 [0, 1, 2, 3, 4, 5, 6, 7, 8, 9, 10, 11, 12, 13, 14, 15, 16, 17, 18, 19, 20, 21, 22, 23, 24])) (V' := []) (so := .obl (s = s) (.ok .skip [.res (IMap m .i64 (Value.int .i64) named), Ee1326 al cl left, Ee1326 ak ck kept, Ee1326 a_13_1 c_13_1 (given ++ [(left.getD 0 0)]), Ed2009 s c sl m (cutA al cl 1 1) ((left.drop 1).length) (cl - 1) ak kept.length ck a_13_1 ((given ++ [(left.getD 0 0)]).length) c_13_1 (vP gv), Ebd80e gv c ((G.step c A).1) (nxV gv ((G.step c A).1).ph), E21626 ba ((G.step c A).2), E671ef ((G.step c A).2), .pts b_12_1 [vI (left.getD 0 0)] 3])) (dst := none) (.e 4) (by kernel_rfl) ?_
    refine sat_obl rfl ?_
    refine sat_skip ?_
    refine lz_end (T1 := [(0, vP s)]) (ps := []) [] [] [0] (by kernel_rfl) trivial ?_
    refine go_view (L' := [.res (IMap m .i64 (Value.int .i64) named), Ee1326 (cutA al cl 1 1) (cl - 1) (left.drop 1), Ee1326 ak ck kept, Ee1326 a_13_1 c_13_1 (given ++ [(left.getD 0 0)]), Ed2009 s c sl m (cutA al cl 1 1) ((left.drop 1).length) (cl - 1) ak kept.length ck a_13_1 ((given ++ [(left.getD 0 0)]).length) c_13_1 (vP gv), Ebd80e gv c ((G.step c A).1) (nxV gv ((G.step c A).1).ph), E21626 ba ((G.step c A).2), E671ef ((G.step c A).2), .pts b_12_1 [vI (left.getD 0 0)] 3]) (view_cut 1 (a := al) (c := cl) (enc := encI .i64) (d := 0) (sz := 1) (xs := left) (te := 3) (by kernel_rfl) 1 (by first | omega | (simp; done) | (simp; omega))) ?_
    refine go_exec (rs := [.tmp 4]) (by kernel_rfl) 4000 [.z q5_9 1 [0, 91]] (o := .stop [.o q5_9 1, .b 0, .c [1, 1]] [(0, vP s), (91, vP s)] [.res (IMap m .i64 (Value.int .i64) named), Ee1326 (cutA al cl 1 1) (cl - 1) (left.drop 1), Ee1326 ak ck kept, Ee1326 a_13_1 c_13_1 (given ++ [(left.getD 0 0)]), Ed2009 s c sl m (cutA al cl 1 1) ((left.drop 1).length) (cl - 1) ak kept.length ck a_13_1 ((given ++ [(left.getD 0 0)]).length) c_13_1 (vP gv), Ebd80e gv c ((G.step c A).1) (nxV gv ((G.step c A).1).ph), E21626 ba ((G.step c A).2), E671ef ((G.step c A).2), .pts b_12_1 [vI (left.getD 0 0)] 3]) (by kernel_rfl) ?_
    refine ok_stop ?_
    refine go_call (some 92) [4, 0, 1, 2, 3] Tryz.call79 (scan_next c s m sl named (left.drop 1) kept (given ++ [(left.getD 0 0)]) (cutA al cl 1 1) ak a_13_1 (cl - 1) ck c_13_1 (vP gv) (by first | assumption | omega | (simp only [InK] at *; omega)) (by simp; omega) (fun b h => hb b (List.mem_of_mem_drop h))) (by kernel_rfl) ?_
    rintro v post ⟨rfl, rfl⟩
    refine go_exec (rs := [.tmp 4]) (by kernel_rfl) 4000 [.z [0, 1, 1] 1 [93]] (o := .stop [.o [0, 1, 1] 1, .c [1, 1, 1]] [(93, vP s)] [Ebd80e gv c ((G.step c A).1) (nxV gv ((G.step c A).1).ph), E21626 ba ((G.step c A).2), E671ef ((G.step c A).2), .pts b_12_1 [vI (left.getD 0 0)] 3, .res (ScanR s c (Sc.next c (⟨sl, named, (left.drop 1), kept, (given ++ [(left.getD 0 0)]), none⟩ : Sc)))]) (by kernel_rfl) ?_
    refine ok_stop ?_
    refine go_call (some 94) [4] Tryz.call71 (scan_Done c s (Sc.next c (⟨sl, named, (left.drop 1), kept, (given ++ [(left.getD 0 0)]), none⟩ : Sc)) (fun _ => (by show sl = c.slots; omega))) (by kernel_rfl) ?_
    rintro v post ⟨rfl, rfl⟩
    refine go_exec (rs := [.tmp 4]) (by kernel_rfl) 4000 [] (o := .ret (.bool (Sc.done c (Sc.next c (⟨sl, named, (left.drop 1), kept, (given ++ [(left.getD 0 0)]), none⟩ : Sc)))) [Ebd80e gv c ((G.step c A).1) (nxV gv ((G.step c A).1).ph), E21626 ba ((G.step c A).2), E671ef ((G.step c A).2), .pts b_12_1 [vI (left.getD 0 0)] 3, .res (ScanR s c (Sc.next c (⟨sl, named, (left.drop 1), kept, (given ++ [(left.getD 0 0)]), none⟩ : Sc)))]) (by kernel_rfl) ?_
    have e : Sc.step c (⟨sl, named, left, kept, given, some G⟩ : Sc) A = ((Sc.next c (⟨sl, named, (left.drop 1), kept, (given ++ [(left.getD 0 0)]), none⟩ : Sc)), (G.step c A).2) := by
      unfold Sc.step; (try unfold Sc.look); dsimp only; (repeat' (first | rw [if_pos (by first | omega | assumption)] | rw [if_neg (by first | omega | assumption)])) <;> rfl
    exact ret_ok (post := [.res (ScanR s c (Sc.next c (⟨sl, named, (left.drop 1), kept, (given ++ [(left.getD 0 0)]), none⟩ : Sc))), E21626 ba ((G.step c A).2), E671ef ((G.step c A).2)]) [4, 1, 2] (by kernel_rfl) ⟨(by first | (rw [e]; done) | (rw [e]; rfl) | (rw [e]; simp [Sc.done]; done) | (rw [e]; simp [Sc.done]; omega)), (by first | (rw [e]; done) | (rw [e]; kernel_rfl))⟩
  · replace h_1 := beqF h_1
    refine ok_stop ?_
    refine go_call (some 94) [4] Tryz.call71 (scan_DoneG c s m sl al ak ag left.length kept.length given.length cl ck cg gv (by first | assumption | omega | (simp only [InK] at *; omega))) (by kernel_rfl) ?_
    rintro v post ⟨rfl, rfl⟩
    refine go_exec (rs := [.tmp 4]) (by kernel_rfl) 4000 [] (o := .ret (.bool false) [.res (IMap m .i64 (Value.int .i64) named), Ee1326 al cl left, Ee1326 ak ck kept, Ee1326 ag cg given, Ebd80e gv c ((G.step c A).1) (nxV gv ((G.step c A).1).ph), E21626 ba ((G.step c A).2), E671ef ((G.step c A).2), Ed2009 s c sl m al left.length cl ak kept.length ck ag given.length cg (vP gv)]) (by kernel_rfl) ?_
    refine ret_view (L' := [E21626 ba ((G.step c A).2), E671ef ((G.step c A).2), .res (ScanR s c (⟨sl, named, left, kept, given, (some (G.step c A).1)⟩ : Sc))]) (view_pack (fun _ : ScH => True) (scanL s c (⟨sl, named, left, kept, given, (some (G.step c A).1)⟩ : Sc)) (⟨m, al, ak, ag, cl, ck, cg, gv⟩ : ScH) (M := [E21626 ba ((G.step c A).2), E671ef ((G.step c A).2)]) [7, 0, 1, 2, 3, 4] (by kernel_rfl) trivial) ?_
    have e : Sc.step c (⟨sl, named, left, kept, given, some G⟩ : Sc) A = ((⟨sl, named, left, kept, given, (some (G.step c A).1)⟩ : Sc), (G.step c A).2) := by
      unfold Sc.step; (try unfold Sc.look); dsimp only; (repeat' (first | rw [if_pos (by first | omega | assumption)] | rw [if_neg (by first | omega | assumption)])) <;> rfl
    exact ret_ok (post := [.res (ScanR s c (⟨sl, named, left, kept, given, (some (G.step c A).1)⟩ : Sc)), E21626 ba ((G.step c A).2), E671ef ((G.step c A).2)]) [2, 0, 1] (by kernel_rfl) ⟨(by first | (rw [e]; done) | (rw [e]; rfl) | (rw [e]; simp [Sc.done]; done) | (rw [e]; simp [Sc.done]; omega)), (by first | (rw [e]; done) | (rw [e]; kernel_rfl))⟩

end Go.Proofs.YtilaihbbollcnaaGreatDoor


namespace Go.Proofs.YtilaihbbollcnaaGreatDoor
open Go.Sx

theorem scan_Step (c : Cfg) (s ba : Nat) (S : Sc) (A : Ar) (hc : c.Ok) (hS : S.Ok c A.n) (hA : A.Ok c) :
    Ctr Tryz.prog 33 #[vP s, vP ba] [.res (ScanR s c S), E21626 ba A, E671ef A] (Ret (.bool (Sc.done c (S.step c A).1)) [.res (ScanR s c ((S.step c A).1)), E21626 ba ((S.step c A).2), E671ef ((S.step c A).2)]) := by
  obtain ⟨sl, named, left, kept, given, give⟩ := S
  obtain ⟨h1, h2, h3, h4, h5, h6⟩ := hS
  obtain ⟨g1, g2, g3, g4⟩ := hA
  simp only at h1 h2 h3 h4 h5 h6
  have hc' := hc
  simp only [Cfg.Ok] at hc'
  refine ctr_open (I := fun _ : ScH => True) (LL := scanL s c ⟨sl, named, left, kept, given, give⟩) (M := [E21626 ba A, E671ef A]) 0 (by kernel_rfl) ?_
  rintro h -
  cases give with
  | none =>
    by_cases hd : sl = c.slots
    · exact ctr_pre [2, 3, 4, 5, 6, 0, 1] (by kernel_rfl) (scan_StepA c s ba h.m sl named left kept given h.al h.ak h.ag h.cl h.ck h.cg A hc hd)
    · exact ctr_pre [2, 3, 4, 5, 6, 0, 1] (by kernel_rfl) (scan_StepB c s ba h.m sl named left kept given h.al h.ak h.ag h.cl h.ck h.cg A hc g1 g4 (by omega) g2 g3 (fun k => by have := h5 k; omega) h3 h4)
  | some G =>
    obtain ⟨q1, q2⟩ := h6 G rfl
    exact ctr_pre [2, 3, 4, 5, 6, 7, 0, 1] (by kernel_rfl) (scan_StepC c s ba h.m sl named left kept given h.al h.ak h.ag h.cl h.ck h.cg A h.gp G hc g1 g4 (h2 (by simp)) q1 q2 h3 h4)

end Go.Proofs.YtilaihbbollcnaaGreatDoor


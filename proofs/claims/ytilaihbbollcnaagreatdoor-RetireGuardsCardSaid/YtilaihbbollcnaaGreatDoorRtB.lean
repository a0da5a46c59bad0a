/- Walks: what functions of the program and of the document compute, part 2 of those on which RetireGuards rests. -/
import Derived.Test.YtilaihbbollcnaaGreatDoorRtA

set_option linter.unusedVariables false
set_option linter.unusedSimpArgs false

namespace Go.Proofs.YtilaihbbollcnaaGreatDoor
open Go.Sx
abbrev q7_0 : List Nat := [1, 0, 0, 1, 1, 0, 0, 1, 0, 1, 1, 1]
abbrev q7_1 : List Nat := [1, 1, 1, 0, 0, 1, 0, 1, 1, 1]
abbrev q7_2 : List Nat := [0, 1, 0, 1, 0, 0, 1, 1, 0, 0, 1, 0, 1, 1, 1, 1, 1, 1, 1]
abbrev q7_3 : List Nat := [0, 1, 0, 1, 1, 1, 1, 1, 1, 1, 1]
abbrev q7_4 : List Nat := [1, 1, 0, 0, 1, 1, 0, 0, 1, 0, 1, 1, 1, 1, 1, 1, 1]
abbrev q7_5 : List Nat := [1, 1, 1, 0, 0, 1, 0, 1, 1, 1, 1, 1, 1, 1]
abbrev q7_6 : List Nat := [0, 1, 0, 1, 1, 1, 1, 1, 1, 1]
abbrev q7_7 : List Nat := [1, 1, 1, 1, 1, 1, 1, 1]
abbrev q7_8 : List Nat := [1, 1, 1, 1, 1, 1, 1, 1, 1]
abbrev q7_9 : List Nat := [0, 0, 0, 0, 1, 0, 1, 1, 1, 1, 1, 1, 1, 1]
abbrev q7_10 : List Nat := [1, 0, 0, 0, 1, 0, 1, 1, 1, 1, 1, 1, 1, 1]
abbrev q7_11 : List Nat := [1, 0, 0, 1, 0, 1, 1, 1, 1, 1, 1, 1, 1]
abbrev q7_12 : List Nat := [0, 0, 0, 1, 0, 0, 1, 0, 1, 1, 1, 1, 1, 1, 1, 1]
abbrev q7_13 : List Nat := [1, 0, 0, 1, 0, 0, 1, 0, 1, 1, 1, 1, 1, 1, 1, 1]
abbrev q7_14 : List Nat := [1, 1, 0, 0, 1, 0, 1, 1, 1, 1, 1, 1, 1, 1]
abbrev q7_15 : List Nat := [0, 1, 0, 0, 1, 0, 0, 1, 0, 1, 1, 1, 1, 1, 1, 1, 1]
noncomputable def B84 : Code := (Tryz.f84.body).getD .skip

theorem bits_Set (w_ at_ n v_ : Int) (h : 1 ≤ n ∧ n ≤ 64 ∧ 0 ≤ at_ ∧ at_ + n ≤ 64) (hv : bAndNot .u64 v_ (bShr .u64 18446744073709551615 (64 - n)) = 0) :
    Ctr Tryz.prog 84 #[vU w_, vI at_, vI n, vU v_] [] (Ret (.tuple #[vU (setW w_ at_ n v_), .bool true]) []) := by
  refine ctr_of (args := [vU w_, vI at_, vI n, vU v_]) (fn := Tryz.f84) (body := B84) (nt := 32) Tryz.func84 (by kernel_rfl) (by kernel_rfl) ?_
  intro F
  refine go_exec (rs := [.tmp 8, .tmp 9]) (by kernel_rfl) 4000 [.z [0, 0, 1] 2 [0, 1, 2, 3, 10, 11]] (o := .stop [.o [0, 0, 1] 2, .c [1, 0, 1], .c [1, 1]] [(0, vU w_), (1, vI at_), (2, vI n), (3, vU v_), (10, vI at_), (11, vI n)] []) (by kernel_rfl) ?_
  refine ok_stop ?_
  refine go_call (some 12) [] Tryz.call103 (bits_may at_ n (by first | assumption | omega | (simp only [InK] at *; omega))) (by kernel_rfl) ?_
  rintro v post ⟨rfl, rfl⟩
  refine go_exec (rs := [.tmp 8, .tmp 9]) (by kernel_rfl) 4000 [.z [0, 0, 1] 7 [0, 1, 2, 3, 14, 15, 16]] (o := .stop [.o [0, 0, 1] 7, .c [1, 0, 1], .c [1, 1]] [(0, vU w_), (1, vI at_), (2, vI n), (3, vU v_), (14, .bool false), (15, vU v_), (16, vI n)] []) (by kernel_rfl) ?_
  refine ok_stop ?_
  refine go_call (some 17) [] Tryz.call104 (bits_all n (by omega)) (by kernel_rfl) ?_
  rintro v post ⟨rfl, rfl⟩
  refine go_exec (rs := [.tmp 8, .tmp 9]) (by kernel_rfl) 4000 [.sp [20, 19] [.dead] [.z [0, 1, 1] 0 [0, 1, 2, 3]]] (o := .obl (((bAndNot .u64 v_ (bShr .u64 18446744073709551615 (64 - n))) != 0) = ((bAndNot .u64 v_ (bShr .u64 18446744073709551615 (64 - n))) != 0)) (.br ((bAndNot .u64 v_ (bShr .u64 18446744073709551615 (64 - n))) != 0) (.bad) (.stop [.c [0, 1, 1], .c [1, 1, 1]] [(0, vU w_), (1, vI at_), (2, vI n), (3, vU v_)] []))) (by kernel_rfl) ?_
  refine ok_obl rfl ?_
  refine ok_br (fun h => absurd (show ((bAndNot .u64 v_ (bShr .u64 18446744073709551615 (64 - n))) != 0) = false from (by rw [hv]; rfl)) (by rw [h]; simp)) (fun _ => ?_)
  refine ok_stop ?_
  refine go_quiet (tm' := [(8, vU (bOr .u64 (bAndNot .u64 w_ (bShl .u64 (bShr .u64 18446744073709551615 (64 - n)) at_)) (bShl .u64 v_ at_))), (9, .bool true)]) (ps := [(0 : Int) ≤ at_, (0 : Int) ≤ at_]) (cs := [(104, #[vI n], vU (bShr .u64 18446744073709551615 (64 - n)))]) [(0, .h .w), (1, .h .w), (2, .q (vU (bShr .u64 18446744073709551615 (64 - n)))), (3, .h .w), (4, .h (.n)), (5, .h .w), (6, .h .w), (7, .h .w), (8, .h (.n)), (9, .h .w), (10, .h .w), (11, .h .w)] [8, 9] (by kernel_rfl) (by kernel_rfl) ⟨(by first | omega | (simp; done) | (simp; omega)), (by first | omega | (simp; done) | (simp; omega)), trivial⟩ ⟨⟨Tryz.call104, quiet_of [] (bits_all n (by omega)) (by kernel_rfl) (by rintro v post ⟨rfl, rfl⟩; exact ⟨rfl, rfl⟩)⟩, trivial⟩ ?_
  refine go_exec (rs := [.tmp 8, .tmp 9]) (by kernel_rfl) 4000 [] (o := .ret (.tuple #[vU (bOr .u64 (bAndNot .u64 w_ (bShl .u64 (bShr .u64 18446744073709551615 (64 - n)) at_)) (bShl .u64 v_ at_)), .bool true]) []) (by kernel_rfl) ?_
  exact ret_ok (post := []) [] (by kernel_rfl) ⟨rfl, (by kernel_rfl)⟩

noncomputable def B41 : Code := (Tryz.f41.body).getD .skip

theorem plan_Pack (c : Cfg) (hc : c.Ok) :
    Ctr Tryz.prog 41 #[cfgV c] [] (Ret (vU (packW c)) []) := by
  refine ctr_of (args := [cfgV c]) (fn := Tryz.f41) (body := B41) (nt := 27) Tryz.func41 (by kernel_rfl) (by kernel_rfl) ?_
  intro F
  refine go_exec (rs := [.tmp 2]) (by kernel_rfl) 4000 [.e 0, .z [0, 0, 1, 1] 1 [1, 3, 6]] (o := .new fun b_1 => .obl (b_1 = b_1) (.stop [.o [0, 0, 1, 1] 1, .c [1, 0, 1, 1], .c [1, 1, 1]] [(1, vP b_1), (3, vU 0), (6, cfgV c)] [Ee1539 b_1 c])) (by kernel_rfl) ?_
  refine ok_new fun b_1 => ?_
  refine ok_obl rfl ?_
  refine ok_stop ?_
  refine go_call (some 7) [] Tryz.call82 (plan_right c (by first | assumption | omega | (simp only [InK] at *; omega))) (by kernel_rfl) ?_
  rintro v post ⟨rfl, rfl⟩
  refine go_exec (rs := [.tmp 2]) (by kernel_rfl) 4000 [.e 0, .z [0, 0, 1, 1, 1] 1 [3, 10]] (o := .obl (b_1 = b_1) (.stop [.o [0, 0, 1, 1, 1] 1, .c [1, 0, 1, 1, 1], .c [1, 1, 1, 1]] [(3, vU 0), (10, cfgV c)] [Ee1539 b_1 c])) (by kernel_rfl) ?_
  refine ok_obl rfl ?_
  refine ok_stop ?_
  refine go_call (some 11) [] Tryz.call83 (plan_parts c) (by kernel_rfl) ?_
  rintro v post ⟨rfl, rfl⟩
  refine go_exec (rs := [.tmp 2]) (by kernel_rfl) 4000 [.u, .w, .w, .z q7_0 5 [11, 12, 17, 19, 21]] (o := .stop [.o q7_0 5, .b 1, .c q7_1, .r [0, 1, 0, 1, 1, 1], .b 0, .c [1, 1, 1, 1]] [(11, .agg #[vI c.topics, vI c.small, vI c.slots, vI c.clients, vI c.retry, vI c.s0, vI c.n0, vI c.s1, vI c.n1]), (12, vI 0), (17, vU 0), (19, vI 0), (21, vU (IntKind.u64.wrap c.topics))] [Ee1539 b_1 c]) (by kernel_rfl) ?_
  refine ok_stop ?_
  refine go_call (some 22) [] Tryz.call84 (bits_Set 0 0 7 (IntKind.u64.wrap c.topics) (by omega) (part_fits (by simp only [Cfg.Ok] at hc; omega))) (by kernel_rfl) ?_
  rintro v post ⟨rfl, rfl⟩
  refine go_exec (rs := [.tmp 2]) (by kernel_rfl) 4000 [.w, .u, .w, .w, .z q7_0 5 [11, 12, 17, 19, 21]] (o := .stop [.o q7_0 5, .b 1, .c q7_1, .r [0, 1, 0, 1, 1, 1], .b 0, .c [1, 1, 1, 1]] [(11, .agg #[vI c.topics, vI c.small, vI c.slots, vI c.clients, vI c.retry, vI c.s0, vI c.n0, vI c.s1, vI c.n1]), (12, vI 1), (17, vU (setW 0 0 7 (IntKind.u64.wrap c.topics))), (19, vI 7), (21, vU (IntKind.u64.wrap c.small))] [Ee1539 b_1 c]) (by kernel_rfl) ?_
  refine ok_stop ?_
  refine go_call (some 22) [] Tryz.call84 (bits_Set (setW 0 0 7 (IntKind.u64.wrap c.topics)) 7 7 (IntKind.u64.wrap c.small) (by omega) (part_fits (by simp only [Cfg.Ok] at hc; omega))) (by kernel_rfl) ?_
  rintro v post ⟨rfl, rfl⟩
  refine go_exec (rs := [.tmp 2]) (by kernel_rfl) 4000 [.w, .u, .w, .w, .z q7_0 5 [11, 12, 17, 19, 21]] (o := .stop [.o q7_0 5, .b 1, .c q7_1, .r [0, 1, 0, 1, 1, 1], .b 0, .c [1, 1, 1, 1]] [(11, .agg #[vI c.topics, vI c.small, vI c.slots, vI c.clients, vI c.retry, vI c.s0, vI c.n0, vI c.s1, vI c.n1]), (12, vI 2), (17, vU (setW (setW 0 0 7 (IntKind.u64.wrap c.topics)) 7 7 (IntKind.u64.wrap c.small))), (19, vI 14), (21, vU (IntKind.u64.wrap c.slots))] [Ee1539 b_1 c]) (by kernel_rfl) ?_
  refine ok_stop ?_
  refine go_call (some 22) [] Tryz.call84 (bits_Set (setW (setW 0 0 7 (IntKind.u64.wrap c.topics)) 7 7 (IntKind.u64.wrap c.small)) 14 7 (IntKind.u64.wrap c.slots) (by omega) (part_fits (by simp only [Cfg.Ok] at hc; omega))) (by kernel_rfl) ?_
  rintro v post ⟨rfl, rfl⟩
  refine go_exec (rs := [.tmp 2]) (by kernel_rfl) 4000 [.w, .u, .w, .w, .z q7_0 5 [11, 12, 17, 19, 21]] (o := .stop [.o q7_0 5, .b 1, .c q7_1, .r [0, 1, 0, 1, 1, 1], .b 0, .c [1, 1, 1, 1]] [(11, .agg #[vI c.topics, vI c.small, vI c.slots, vI c.clients, vI c.retry, vI c.s0, vI c.n0, vI c.s1, vI c.n1]), (12, vI 3), (17, vU (setW (setW (setW 0 0 7 (IntKind.u64.wrap c.topics)) 7 7 (IntKind.u64.wrap c.small)) 14 7 (IntKind.u64.wrap c.slots))), (19, vI 21), (21, vU (IntKind.u64.wrap c.clients))] [Ee1539 b_1 c]) (by kernel_rfl) ?_
  refine ok_stop ?_
  refine go_call (some 22) [] Tryz.call84 (bits_Set (setW (setW (setW 0 0 7 (IntKind.u64.wrap c.topics)) 7 7 (IntKind.u64.wrap c.small)) 14 7 (IntKind.u64.wrap c.slots)) 21 7 (IntKind.u64.wrap c.clients) (by omega) (part_fits (by simp only [Cfg.Ok] at hc; omega))) (by kernel_rfl) ?_
  rintro v post ⟨rfl, rfl⟩
  refine go_exec (rs := [.tmp 2]) (by kernel_rfl) 4000 [.w, .u, .w, .w, .z q7_0 5 [11, 12, 17, 19, 21]] (o := .stop [.o q7_0 5, .b 1, .c q7_1, .r [0, 1, 0, 1, 1, 1], .b 0, .c [1, 1, 1, 1]] [(11, .agg #[vI c.topics, vI c.small, vI c.slots, vI c.clients, vI c.retry, vI c.s0, vI c.n0, vI c.s1, vI c.n1]), (12, vI 4), (17, vU (setW (setW (setW (setW 0 0 7 (IntKind.u64.wrap c.topics)) 7 7 (IntKind.u64.wrap c.small)) 14 7 (IntKind.u64.wrap c.slots)) 21 7 (IntKind.u64.wrap c.clients))), (19, vI 28), (21, vU (IntKind.u64.wrap c.retry))] [Ee1539 b_1 c]) (by kernel_rfl) ?_
  refine ok_stop ?_
  refine go_call (some 22) [] Tryz.call84 (bits_Set (setW (setW (setW (setW 0 0 7 (IntKind.u64.wrap c.topics)) 7 7 (IntKind.u64.wrap c.small)) 14 7 (IntKind.u64.wrap c.slots)) 21 7 (IntKind.u64.wrap c.clients)) 28 7 (IntKind.u64.wrap c.retry) (by omega) (part_fits (by simp only [Cfg.Ok] at hc; omega))) (by kernel_rfl) ?_
  rintro v post ⟨rfl, rfl⟩
  refine go_exec (rs := [.tmp 2]) (by kernel_rfl) 4000 [.w, .u, .w, .w, .z q7_0 5 [11, 12, 17, 19, 21]] (o := .stop [.o q7_0 5, .b 1, .c q7_1, .r [0, 1, 0, 1, 1, 1], .b 0, .c [1, 1, 1, 1]] [(11, .agg #[vI c.topics, vI c.small, vI c.slots, vI c.clients, vI c.retry, vI c.s0, vI c.n0, vI c.s1, vI c.n1]), (12, vI 5), (17, vU (setW (setW (setW (setW (setW 0 0 7 (IntKind.u64.wrap c.topics)) 7 7 (IntKind.u64.wrap c.small)) 14 7 (IntKind.u64.wrap c.slots)) 21 7 (IntKind.u64.wrap c.clients)) 28 7 (IntKind.u64.wrap c.retry))), (19, vI 35), (21, vU (IntKind.u64.wrap c.s0))] [Ee1539 b_1 c]) (by kernel_rfl) ?_
  refine ok_stop ?_
  refine go_call (some 22) [] Tryz.call84 (bits_Set (setW (setW (setW (setW (setW 0 0 7 (IntKind.u64.wrap c.topics)) 7 7 (IntKind.u64.wrap c.small)) 14 7 (IntKind.u64.wrap c.slots)) 21 7 (IntKind.u64.wrap c.clients)) 28 7 (IntKind.u64.wrap c.retry)) 35 7 (IntKind.u64.wrap c.s0) (by omega) (part_fits (by simp only [Cfg.Ok] at hc; omega))) (by kernel_rfl) ?_
  rintro v post ⟨rfl, rfl⟩
  refine go_exec (rs := [.tmp 2]) (by kernel_rfl) 4000 [.w, .u, .w, .w, .z q7_0 5 [11, 12, 17, 19, 21]] (o := .stop [.o q7_0 5, .b 1, .c q7_1, .r [0, 1, 0, 1, 1, 1], .b 0, .c [1, 1, 1, 1]] [(11, .agg #[vI c.topics, vI c.small, vI c.slots, vI c.clients, vI c.retry, vI c.s0, vI c.n0, vI c.s1, vI c.n1]), (12, vI 6), (17, vU (setW (setW (setW (setW (setW (setW 0 0 7 (IntKind.u64.wrap c.topics)) 7 7 (IntKind.u64.wrap c.small)) 14 7 (IntKind.u64.wrap c.slots)) 21 7 (IntKind.u64.wrap c.clients)) 28 7 (IntKind.u64.wrap c.retry)) 35 7 (IntKind.u64.wrap c.s0))), (19, vI 42), (21, vU (IntKind.u64.wrap c.n0))] [Ee1539 b_1 c]) (by kernel_rfl) ?_
  refine ok_stop ?_
  refine go_call (some 22) [] Tryz.call84 (bits_Set (setW (setW (setW (setW (setW (setW 0 0 7 (IntKind.u64.wrap c.topics)) 7 7 (IntKind.u64.wrap c.small)) 14 7 (IntKind.u64.wrap c.slots)) 21 7 (IntKind.u64.wrap c.clients)) 28 7 (IntKind.u64.wrap c.retry)) 35 7 (IntKind.u64.wrap c.s0)) 42 7 (IntKind.u64.wrap c.n0) (by omega) (part_fits (by simp only [Cfg.Ok] at hc; omega))) (by kernel_rfl) ?_
  rintro v post ⟨rfl, rfl⟩
  refine go_exec (rs := [.tmp 2]) (by kernel_rfl) 4000 [.w, .u, .w, .w, .z q7_0 5 [11, 12, 17, 19, 21]] (o := .stop [.o q7_0 5, .b 1, .c q7_1, .r [0, 1, 0, 1, 1, 1], .b 0, .c [1, 1, 1, 1]] [(11, .agg #[vI c.topics, vI c.small, vI c.slots, vI c.clients, vI c.retry, vI c.s0, vI c.n0, vI c.s1, vI c.n1]), (12, vI 7), (17, vU (setW (setW (setW (setW (setW (setW (setW 0 0 7 (IntKind.u64.wrap c.topics)) 7 7 (IntKind.u64.wrap c.small)) 14 7 (IntKind.u64.wrap c.slots)) 21 7 (IntKind.u64.wrap c.clients)) 28 7 (IntKind.u64.wrap c.retry)) 35 7 (IntKind.u64.wrap c.s0)) 42 7 (IntKind.u64.wrap c.n0))), (19, vI 49), (21, vU (IntKind.u64.wrap c.s1))] [Ee1539 b_1 c]) (by kernel_rfl) ?_
  refine ok_stop ?_
  refine go_call (some 22) [] Tryz.call84 (bits_Set (setW (setW (setW (setW (setW (setW (setW 0 0 7 (IntKind.u64.wrap c.topics)) 7 7 (IntKind.u64.wrap c.small)) 14 7 (IntKind.u64.wrap c.slots)) 21 7 (IntKind.u64.wrap c.clients)) 28 7 (IntKind.u64.wrap c.retry)) 35 7 (IntKind.u64.wrap c.s0)) 42 7 (IntKind.u64.wrap c.n0)) 49 7 (IntKind.u64.wrap c.s1) (by omega) (part_fits (by simp only [Cfg.Ok] at hc; omega))) (by kernel_rfl) ?_
  rintro v post ⟨rfl, rfl⟩
  refine go_exec (rs := [.tmp 2]) (by kernel_rfl) 4000 [.w, .u, .w, .w, .z q7_0 5 [11, 12, 17, 19, 21]] (o := .stop [.o q7_0 5, .b 1, .c q7_1, .r [0, 1, 0, 1, 1, 1], .b 0, .c [1, 1, 1, 1]] [(11, .agg #[vI c.topics, vI c.small, vI c.slots, vI c.clients, vI c.retry, vI c.s0, vI c.n0, vI c.s1, vI c.n1]), (12, vI 8), (17, vU (setW (setW (setW (setW (setW (setW (setW (setW 0 0 7 (IntKind.u64.wrap c.topics)) 7 7 (IntKind.u64.wrap c.small)) 14 7 (IntKind.u64.wrap c.slots)) 21 7 (IntKind.u64.wrap c.clients)) 28 7 (IntKind.u64.wrap c.retry)) 35 7 (IntKind.u64.wrap c.s0)) 42 7 (IntKind.u64.wrap c.n0)) 49 7 (IntKind.u64.wrap c.s1))), (19, vI 56), (21, vU (IntKind.u64.wrap c.n1))] [Ee1539 b_1 c]) (by kernel_rfl) ?_
  refine ok_stop ?_
  refine go_call (some 22) [] Tryz.call84 (bits_Set (setW (setW (setW (setW (setW (setW (setW (setW 0 0 7 (IntKind.u64.wrap c.topics)) 7 7 (IntKind.u64.wrap c.small)) 14 7 (IntKind.u64.wrap c.slots)) 21 7 (IntKind.u64.wrap c.clients)) 28 7 (IntKind.u64.wrap c.retry)) 35 7 (IntKind.u64.wrap c.s0)) 42 7 (IntKind.u64.wrap c.n0)) 49 7 (IntKind.u64.wrap c.s1)) 56 7 (IntKind.u64.wrap c.n1) (by omega) (part_fits (by simp only [Cfg.Ok] at hc; omega))) (by kernel_rfl) ?_
  rintro v post ⟨rfl, rfl⟩
  refine go_exec (rs := [.tmp 2]) (by kernel_rfl) 4000 [.w, .u] (o := .ret (vU (setW (setW (setW (setW (setW (setW (setW (setW (setW 0 0 7 (IntKind.u64.wrap c.topics)) 7 7 (IntKind.u64.wrap c.small)) 14 7 (IntKind.u64.wrap c.slots)) 21 7 (IntKind.u64.wrap c.clients)) 28 7 (IntKind.u64.wrap c.retry)) 35 7 (IntKind.u64.wrap c.s0)) 42 7 (IntKind.u64.wrap c.n0)) 49 7 (IntKind.u64.wrap c.s1)) 56 7 (IntKind.u64.wrap c.n1))) [Ee1539 b_1 c]) (by kernel_rfl) ?_
  exact ret_ok (post := []) [] (by kernel_rfl) ⟨rfl, (by kernel_rfl)⟩

noncomputable def B40 : Code := (Tryz.f40.body).getD .skip

theorem plan_Size (c : Cfg) (hc : c.Ok) :
    Ctr Tryz.prog 40 #[cfgV c] [] (Ret (vI (sizeOfC c)) []) := by
  refine ctr_of (args := [cfgV c]) (fn := Tryz.f40) (body := B40) (nt := 36) Tryz.func40 (by kernel_rfl) (by kernel_rfl) ?_
  intro F
  refine go_exec (rs := [.tmp 2]) (by kernel_rfl) 4000 [.e 0, .z [0, 0, 1] 1 [1, 7]] (o := .new fun b_1 => .obl (b_1 = b_1) (.stop [.o [0, 0, 1] 1, .c [1, 0, 1], .c [1, 1]] [(1, vP b_1), (7, cfgV c)] [Ee1539 b_1 c])) (by kernel_rfl) ?_
  refine ok_new fun b_1 => ?_
  refine ok_obl rfl ?_
  refine ok_stop ?_
  refine go_call (some 8) [] Tryz.call82 (plan_right c (by first | assumption | omega | (simp only [InK] at *; omega))) (by kernel_rfl) ?_
  rintro v post ⟨rfl, rfl⟩
  refine go_exec (rs := [.tmp 2]) (by kernel_rfl) 4000 [.e 0, .z [0, 1, 1] 1 [1, 11]] (o := .obl (b_1 = b_1) (.stop [.o [0, 1, 1] 1, .c [1, 1, 1]] [(1, vP b_1), (11, cfgV c)] [Ee1539 b_1 c])) (by kernel_rfl) ?_
  refine ok_obl rfl ?_
  refine ok_stop ?_
  refine go_call (some 12) [] Tryz.call56 (plan_cells c (by first | assumption | omega | (simp only [InK] at *; omega))) (by kernel_rfl) ?_
  rintro v post ⟨rfl, rfl⟩
  refine go_exec (rs := [.tmp 2]) (by kernel_rfl) 4000 [.e 0, .n, .n, .e 0, .u, .e 1, .e 1, .e 1, .n, .n, .n, .w, .u, .e 2, .e 2, .e 2, .n, .n, .n, .w, .u] (o := .obl (b_1 = b_1) (.obl (InK .i64 (c.topics * (1 + 2 * c.small))) (.obl (InK .i64 ((5 + c.slots + c.topics) + (c.topics * (1 + 2 * c.small)))) (.obl (b_1 = b_1) (.new fun b_2 => .obl (b_2 = b_2) (.obl (b_2 = b_2) (.obl (b_2 = b_2) (.obl (InK .i64 (1 + c.s0)) (.obl (InK .i64 (c.n0 * (1 + c.s0))) (.obl (InK .i64 (((5 + c.slots + c.topics) + (c.topics * (1 + 2 * c.small))) + (c.n0 * (1 + c.s0)))) (.new fun b_3 => .obl (b_3 = b_3) (.obl (b_3 = b_3) (.obl (b_3 = b_3) (.obl (InK .i64 (1 + c.s1)) (.obl (InK .i64 (c.n1 * (1 + c.s1))) (.obl (InK .i64 ((((5 + c.slots + c.topics) + (c.topics * (1 + 2 * c.small))) + (c.n0 * (1 + c.s0))) + (c.n1 * (1 + c.s1)))) (.ret (vI ((((5 + c.slots + c.topics) + (c.topics * (1 + 2 * c.small))) + (c.n0 * (1 + c.s0))) + (c.n1 * (1 + c.s1)))) [Ee1539 b_1 c, .pts b_2 [vI c.s0, vI c.n0] 28, .pts b_3 [vI c.s1, vI c.n1] 28]))))))))))))))))) (by kernel_rfl) ?_
  refine ok_obl rfl ?_
  refine ok_obl (by have hb := size_nl hc; simp only [Cfg.Ok, InK] at *; omega) ?_
  refine ok_obl (by have hb := size_nl hc; simp only [Cfg.Ok, InK] at *; omega) ?_
  refine ok_obl rfl ?_
  refine ok_new fun b_2 => ?_
  refine ok_obl rfl ?_
  refine ok_obl rfl ?_
  refine ok_obl rfl ?_
  refine ok_obl (by have hb := size_nl hc; simp only [Cfg.Ok, InK] at *; omega) ?_
  refine ok_obl (by have hb := size_nl hc; simp only [Cfg.Ok, InK] at *; omega) ?_
  refine ok_obl (by have hb := size_nl hc; simp only [Cfg.Ok, InK] at *; omega) ?_
  refine ok_new fun b_3 => ?_
  refine ok_obl rfl ?_
  refine ok_obl rfl ?_
  refine ok_obl rfl ?_
  refine ok_obl (by have hb := size_nl hc; simp only [Cfg.Ok, InK] at *; omega) ?_
  refine ok_obl (by have hb := size_nl hc; simp only [Cfg.Ok, InK] at *; omega) ?_
  refine ok_obl (by have hb := size_nl hc; simp only [Cfg.Ok, InK] at *; omega) ?_
  exact ret_ok (post := []) [] (by kernel_rfl) ⟨rfl, (by kernel_rfl)⟩

noncomputable def B39 : Code := (Tryz.f39.body).getD .skip

theorem arena_New (n : Int) (h : 1 ≤ n ∧ n ≤ 4096) :
    Ctr Tryz.prog 39 #[vI n] [] (fun v L => ∃ (ba : Nat) (aw : Option Addr) (cw : Nat), v = vP ba ∧ L = [Ef994c ba aw ((List.replicate n.toNat (0 : Int)).length) cw 0 0 0 0 false, E7a681 aw cw (List.replicate n.toNat (0 : Int))]) := by
  refine ctr_of (args := [vI n]) (fn := Tryz.f39) (body := B39) (nt := 13) Tryz.func39 (by kernel_rfl) (by kernel_rfl) ?_
  intro F
  refine go_exec (rs := [.tmp 2]) (by kernel_rfl) 4000 [.sp [5, 4] [.dead] [.sp [8, 7] [.dead] [.z [0, 1, 1] 1 [9]]]] (o := .obl ((decide (n < 1)) = (decide (n < 1))) (.br (decide (n < 1)) (.bad) (.obl ((decide (n > 4096)) = (decide (n > 4096))) (.br (decide (n > 4096)) (.bad) (.stop [.o [0, 1, 1] 1, .c [1, 1, 1]] [(9, vI n)] []))))) (by kernel_rfl) ?_
  refine ok_obl rfl ?_
  refine ok_br (fun h => absurd (show (decide (n < 1)) = false from (by first | (simp; done) | (simp; omega))) (by rw [h]; simp)) (fun _ => ?_)
  refine ok_obl rfl ?_
  refine ok_br (fun h => absurd (show (decide (n > 4096)) = false from (by first | (simp; done) | (simp; omega))) (by rw [h]; simp)) (fun _ => ?_)
  refine ok_stop ?_
  refine go_make (kl := .i64) (kc := .i64) (encI .u64) 0 (0 : Int) 1 (sizedI _) 42 8 (some 10) n n (by kernel_rfl) (by omega) (by omega) (by omega) (by omega) ?_
  intro a_1 c_2
  refine go_exec (rs := [.tmp 2]) (by kernel_rfl) 4000 [] (o := .new fun b_3 => .ret (vP b_3) [E7a681 a_1 c_2 (List.replicate n.toNat (0 : Int)), Ef994c b_3 a_1 ((List.replicate n.toNat (0 : Int)).length) c_2 0 0 0 0 false]) (by kernel_rfl) ?_
  refine ok_new fun b_3 => ?_
  exact ret_ok (post := [Ef994c b_3 a_1 ((List.replicate n.toNat (0 : Int)).length) c_2 0 0 0 0 false, E7a681 a_1 c_2 (List.replicate n.toNat (0 : Int))]) [1, 0] (by kernel_rfl) ⟨b_3, a_1, c_2, rfl, (by kernel_rfl)⟩

noncomputable def B7 : Code := (Tryz.f7.body).getD .skip

theorem plan_Make (c : Cfg) (hc : c.Ok) :
    Ctr Tryz.prog 7 #[cfgV c] [] (fun v L => ∃ (ba : Nat) (aw : Option Addr) (cw : Nat), v = .tuple #[vP ba, .nilIface] ∧ L = [E21626 ba (mkAr c aw cw), E671ef (mkAr c aw cw)]) := by
  refine ctr_of (args := [cfgV c]) (fn := Tryz.f7) (body := B7) (nt := 67) Tryz.func7 (by kernel_rfl) (by kernel_rfl) ?_
  intro F
  refine go_exec (rs := [.tmp 2, .tmp 3]) (by kernel_rfl) 4000 [.e 0, .z [0, 1] 1 [1, 10]] (o := .new fun b_1 => .obl (b_1 = b_1) (.stop [.o [0, 1] 1, .c [1, 1]] [(1, vP b_1), (10, cfgV c)] [Ee1539 b_1 c])) (by kernel_rfl) ?_
  refine ok_new fun b_1 => ?_
  refine ok_obl rfl ?_
  refine ok_stop ?_
  refine go_call (some 11) [] Tryz.call38 (plan_Check c (by first | assumption | omega | (simp only [InK] at *; omega))) (by kernel_rfl) ?_
  rintro v post ⟨rfl, rfl⟩
  refine go_exec (rs := [.tmp 2, .tmp 3]) (by kernel_rfl) 4000 [.e 0, .z [0, 1, 1, 1] 1 [1, 15]] (o := .obl (b_1 = b_1) (.stop [.o [0, 1, 1, 1] 1, .c [1, 1, 1, 1]] [(1, vP b_1), (15, cfgV c)] [Ee1539 b_1 c])) (by kernel_rfl) ?_
  refine ok_obl rfl ?_
  refine ok_stop ?_
  refine go_call (some 16) [] Tryz.call40 (plan_Size c (by first | assumption | omega | (simp only [InK] at *; omega))) (by kernel_rfl) ?_
  rintro v post ⟨rfl, rfl⟩
  refine go_call (some 17) [] Tryz.call39 (arena_New (sizeOfC c) (by have := sizeOfC_ok hc; omega)) (by kernel_rfl) ?_
  rintro v post ⟨ba_2, aw_3, cw_4, rfl, rfl⟩
  refine go_exec (rs := [.tmp 2, .tmp 3]) (by kernel_rfl) 4000 [.z [0, 1, 1, 1, 1] 1 [1, 5, 18]] (o := .stop [.o [0, 1, 1, 1, 1] 1, .c [1, 1, 1, 1, 1]] [(1, vP b_1), (5, vP ba_2), (18, vP ba_2)] [Ee1539 b_1 c, Ef994c ba_2 aw_3 ((List.replicate (sizeOfC c).toNat (0 : Int)).length) cw_4 0 0 0 0 false, E7a681 aw_3 cw_4 (List.replicate (sizeOfC c).toNat (0 : Int))]) (by kernel_rfl) ?_
  refine ok_stop ?_
  refine go_call (some 19) [1, 2] Tryz.call9 (arena_Store ba_2 (⟨aw_3, cw_4, (List.replicate (sizeOfC c).toNat (0 : Int)).length, (List.replicate (sizeOfC c).toNat (0 : Int)), 0, 0, 0, 0, false⟩ : Ar) 0 7597137583116413295 (by first | exact hx.2.1 | (simp [Ar.store]; done)) (by have := sizeOfC_ok hc; first | omega | (simp [Ar.store]; omega) | (have hq := blockAt_ok hc (clsOf_pos (c := c) (b := i.1) (by omega)); have := hx.2.2.1; omega)) (by simp only [Cfg.Ok] at hc; first | omega | (simp [Ar.store]; done) | (simp [Ar.store]; omega))) (by kernel_rfl) ?_
  rintro v post ⟨rfl, rfl⟩
  refine go_exec (rs := [.tmp 2, .tmp 3]) (by kernel_rfl) 4000 [.e 0, .z [0, 1, 1, 1, 1, 1] 2 [1, 5, 20, 21]] (o := .obl (b_1 = b_1) (.stop [.o [0, 1, 1, 1, 1, 1] 2, .c [1, 1, 1, 1, 1, 1]] [(1, vP b_1), (5, vP ba_2), (20, vP ba_2), (21, cfgV c)] [Ee1539 b_1 c, E21626 ba_2 ((⟨aw_3, cw_4, (List.replicate (sizeOfC c).toNat (0 : Int)).length, (List.replicate (sizeOfC c).toNat (0 : Int)), 0, 0, 0, 0, false⟩ : Ar).store 0 7597137583116413295), E671ef ((⟨aw_3, cw_4, (List.replicate (sizeOfC c).toNat (0 : Int)).length, (List.replicate (sizeOfC c).toNat (0 : Int)), 0, 0, 0, 0, false⟩ : Ar).store 0 7597137583116413295)])) (by kernel_rfl) ?_
  refine ok_obl rfl ?_
  refine ok_stop ?_
  refine go_call (some 22) [] Tryz.call41 (plan_Pack c (by first | assumption | omega | (simp only [InK] at *; omega))) (by kernel_rfl) ?_
  rintro v post ⟨rfl, rfl⟩
  refine go_call (some 23) [1, 2] Tryz.call9 (arena_Store ba_2 ((⟨aw_3, cw_4, (List.replicate (sizeOfC c).toNat (0 : Int)).length, (List.replicate (sizeOfC c).toNat (0 : Int)), 0, 0, 0, 0, false⟩ : Ar).store 0 7597137583116413295) 1 (packW c) (by first | exact hx.2.1 | (simp [Ar.store]; done)) (by have := sizeOfC_ok hc; first | omega | (simp [Ar.store]; omega) | (have hq := blockAt_ok hc (clsOf_pos (c := c) (b := i.1) (by omega)); have := hx.2.2.1; omega)) (by simp only [Cfg.Ok] at hc; first | omega | (simp [Ar.store]; done) | (simp [Ar.store]; omega))) (by kernel_rfl) ?_
  rintro v post ⟨rfl, rfl⟩
  refine go_exec (rs := [.tmp 2, .tmp 3]) (by kernel_rfl) 4000 [.e 0, .u, .e 3, .e 3, .sp [32] [.z q7_2 2 [1, 5, 6, 8, 25, 26, 33, 34]] [.e 3, .n, .w, .u, .e 4, .e 4, .sp [32] [.z q7_2 2 [1, 5, 6, 8, 25, 26, 33, 34]] [.e 4, .n, .w, .u, .z q7_3 0 [1, 5, 9]]]] (o := .obl (b_1 = b_1) (.new fun b_5 => .obl (b_5 = b_5) (.obl (b_5 = b_5) (.br (decide (c.n0 > 0)) (.stop [.o q7_2 2, .c q7_4, .b 1, .c q7_5, .r q7_6, .b 0, .c q7_7] [(1, vP b_1), (5, vP ba_2), (6, vI 1), (8, vP b_5), (25, .agg #[vI c.s0, vI c.n0, vI c.s1, vI c.n1]), (26, vI 0), (33, vP ba_2), (34, vI 0)] [Ee1539 b_1 c, E21626 ba_2 (((⟨aw_3, cw_4, (List.replicate (sizeOfC c).toNat (0 : Int)).length, (List.replicate (sizeOfC c).toNat (0 : Int)), 0, 0, 0, 0, false⟩ : Ar).store 0 7597137583116413295).store 1 (packW c)), E671ef (((⟨aw_3, cw_4, (List.replicate (sizeOfC c).toNat (0 : Int)).length, (List.replicate (sizeOfC c).toNat (0 : Int)), 0, 0, 0, 0, false⟩ : Ar).store 0 7597137583116413295).store 1 (packW c)), .pts b_5 [vI c.s0, vI c.n0] 28]) (.obl (b_5 = b_5) (.obl (InK .i64 (1 + c.n0)) (.new fun b_6 => .obl (b_6 = b_6) (.obl (b_6 = b_6) (.br (decide (c.n1 > 0)) (.stop [.o q7_2 2, .c q7_4, .b 1, .c q7_5, .r q7_6, .b 0, .c q7_7] [(1, vP b_1), (5, vP ba_2), (6, vI (1 + c.n0)), (8, vP b_6), (25, .agg #[vI c.s0, vI c.n0, vI c.s1, vI c.n1]), (26, vI 1), (33, vP ba_2), (34, vI 1)] [Ee1539 b_1 c, E21626 ba_2 (((⟨aw_3, cw_4, (List.replicate (sizeOfC c).toNat (0 : Int)).length, (List.replicate (sizeOfC c).toNat (0 : Int)), 0, 0, 0, 0, false⟩ : Ar).store 0 7597137583116413295).store 1 (packW c)), E671ef (((⟨aw_3, cw_4, (List.replicate (sizeOfC c).toNat (0 : Int)).length, (List.replicate (sizeOfC c).toNat (0 : Int)), 0, 0, 0, 0, false⟩ : Ar).store 0 7597137583116413295).store 1 (packW c)), .pts b_5 [vI c.s0, vI c.n0] 28, .pts b_6 [vI c.s1, vI c.n1] 28]) (.obl (b_6 = b_6) (.obl (InK .i64 ((1 + c.n0) + c.n1)) (.stop [.c q7_3, .b 2, .c q7_8] [(1, vP b_1), (5, vP ba_2), (9, vI 1)] [Ee1539 b_1 c, E21626 ba_2 (((⟨aw_3, cw_4, (List.replicate (sizeOfC c).toNat (0 : Int)).length, (List.replicate (sizeOfC c).toNat (0 : Int)), 0, 0, 0, 0, false⟩ : Ar).store 0 7597137583116413295).store 1 (packW c)), E671ef (((⟨aw_3, cw_4, (List.replicate (sizeOfC c).toNat (0 : Int)).length, (List.replicate (sizeOfC c).toNat (0 : Int)), 0, 0, 0, 0, false⟩ : Ar).store 0 7597137583116413295).store 1 (packW c)), .pts b_5 [vI c.s0, vI c.n0] 28, .pts b_6 [vI c.s1, vI c.n1] 28])))))))))))) (by kernel_rfl) ?_
  refine ok_obl rfl ?_
  refine ok_new fun b_5 => ?_
  refine ok_obl rfl ?_
  refine ok_obl rfl ?_
  refine ok_br (fun h_7 => ?_) (fun h_7 => ?_)
  · replace h_7 := decT h_7
    refine ok_stop ?_
    refine go_call (some 35) [] Tryz.call42 (plan_Head 0 (by first | assumption | omega | (simp only [InK] at *; omega))) (by kernel_rfl) ?_
    rintro v post ⟨rfl, rfl⟩
    refine go_exec (rs := [.tmp 2, .tmp 3]) (by kernel_rfl) 4000 [.w, .z q7_2 5 [1, 5, 6, 8, 25, 26, 33, 35, 37]] (o := .stop [.o q7_2 5, .c q7_4, .b 1, .c q7_5, .r q7_6, .b 0, .c q7_7] [(1, vP b_1), (5, vP ba_2), (6, vI 1), (8, vP b_5), (25, .agg #[vI c.s0, vI c.n0, vI c.s1, vI c.n1]), (26, vI 0), (33, vP ba_2), (35, vI (3 + 0)), (37, vU 1)] [Ee1539 b_1 c, E21626 ba_2 (((⟨aw_3, cw_4, (List.replicate (sizeOfC c).toNat (0 : Int)).length, (List.replicate (sizeOfC c).toNat (0 : Int)), 0, 0, 0, 0, false⟩ : Ar).store 0 7597137583116413295).store 1 (packW c)), E671ef (((⟨aw_3, cw_4, (List.replicate (sizeOfC c).toNat (0 : Int)).length, (List.replicate (sizeOfC c).toNat (0 : Int)), 0, 0, 0, 0, false⟩ : Ar).store 0 7597137583116413295).store 1 (packW c)), .pts b_5 [vI c.s0, vI c.n0] 28]) (by kernel_rfl) ?_
    refine ok_stop ?_
    refine go_call (some 38) [1, 2] Tryz.call9 (arena_Store ba_2 (((⟨aw_3, cw_4, (List.replicate (sizeOfC c).toNat (0 : Int)).length, (List.replicate (sizeOfC c).toNat (0 : Int)), 0, 0, 0, 0, false⟩ : Ar).store 0 7597137583116413295).store 1 (packW c)) (3 + 0) 1 (by first | exact hx.2.1 | (simp [Ar.store]; done)) (by have := sizeOfC_ok hc; first | omega | (simp [Ar.store]; omega) | (have hq := blockAt_ok hc (clsOf_pos (c := c) (b := i.1) (by omega)); have := hx.2.2.1; omega)) (by simp only [Cfg.Ok] at hc; first | omega | (simp [Ar.store]; done) | (simp [Ar.store]; omega))) (by kernel_rfl) ?_
    rintro v post ⟨rfl, rfl⟩
    refine go_exec (rs := [.tmp 2, .tmp 3]) (by kernel_rfl) 4000 [.e 1, .n, .w, .u, .e 4, .e 4, .sp [32] [.z q7_2 2 [1, 5, 6, 8, 25, 26, 33, 34]] [.e 4, .n, .w, .u, .z q7_3 0 [1, 5, 9]]] (o := .obl (b_5 = b_5) (.obl (InK .i64 (1 + c.n0)) (.new fun b_8 => .obl (b_8 = b_8) (.obl (b_8 = b_8) (.br (decide (c.n1 > 0)) (.stop [.o q7_2 2, .c q7_4, .b 1, .c q7_5, .r q7_6, .b 0, .c q7_7] [(1, vP b_1), (5, vP ba_2), (6, vI (1 + c.n0)), (8, vP b_8), (25, .agg #[vI c.s0, vI c.n0, vI c.s1, vI c.n1]), (26, vI 1), (33, vP ba_2), (34, vI 1)] [Ee1539 b_1 c, .pts b_5 [vI c.s0, vI c.n0] 28, E21626 ba_2 ((((⟨aw_3, cw_4, (List.replicate (sizeOfC c).toNat (0 : Int)).length, (List.replicate (sizeOfC c).toNat (0 : Int)), 0, 0, 0, 0, false⟩ : Ar).store 0 7597137583116413295).store 1 (packW c)).store (3 + 0) 1), E671ef ((((⟨aw_3, cw_4, (List.replicate (sizeOfC c).toNat (0 : Int)).length, (List.replicate (sizeOfC c).toNat (0 : Int)), 0, 0, 0, 0, false⟩ : Ar).store 0 7597137583116413295).store 1 (packW c)).store (3 + 0) 1), .pts b_8 [vI c.s1, vI c.n1] 28]) (.obl (b_8 = b_8) (.obl (InK .i64 ((1 + c.n0) + c.n1)) (.stop [.c q7_3, .b 2, .c q7_8] [(1, vP b_1), (5, vP ba_2), (9, vI 1)] [Ee1539 b_1 c, .pts b_5 [vI c.s0, vI c.n0] 28, E21626 ba_2 ((((⟨aw_3, cw_4, (List.replicate (sizeOfC c).toNat (0 : Int)).length, (List.replicate (sizeOfC c).toNat (0 : Int)), 0, 0, 0, 0, false⟩ : Ar).store 0 7597137583116413295).store 1 (packW c)).store (3 + 0) 1), E671ef ((((⟨aw_3, cw_4, (List.replicate (sizeOfC c).toNat (0 : Int)).length, (List.replicate (sizeOfC c).toNat (0 : Int)), 0, 0, 0, 0, false⟩ : Ar).store 0 7597137583116413295).store 1 (packW c)).store (3 + 0) 1), .pts b_8 [vI c.s1, vI c.n1] 28])))))))) (by kernel_rfl) ?_
    refine ok_obl rfl ?_
    refine ok_obl (by simp only [Cfg.Ok, InK] at *; omega) ?_
    refine ok_new fun b_8 => ?_
    refine ok_obl rfl ?_
    refine ok_obl rfl ?_
    refine ok_br (fun h_9 => ?_) (fun h_9 => ?_)
    · replace h_9 := decT h_9
      refine ok_stop ?_
      refine go_call (some 35) [] Tryz.call42 (plan_Head 1 (by first | assumption | omega | (simp only [InK] at *; omega))) (by kernel_rfl) ?_
      rintro v post ⟨rfl, rfl⟩
      refine go_exec (rs := [.tmp 2, .tmp 3]) (by kernel_rfl) 4000 [.n, .z q7_2 5 [1, 5, 6, 8, 25, 26, 33, 35, 37]] (o := .obl (InK .u64 (1 + c.n0)) (.stop [.o q7_2 5, .c q7_4, .b 1, .c q7_5, .r q7_6, .b 0, .c q7_7] [(1, vP b_1), (5, vP ba_2), (6, vI (1 + c.n0)), (8, vP b_8), (25, .agg #[vI c.s0, vI c.n0, vI c.s1, vI c.n1]), (26, vI 1), (33, vP ba_2), (35, vI (3 + 1)), (37, vU (1 + c.n0))] [Ee1539 b_1 c, .pts b_5 [vI c.s0, vI c.n0] 28, E21626 ba_2 ((((⟨aw_3, cw_4, (List.replicate (sizeOfC c).toNat (0 : Int)).length, (List.replicate (sizeOfC c).toNat (0 : Int)), 0, 0, 0, 0, false⟩ : Ar).store 0 7597137583116413295).store 1 (packW c)).store (3 + 0) 1), E671ef ((((⟨aw_3, cw_4, (List.replicate (sizeOfC c).toNat (0 : Int)).length, (List.replicate (sizeOfC c).toNat (0 : Int)), 0, 0, 0, 0, false⟩ : Ar).store 0 7597137583116413295).store 1 (packW c)).store (3 + 0) 1), .pts b_8 [vI c.s1, vI c.n1] 28])) (by kernel_rfl) ?_
      refine ok_obl (by simp only [Cfg.Ok, InK] at *; omega) ?_
      refine ok_stop ?_
      refine go_call (some 38) [2, 3] Tryz.call9 (arena_Store ba_2 ((((⟨aw_3, cw_4, (List.replicate (sizeOfC c).toNat (0 : Int)).length, (List.replicate (sizeOfC c).toNat (0 : Int)), 0, 0, 0, 0, false⟩ : Ar).store 0 7597137583116413295).store 1 (packW c)).store (3 + 0) 1) (3 + 1) (1 + c.n0) (by first | exact hx.2.1 | (simp [Ar.store]; done)) (by have := sizeOfC_ok hc; first | omega | (simp [Ar.store]; omega) | (have hq := blockAt_ok hc (clsOf_pos (c := c) (b := i.1) (by omega)); have := hx.2.2.1; omega)) (by simp only [Cfg.Ok] at hc; first | omega | (simp [Ar.store]; done) | (simp [Ar.store]; omega))) (by kernel_rfl) ?_
      rintro v post ⟨rfl, rfl⟩
      refine go_exec (rs := [.tmp 2, .tmp 3]) (by kernel_rfl) 4000 [.e 2, .n, .w, .u, .z q7_3 0 [1, 5, 9]] (o := .obl (b_8 = b_8) (.obl (InK .i64 ((1 + c.n0) + c.n1)) (.stop [.c q7_3, .b 2, .c q7_8] [(1, vP b_1), (5, vP ba_2), (9, vI 1)] [Ee1539 b_1 c, .pts b_5 [vI c.s0, vI c.n0] 28, .pts b_8 [vI c.s1, vI c.n1] 28, E21626 ba_2 (((((⟨aw_3, cw_4, (List.replicate (sizeOfC c).toNat (0 : Int)).length, (List.replicate (sizeOfC c).toNat (0 : Int)), 0, 0, 0, 0, false⟩ : Ar).store 0 7597137583116413295).store 1 (packW c)).store (3 + 0) 1).store (3 + 1) (1 + c.n0)), E671ef (((((⟨aw_3, cw_4, (List.replicate (sizeOfC c).toNat (0 : Int)).length, (List.replicate (sizeOfC c).toNat (0 : Int)), 0, 0, 0, 0, false⟩ : Ar).store 0 7597137583116413295).store 1 (packW c)).store (3 + 0) 1).store (3 + 1) (1 + c.n0))]))) (by kernel_rfl) ?_
      refine ok_obl rfl ?_
      refine ok_obl (by simp only [Cfg.Ok, InK] at *; omega) ?_
      refine ok_stop ?_
      have hA0 : (((((⟨aw_3, cw_4, (List.replicate (sizeOfC c).toNat (0 : Int)).length, (List.replicate (sizeOfC c).toNat (0 : Int)), 0, 0, 0, 0, false⟩ : Ar).store 0 7597137583116413295).store 1 (packW c)).store (3 + 0) 1).store (3 + 1) (1 + c.n0)).ws.length = (((((⟨aw_3, cw_4, (List.replicate (sizeOfC c).toNat (0 : Int)).length, (List.replicate (sizeOfC c).toNat (0 : Int)), 0, 0, 0, 0, false⟩ : Ar).store 0 7597137583116413295).store 1 (packW c)).store (3 + 0) 1).store (3 + 1) (1 + c.n0)).n ∧ ((((((⟨aw_3, cw_4, (List.replicate (sizeOfC c).toNat (0 : Int)).length, (List.replicate (sizeOfC c).toNat (0 : Int)), 0, 0, 0, 0, false⟩ : Ar).store 0 7597137583116413295).store 1 (packW c)).store (3 + 0) 1).store (3 + 1) (1 + c.n0)).n : Int) = sizeOfC c ∧ 0 ≤ (((((⟨aw_3, cw_4, (List.replicate (sizeOfC c).toNat (0 : Int)).length, (List.replicate (sizeOfC c).toNat (0 : Int)), 0, 0, 0, 0, false⟩ : Ar).store 0 7597137583116413295).store 1 (packW c)).store (3 + 0) 1).store (3 + 1) (1 + c.n0)).steps ∧ (((((⟨aw_3, cw_4, (List.replicate (sizeOfC c).toNat (0 : Int)).length, (List.replicate (sizeOfC c).toNat (0 : Int)), 0, 0, 0, 0, false⟩ : Ar).store 0 7597137583116413295).store 1 (packW c)).store (3 + 0) 1).store (3 + 1) (1 + c.n0)).steps ≤ 4 := by have := sizeOfC_ok hc; simp [Ar.store]; omega
      refine go_loop (ι := Int × Ar) (fun i => [(1, vP b_1), (5, vP ba_2), (9, vI i.1)]) (fun i => [Ee1539 b_1 c, E21626 ba_2 i.2, E671ef i.2]) (fun i => mkLink c (c.n0 + c.n1 - i.1).toNat i.1 i.2 = mkAr c aw_3 cw_4 ∧ i.2.ws.length = i.2.n ∧ (i.2.n : Int) = sizeOfC c ∧ (0 ≤ i.2.steps ∧ i.2.steps ≤ 4 + i.1) ∧ 1 ≤ i.1) (fun i => (c.n0 + c.n1 - i.1).toNat) (1, (((((⟨aw_3, cw_4, (List.replicate (sizeOfC c).toNat (0 : Int)).length, (List.replicate (sizeOfC c).toNat (0 : Int)), 0, 0, 0, 0, false⟩ : Ar).store 0 7597137583116413295).store 1 (packW c)).store (3 + 0) 1).store (3 + 1) (1 + c.n0))) [1, 5, 9] [0, 3, 4] (by kernel_rfl) rfl (by kernel_rfl) (by kernel_rfl) ⟨(by unfold mkAr mkHead; (repeat' (first | rw [if_pos (show 0 < c.n1 by omega)] | rw [if_pos (show 0 < c.n0 by omega)] | rw [if_neg (show ¬ 0 < c.n1 by omega)] | rw [if_neg (show ¬ 0 < c.n0 by omega)])); first | done | kernel_rfl), hA0.1, hA0.2.1, (by dsimp only; omega), (by dsimp only; omega)⟩ ?_
      intro i J_10 hIJ_10 hJ_10
      have hx := hIJ_10
      refine go_exec (rs := [.tmp 2, .tmp 3]) (by kernel_rfl) 4000 [.e 0, .z q7_9 2 [1, 5, 9, 44, 45]] (o := .obl (b_1 = b_1) (.stop [.o q7_9 2, .c q7_10, .c q7_11, .j J_10, .b 2, .c q7_8] [(1, vP b_1), (5, vP ba_2), (9, vI i.1), (44, vI i.1), (45, cfgV c)] [Ee1539 b_1 c, E21626 ba_2 i.2, E671ef i.2])) (by kernel_rfl) ?_
      refine ok_obl rfl ?_
      refine ok_stop ?_
      refine go_call (some 46) [] Tryz.call43 (plan_Blocks c (by first | assumption | omega | (simp only [InK] at *; omega))) (by kernel_rfl) ?_
      rintro v post ⟨rfl, rfl⟩
      refine go_exec (rs := [.tmp 2, .tmp 3]) (by kernel_rfl) 4000 [.sp [47] [.z q7_12 0 [1, 5, 9]] []] (o := .br (decide (i.1 < (c.n0 + c.n1))) (.stop [.c q7_12, .c q7_13, .b 3, .c q7_14, .j J_10, .b 2, .c q7_8] [(1, vP b_1), (5, vP ba_2), (9, vI i.1)] [Ee1539 b_1 c, E21626 ba_2 i.2, E671ef i.2]) (.ret (.tuple #[vP ba_2, .nilIface]) [Ee1539 b_1 c, E21626 ba_2 i.2, E671ef i.2])) (by kernel_rfl) ?_
      refine ok_br (fun h_11 => ?_) (fun h_11 => ?_)
      · replace h_11 := decT h_11
        refine ok_stop ?_
        refine go_quiet (tm' := [(1, vP b_1), (5, vP ba_2), (9, vI i.1), (57, .bool ((clsOf c i.1) == (clsOf c (i.1 + 1))))]) (ps := [b_1 = b_1, b_1 = b_1, InK .i64 (i.1 + 1)]) (cs := [(44, #[cfgV c, vI i.1], vI (clsOf c i.1)), (44, #[cfgV c, vI (i.1 + 1)], vI (clsOf c (i.1 + 1)))]) [(0, .h (.e 0)), (1, .h .w), (2, .q (vI (clsOf c i.1))), (3, .h (.e 0)), (4, .h .w), (5, .h (.n)), (6, .q (vI (clsOf c (i.1 + 1)))), (7, .h .w)] [1, 5, 9, 57] (by kernel_rfl) (by kernel_rfl) ⟨rfl, rfl, (by simp only [Cfg.Ok, InK] at *; omega), trivial⟩ ⟨⟨Tryz.call44, quiet_of [] (plan_Class c i.1 (by first | assumption | omega | (simp only [InK] at *; omega)) (by simp only [Cfg.Ok, InK] at *; omega)) (by kernel_rfl) (by rintro v post ⟨rfl, rfl⟩; exact ⟨rfl, rfl⟩)⟩, ⟨Tryz.call44, quiet_of [] (plan_Class c (i.1 + 1) (by first | assumption | omega | (simp only [InK] at *; omega)) (by simp only [Cfg.Ok, InK] at *; omega)) (by kernel_rfl) (by rintro v post ⟨rfl, rfl⟩; exact ⟨rfl, rfl⟩)⟩, trivial⟩ ?_
        refine go_exec (rs := [.tmp 2, .tmp 3]) (by kernel_rfl) 4000 [.sp [57] [.e 0, .z q7_15 3 [1, 5, 9, 58, 59, 60]] [.n, .z [] 0 [1, 5, 9]]] (o := .br ((clsOf c i.1) == (clsOf c (i.1 + 1))) (.obl (b_1 = b_1) (.stop [.o q7_15 3, .b 3, .c q7_14, .j J_10, .b 2, .c q7_8] [(1, vP b_1), (5, vP ba_2), (9, vI i.1), (58, vP ba_2), (59, cfgV c), (60, vI i.1)] [Ee1539 b_1 c, E21626 ba_2 i.2, E671ef i.2])) (.obl (InK .i64 (i.1 + 1)) (.stop [.j J_10, .b 2, .c q7_8] [(1, vP b_1), (5, vP ba_2), (9, vI (i.1 + 1))] [Ee1539 b_1 c, E21626 ba_2 i.2, E671ef i.2]))) (by kernel_rfl) ?_
        refine ok_br (fun h_12 => ?_) (fun h_12 => ?_)
        · replace h_12 := beqT h_12
          refine ok_obl rfl ?_
          refine ok_stop ?_
          refine go_call (some 61) [] Tryz.call45 (plan_Block c i.1 (by first | assumption | omega | (simp only [InK] at *; omega)) (by simp only [Cfg.Ok, InK] at *; omega)) (by kernel_rfl) ?_
          rintro v post ⟨rfl, rfl⟩
          refine go_exec (rs := [.tmp 2, .tmp 3]) (by kernel_rfl) 4000 [.n, .n, .z q7_15 7 [1, 5, 9, 58, 61, 64]] (o := .obl (InK .i64 (i.1 + 1)) (.obl (InK .u64 (i.1 + 1)) (.stop [.o q7_15 7, .b 3, .c q7_14, .j J_10, .b 2, .c q7_8] [(1, vP b_1), (5, vP ba_2), (9, vI i.1), (58, vP ba_2), (61, vI (blockAt c i.1)), (64, vU (i.1 + 1))] [Ee1539 b_1 c, E21626 ba_2 i.2, E671ef i.2]))) (by kernel_rfl) ?_
          refine ok_obl (by simp only [Cfg.Ok, InK] at *; omega) ?_
          refine ok_obl (by simp only [Cfg.Ok, InK] at *; omega) ?_
          refine ok_stop ?_
          refine go_call (some 65) [1, 2] Tryz.call9 (arena_Store ba_2 i.2 (blockAt c i.1) (i.1 + 1) (by first | exact hx.2.1 | (simp [Ar.store]; done)) (by have := sizeOfC_ok hc; first | omega | (simp [Ar.store]; omega) | (have hq := blockAt_ok hc (clsOf_pos (c := c) (b := i.1) (by omega)); have := hx.2.2.1; omega)) (by simp only [Cfg.Ok] at hc; first | omega | (simp [Ar.store]; done) | (simp [Ar.store]; omega))) (by kernel_rfl) ?_
          rintro v post ⟨rfl, rfl⟩
          refine go_exec (rs := [.tmp 2, .tmp 3]) (by kernel_rfl) 4000 [.n, .z [] 0 [1, 5, 9]] (o := .obl (InK .i64 (i.1 + 1)) (.stop [.j J_10, .b 2, .c q7_8] [(1, vP b_1), (5, vP ba_2), (9, vI (i.1 + 1))] [Ee1539 b_1 c, E21626 ba_2 (i.2.store (blockAt c i.1) (i.1 + 1)), E671ef (i.2.store (blockAt c i.1) (i.1 + 1))])) (by kernel_rfl) ?_
          refine ok_obl (by simp only [Cfg.Ok, InK] at *; omega) ?_
          refine ok_stop ?_
          exact go_back hJ_10 ((i.1 + 1), (i.2.store (blockAt c i.1) (i.1 + 1))) [0, 1, 2] (by kernel_rfl) rfl (by kernel_rfl) ⟨(by rw [← hx.1, mkLink_next (c := c) (b := i.1) (A := i.2) (by omega), if_pos (by assumption)]), (by first | exact hx.2.1 | (simp only [Ar.store, List.length_set]; exact hx.2.1)), hx.2.2.1, (by simp only [Ar.store] at *; omega), (by omega)⟩ (by simp; omega)
        · replace h_12 := beqF h_12
          refine ok_obl (by simp only [Cfg.Ok, InK] at *; omega) ?_
          refine ok_stop ?_
          exact go_back hJ_10 ((i.1 + 1), i.2) [0, 1, 2] (by kernel_rfl) rfl (by kernel_rfl) ⟨(by rw [← hx.1, mkLink_next (c := c) (b := i.1) (A := i.2) (by omega), if_neg (by assumption)]), (by first | exact hx.2.1 | (simp only [Ar.store, List.length_set]; exact hx.2.1)), hx.2.2.1, (by simp only [Ar.store] at *; omega), (by omega)⟩ (by simp; omega)
      · replace h_11 := decF h_11
        exact ret_ok (post := [E21626 ba_2 i.2, E671ef i.2]) [1, 2] (by kernel_rfl) ⟨ba_2, aw_3, cw_4, rfl, (by rw [← hx.1, mkLink_end (c := c) (b := i.1) (A := i.2) (by omega)])⟩
    · replace h_9 := decF h_9
      refine ok_obl rfl ?_
      refine ok_obl (by simp only [Cfg.Ok, InK] at *; omega) ?_
      refine ok_stop ?_
      have hA0 : ((((⟨aw_3, cw_4, (List.replicate (sizeOfC c).toNat (0 : Int)).length, (List.replicate (sizeOfC c).toNat (0 : Int)), 0, 0, 0, 0, false⟩ : Ar).store 0 7597137583116413295).store 1 (packW c)).store (3 + 0) 1).ws.length = ((((⟨aw_3, cw_4, (List.replicate (sizeOfC c).toNat (0 : Int)).length, (List.replicate (sizeOfC c).toNat (0 : Int)), 0, 0, 0, 0, false⟩ : Ar).store 0 7597137583116413295).store 1 (packW c)).store (3 + 0) 1).n ∧ (((((⟨aw_3, cw_4, (List.replicate (sizeOfC c).toNat (0 : Int)).length, (List.replicate (sizeOfC c).toNat (0 : Int)), 0, 0, 0, 0, false⟩ : Ar).store 0 7597137583116413295).store 1 (packW c)).store (3 + 0) 1).n : Int) = sizeOfC c ∧ 0 ≤ ((((⟨aw_3, cw_4, (List.replicate (sizeOfC c).toNat (0 : Int)).length, (List.replicate (sizeOfC c).toNat (0 : Int)), 0, 0, 0, 0, false⟩ : Ar).store 0 7597137583116413295).store 1 (packW c)).store (3 + 0) 1).steps ∧ ((((⟨aw_3, cw_4, (List.replicate (sizeOfC c).toNat (0 : Int)).length, (List.replicate (sizeOfC c).toNat (0 : Int)), 0, 0, 0, 0, false⟩ : Ar).store 0 7597137583116413295).store 1 (packW c)).store (3 + 0) 1).steps ≤ 4 := by have := sizeOfC_ok hc; simp [Ar.store]; omega
      refine go_loop (ι := Int × Ar) (fun i => [(1, vP b_1), (5, vP ba_2), (9, vI i.1)]) (fun i => [Ee1539 b_1 c, E21626 ba_2 i.2, E671ef i.2]) (fun i => mkLink c (c.n0 + c.n1 - i.1).toNat i.1 i.2 = mkAr c aw_3 cw_4 ∧ i.2.ws.length = i.2.n ∧ (i.2.n : Int) = sizeOfC c ∧ (0 ≤ i.2.steps ∧ i.2.steps ≤ 4 + i.1) ∧ 1 ≤ i.1) (fun i => (c.n0 + c.n1 - i.1).toNat) (1, ((((⟨aw_3, cw_4, (List.replicate (sizeOfC c).toNat (0 : Int)).length, (List.replicate (sizeOfC c).toNat (0 : Int)), 0, 0, 0, 0, false⟩ : Ar).store 0 7597137583116413295).store 1 (packW c)).store (3 + 0) 1)) [1, 5, 9] [0, 2, 3] (by kernel_rfl) rfl (by kernel_rfl) (by kernel_rfl) ⟨(by unfold mkAr mkHead; (repeat' (first | rw [if_pos (show 0 < c.n1 by omega)] | rw [if_pos (show 0 < c.n0 by omega)] | rw [if_neg (show ¬ 0 < c.n1 by omega)] | rw [if_neg (show ¬ 0 < c.n0 by omega)])); first | done | kernel_rfl), hA0.1, hA0.2.1, (by dsimp only; omega), (by dsimp only; omega)⟩ ?_
      intro i J_13 hIJ_13 hJ_13
      have hx := hIJ_13
      refine go_exec (rs := [.tmp 2, .tmp 3]) (by kernel_rfl) 4000 [.e 0, .z q7_9 2 [1, 5, 9, 44, 45]] (o := .obl (b_1 = b_1) (.stop [.o q7_9 2, .c q7_10, .c q7_11, .j J_13, .b 2, .c q7_8] [(1, vP b_1), (5, vP ba_2), (9, vI i.1), (44, vI i.1), (45, cfgV c)] [Ee1539 b_1 c, E21626 ba_2 i.2, E671ef i.2])) (by kernel_rfl) ?_
      refine ok_obl rfl ?_
      refine ok_stop ?_
      refine go_call (some 46) [] Tryz.call43 (plan_Blocks c (by first | assumption | omega | (simp only [InK] at *; omega))) (by kernel_rfl) ?_
      rintro v post ⟨rfl, rfl⟩
      refine go_exec (rs := [.tmp 2, .tmp 3]) (by kernel_rfl) 4000 [.sp [47] [.z q7_12 0 [1, 5, 9]] []] (o := .br (decide (i.1 < (c.n0 + c.n1))) (.stop [.c q7_12, .c q7_13, .b 3, .c q7_14, .j J_13, .b 2, .c q7_8] [(1, vP b_1), (5, vP ba_2), (9, vI i.1)] [Ee1539 b_1 c, E21626 ba_2 i.2, E671ef i.2]) (.ret (.tuple #[vP ba_2, .nilIface]) [Ee1539 b_1 c, E21626 ba_2 i.2, E671ef i.2])) (by kernel_rfl) ?_
      refine ok_br (fun h_14 => ?_) (fun h_14 => ?_)
      · replace h_14 := decT h_14
        refine ok_stop ?_
        refine go_quiet (tm' := [(1, vP b_1), (5, vP ba_2), (9, vI i.1), (57, .bool ((clsOf c i.1) == (clsOf c (i.1 + 1))))]) (ps := [b_1 = b_1, b_1 = b_1, InK .i64 (i.1 + 1)]) (cs := [(44, #[cfgV c, vI i.1], vI (clsOf c i.1)), (44, #[cfgV c, vI (i.1 + 1)], vI (clsOf c (i.1 + 1)))]) [(0, .h (.e 0)), (1, .h .w), (2, .q (vI (clsOf c i.1))), (3, .h (.e 0)), (4, .h .w), (5, .h (.n)), (6, .q (vI (clsOf c (i.1 + 1)))), (7, .h .w)] [1, 5, 9, 57] (by kernel_rfl) (by kernel_rfl) ⟨rfl, rfl, (by simp only [Cfg.Ok, InK] at *; omega), trivial⟩ ⟨⟨Tryz.call44, quiet_of [] (plan_Class c i.1 (by first | assumption | omega | (simp only [InK] at *; omega)) (by simp only [Cfg.Ok, InK] at *; omega)) (by kernel_rfl) (by rintro v post ⟨rfl, rfl⟩; exact ⟨rfl, rfl⟩)⟩, ⟨Tryz.call44, quiet_of [] (plan_Class c (i.1 + 1) (by first | assumption | omega | (simp only [InK] at *; omega)) (by simp only [Cfg.Ok, InK] at *; omega)) (by kernel_rfl) (by rintro v post ⟨rfl, rfl⟩; exact ⟨rfl, rfl⟩)⟩, trivial⟩ ?_
        refine go_exec (rs := [.tmp 2, .tmp 3]) (by kernel_rfl) 4000 [.sp [57] [.e 0, .z q7_15 3 [1, 5, 9, 58, 59, 60]] [.n, .z [] 0 [1, 5, 9]]] (o := .br ((clsOf c i.1) == (clsOf c (i.1 + 1))) (.obl (b_1 = b_1) (.stop [.o q7_15 3, .b 3, .c q7_14, .j J_13, .b 2, .c q7_8] [(1, vP b_1), (5, vP ba_2), (9, vI i.1), (58, vP ba_2), (59, cfgV c), (60, vI i.1)] [Ee1539 b_1 c, E21626 ba_2 i.2, E671ef i.2])) (.obl (InK .i64 (i.1 + 1)) (.stop [.j J_13, .b 2, .c q7_8] [(1, vP b_1), (5, vP ba_2), (9, vI (i.1 + 1))] [Ee1539 b_1 c, E21626 ba_2 i.2, E671ef i.2]))) (by kernel_rfl) ?_
        refine ok_br (fun h_15 => ?_) (fun h_15 => ?_)
        · replace h_15 := beqT h_15
          refine ok_obl rfl ?_
          refine ok_stop ?_
          refine go_call (some 61) [] Tryz.call45 (plan_Block c i.1 (by first | assumption | omega | (simp only [InK] at *; omega)) (by simp only [Cfg.Ok, InK] at *; omega)) (by kernel_rfl) ?_
          rintro v post ⟨rfl, rfl⟩
          refine go_exec (rs := [.tmp 2, .tmp 3]) (by kernel_rfl) 4000 [.n, .n, .z q7_15 7 [1, 5, 9, 58, 61, 64]] (o := .obl (InK .i64 (i.1 + 1)) (.obl (InK .u64 (i.1 + 1)) (.stop [.o q7_15 7, .b 3, .c q7_14, .j J_13, .b 2, .c q7_8] [(1, vP b_1), (5, vP ba_2), (9, vI i.1), (58, vP ba_2), (61, vI (blockAt c i.1)), (64, vU (i.1 + 1))] [Ee1539 b_1 c, E21626 ba_2 i.2, E671ef i.2]))) (by kernel_rfl) ?_
          refine ok_obl (by simp only [Cfg.Ok, InK] at *; omega) ?_
          refine ok_obl (by simp only [Cfg.Ok, InK] at *; omega) ?_
          refine ok_stop ?_
          refine go_call (some 65) [1, 2] Tryz.call9 (arena_Store ba_2 i.2 (blockAt c i.1) (i.1 + 1) (by first | exact hx.2.1 | (simp [Ar.store]; done)) (by have := sizeOfC_ok hc; first | omega | (simp [Ar.store]; omega) | (have hq := blockAt_ok hc (clsOf_pos (c := c) (b := i.1) (by omega)); have := hx.2.2.1; omega)) (by simp only [Cfg.Ok] at hc; first | omega | (simp [Ar.store]; done) | (simp [Ar.store]; omega))) (by kernel_rfl) ?_
          rintro v post ⟨rfl, rfl⟩
          refine go_exec (rs := [.tmp 2, .tmp 3]) (by kernel_rfl) 4000 [.n, .z [] 0 [1, 5, 9]] (o := .obl (InK .i64 (i.1 + 1)) (.stop [.j J_13, .b 2, .c q7_8] [(1, vP b_1), (5, vP ba_2), (9, vI (i.1 + 1))] [Ee1539 b_1 c, E21626 ba_2 (i.2.store (blockAt c i.1) (i.1 + 1)), E671ef (i.2.store (blockAt c i.1) (i.1 + 1))])) (by kernel_rfl) ?_
          refine ok_obl (by simp only [Cfg.Ok, InK] at *; omega) ?_
          refine ok_stop ?_
          exact go_back hJ_13 ((i.1 + 1), (i.2.store (blockAt c i.1) (i.1 + 1))) [0, 1, 2] (by kernel_rfl) rfl (by kernel_rfl) ⟨(by rw [← hx.1, mkLink_next (c := c) (b := i.1) (A := i.2) (by omega), if_pos (by assumption)]), (by first | exact hx.2.1 | (simp only [Ar.store, List.length_set]; exact hx.2.1)), hx.2.2.1, (by simp only [Ar.store] at *; omega), (by omega)⟩ (by simp; omega)
        · replace h_15 := beqF h_15
          refine ok_obl (by simp only [Cfg.Ok, InK] at *; omega) ?_
          refine ok_stop ?_
          exact go_back hJ_13 ((i.1 + 1), i.2) [0, 1, 2] (by kernel_rfl) rfl (by kernel_rfl) ⟨(by rw [← hx.1, mkLink_next (c := c) (b := i.1) (A := i.2) (by omega), if_neg (by assumption)]), (by first | exact hx.2.1 | (simp only [Ar.store, List.length_set]; exact hx.2.1)), hx.2.2.1, (by simp only [Ar.store] at *; omega), (by omega)⟩ (by simp; omega)
      · replace h_14 := decF h_14
        exact ret_ok (post := [E21626 ba_2 i.2, E671ef i.2]) [1, 2] (by kernel_rfl) ⟨ba_2, aw_3, cw_4, rfl, (by rw [← hx.1, mkLink_end (c := c) (b := i.1) (A := i.2) (by omega)])⟩
  · replace h_7 := decF h_7
    refine ok_obl rfl ?_
    refine ok_obl (by simp only [Cfg.Ok, InK] at *; omega) ?_
    refine ok_new fun b_6 => ?_
    refine ok_obl rfl ?_
    refine ok_obl rfl ?_
    refine ok_br (fun h_16 => ?_) (fun h_16 => ?_)
    · replace h_16 := decT h_16
      refine ok_stop ?_
      refine go_call (some 35) [] Tryz.call42 (plan_Head 1 (by first | assumption | omega | (simp only [InK] at *; omega))) (by kernel_rfl) ?_
      rintro v post ⟨rfl, rfl⟩
      refine go_exec (rs := [.tmp 2, .tmp 3]) (by kernel_rfl) 4000 [.n, .z q7_2 5 [1, 5, 6, 8, 25, 26, 33, 35, 37]] (o := .obl (InK .u64 (1 + c.n0)) (.stop [.o q7_2 5, .c q7_4, .b 1, .c q7_5, .r q7_6, .b 0, .c q7_7] [(1, vP b_1), (5, vP ba_2), (6, vI (1 + c.n0)), (8, vP b_6), (25, .agg #[vI c.s0, vI c.n0, vI c.s1, vI c.n1]), (26, vI 1), (33, vP ba_2), (35, vI (3 + 1)), (37, vU (1 + c.n0))] [Ee1539 b_1 c, E21626 ba_2 (((⟨aw_3, cw_4, (List.replicate (sizeOfC c).toNat (0 : Int)).length, (List.replicate (sizeOfC c).toNat (0 : Int)), 0, 0, 0, 0, false⟩ : Ar).store 0 7597137583116413295).store 1 (packW c)), E671ef (((⟨aw_3, cw_4, (List.replicate (sizeOfC c).toNat (0 : Int)).length, (List.replicate (sizeOfC c).toNat (0 : Int)), 0, 0, 0, 0, false⟩ : Ar).store 0 7597137583116413295).store 1 (packW c)), .pts b_5 [vI c.s0, vI c.n0] 28, .pts b_6 [vI c.s1, vI c.n1] 28])) (by kernel_rfl) ?_
      refine ok_obl (by simp only [Cfg.Ok, InK] at *; omega) ?_
      refine ok_stop ?_
      refine go_call (some 38) [1, 2] Tryz.call9 (arena_Store ba_2 (((⟨aw_3, cw_4, (List.replicate (sizeOfC c).toNat (0 : Int)).length, (List.replicate (sizeOfC c).toNat (0 : Int)), 0, 0, 0, 0, false⟩ : Ar).store 0 7597137583116413295).store 1 (packW c)) (3 + 1) (1 + c.n0) (by first | exact hx.2.1 | (simp [Ar.store]; done)) (by have := sizeOfC_ok hc; first | omega | (simp [Ar.store]; omega) | (have hq := blockAt_ok hc (clsOf_pos (c := c) (b := i.1) (by omega)); have := hx.2.2.1; omega)) (by simp only [Cfg.Ok] at hc; first | omega | (simp [Ar.store]; done) | (simp [Ar.store]; omega))) (by kernel_rfl) ?_
      rintro v post ⟨rfl, rfl⟩
      refine go_exec (rs := [.tmp 2, .tmp 3]) (by kernel_rfl) 4000 [.e 2, .n, .w, .u, .z q7_3 0 [1, 5, 9]] (o := .obl (b_6 = b_6) (.obl (InK .i64 ((1 + c.n0) + c.n1)) (.stop [.c q7_3, .b 2, .c q7_8] [(1, vP b_1), (5, vP ba_2), (9, vI 1)] [Ee1539 b_1 c, .pts b_5 [vI c.s0, vI c.n0] 28, .pts b_6 [vI c.s1, vI c.n1] 28, E21626 ba_2 ((((⟨aw_3, cw_4, (List.replicate (sizeOfC c).toNat (0 : Int)).length, (List.replicate (sizeOfC c).toNat (0 : Int)), 0, 0, 0, 0, false⟩ : Ar).store 0 7597137583116413295).store 1 (packW c)).store (3 + 1) (1 + c.n0)), E671ef ((((⟨aw_3, cw_4, (List.replicate (sizeOfC c).toNat (0 : Int)).length, (List.replicate (sizeOfC c).toNat (0 : Int)), 0, 0, 0, 0, false⟩ : Ar).store 0 7597137583116413295).store 1 (packW c)).store (3 + 1) (1 + c.n0))]))) (by kernel_rfl) ?_
      refine ok_obl rfl ?_
      refine ok_obl (by simp only [Cfg.Ok, InK] at *; omega) ?_
      refine ok_stop ?_
      have hA0 : ((((⟨aw_3, cw_4, (List.replicate (sizeOfC c).toNat (0 : Int)).length, (List.replicate (sizeOfC c).toNat (0 : Int)), 0, 0, 0, 0, false⟩ : Ar).store 0 7597137583116413295).store 1 (packW c)).store (3 + 1) (1 + c.n0)).ws.length = ((((⟨aw_3, cw_4, (List.replicate (sizeOfC c).toNat (0 : Int)).length, (List.replicate (sizeOfC c).toNat (0 : Int)), 0, 0, 0, 0, false⟩ : Ar).store 0 7597137583116413295).store 1 (packW c)).store (3 + 1) (1 + c.n0)).n ∧ (((((⟨aw_3, cw_4, (List.replicate (sizeOfC c).toNat (0 : Int)).length, (List.replicate (sizeOfC c).toNat (0 : Int)), 0, 0, 0, 0, false⟩ : Ar).store 0 7597137583116413295).store 1 (packW c)).store (3 + 1) (1 + c.n0)).n : Int) = sizeOfC c ∧ 0 ≤ ((((⟨aw_3, cw_4, (List.replicate (sizeOfC c).toNat (0 : Int)).length, (List.replicate (sizeOfC c).toNat (0 : Int)), 0, 0, 0, 0, false⟩ : Ar).store 0 7597137583116413295).store 1 (packW c)).store (3 + 1) (1 + c.n0)).steps ∧ ((((⟨aw_3, cw_4, (List.replicate (sizeOfC c).toNat (0 : Int)).length, (List.replicate (sizeOfC c).toNat (0 : Int)), 0, 0, 0, 0, false⟩ : Ar).store 0 7597137583116413295).store 1 (packW c)).store (3 + 1) (1 + c.n0)).steps ≤ 4 := by have := sizeOfC_ok hc; simp [Ar.store]; omega
      refine go_loop (ι := Int × Ar) (fun i => [(1, vP b_1), (5, vP ba_2), (9, vI i.1)]) (fun i => [Ee1539 b_1 c, E21626 ba_2 i.2, E671ef i.2]) (fun i => mkLink c (c.n0 + c.n1 - i.1).toNat i.1 i.2 = mkAr c aw_3 cw_4 ∧ i.2.ws.length = i.2.n ∧ (i.2.n : Int) = sizeOfC c ∧ (0 ≤ i.2.steps ∧ i.2.steps ≤ 4 + i.1) ∧ 1 ≤ i.1) (fun i => (c.n0 + c.n1 - i.1).toNat) (1, ((((⟨aw_3, cw_4, (List.replicate (sizeOfC c).toNat (0 : Int)).length, (List.replicate (sizeOfC c).toNat (0 : Int)), 0, 0, 0, 0, false⟩ : Ar).store 0 7597137583116413295).store 1 (packW c)).store (3 + 1) (1 + c.n0))) [1, 5, 9] [0, 3, 4] (by kernel_rfl) rfl (by kernel_rfl) (by kernel_rfl) ⟨(by unfold mkAr mkHead; (repeat' (first | rw [if_pos (show 0 < c.n1 by omega)] | rw [if_pos (show 0 < c.n0 by omega)] | rw [if_neg (show ¬ 0 < c.n1 by omega)] | rw [if_neg (show ¬ 0 < c.n0 by omega)])); first | done | kernel_rfl), hA0.1, hA0.2.1, (by dsimp only; omega), (by dsimp only; omega)⟩ ?_
      intro i J_17 hIJ_17 hJ_17
      have hx := hIJ_17
      refine go_exec (rs := [.tmp 2, .tmp 3]) (by kernel_rfl) 4000 [.e 0, .z q7_9 2 [1, 5, 9, 44, 45]] (o := .obl (b_1 = b_1) (.stop [.o q7_9 2, .c q7_10, .c q7_11, .j J_17, .b 2, .c q7_8] [(1, vP b_1), (5, vP ba_2), (9, vI i.1), (44, vI i.1), (45, cfgV c)] [Ee1539 b_1 c, E21626 ba_2 i.2, E671ef i.2])) (by kernel_rfl) ?_
      refine ok_obl rfl ?_
      refine ok_stop ?_
      refine go_call (some 46) [] Tryz.call43 (plan_Blocks c (by first | assumption | omega | (simp only [InK] at *; omega))) (by kernel_rfl) ?_
      rintro v post ⟨rfl, rfl⟩
      refine go_exec (rs := [.tmp 2, .tmp 3]) (by kernel_rfl) 4000 [.sp [47] [.z q7_12 0 [1, 5, 9]] []] (o := .br (decide (i.1 < (c.n0 + c.n1))) (.stop [.c q7_12, .c q7_13, .b 3, .c q7_14, .j J_17, .b 2, .c q7_8] [(1, vP b_1), (5, vP ba_2), (9, vI i.1)] [Ee1539 b_1 c, E21626 ba_2 i.2, E671ef i.2]) (.ret (.tuple #[vP ba_2, .nilIface]) [Ee1539 b_1 c, E21626 ba_2 i.2, E671ef i.2])) (by kernel_rfl) ?_
      refine ok_br (fun h_18 => ?_) (fun h_18 => ?_)
      · replace h_18 := decT h_18
        refine ok_stop ?_
        refine go_quiet (tm' := [(1, vP b_1), (5, vP ba_2), (9, vI i.1), (57, .bool ((clsOf c i.1) == (clsOf c (i.1 + 1))))]) (ps := [b_1 = b_1, b_1 = b_1, InK .i64 (i.1 + 1)]) (cs := [(44, #[cfgV c, vI i.1], vI (clsOf c i.1)), (44, #[cfgV c, vI (i.1 + 1)], vI (clsOf c (i.1 + 1)))]) [(0, .h (.e 0)), (1, .h .w), (2, .q (vI (clsOf c i.1))), (3, .h (.e 0)), (4, .h .w), (5, .h (.n)), (6, .q (vI (clsOf c (i.1 + 1)))), (7, .h .w)] [1, 5, 9, 57] (by kernel_rfl) (by kernel_rfl) ⟨rfl, rfl, (by simp only [Cfg.Ok, InK] at *; omega), trivial⟩ ⟨⟨Tryz.call44, quiet_of [] (plan_Class c i.1 (by first | assumption | omega | (simp only [InK] at *; omega)) (by simp only [Cfg.Ok, InK] at *; omega)) (by kernel_rfl) (by rintro v post ⟨rfl, rfl⟩; exact ⟨rfl, rfl⟩)⟩, ⟨Tryz.call44, quiet_of [] (plan_Class c (i.1 + 1) (by first | assumption | omega | (simp only [InK] at *; omega)) (by simp only [Cfg.Ok, InK] at *; omega)) (by kernel_rfl) (by rintro v post ⟨rfl, rfl⟩; exact ⟨rfl, rfl⟩)⟩, trivial⟩ ?_
        refine go_exec (rs := [.tmp 2, .tmp 3]) (by kernel_rfl) 4000 [.sp [57] [.e 0, .z q7_15 3 [1, 5, 9, 58, 59, 60]] [.n, .z [] 0 [1, 5, 9]]] (o := .br ((clsOf c i.1) == (clsOf c (i.1 + 1))) (.obl (b_1 = b_1) (.stop [.o q7_15 3, .b 3, .c q7_14, .j J_17, .b 2, .c q7_8] [(1, vP b_1), (5, vP ba_2), (9, vI i.1), (58, vP ba_2), (59, cfgV c), (60, vI i.1)] [Ee1539 b_1 c, E21626 ba_2 i.2, E671ef i.2])) (.obl (InK .i64 (i.1 + 1)) (.stop [.j J_17, .b 2, .c q7_8] [(1, vP b_1), (5, vP ba_2), (9, vI (i.1 + 1))] [Ee1539 b_1 c, E21626 ba_2 i.2, E671ef i.2]))) (by kernel_rfl) ?_
        refine ok_br (fun h_19 => ?_) (fun h_19 => ?_)
        · replace h_19 := beqT h_19
          refine ok_obl rfl ?_
          refine ok_stop ?_
          refine go_call (some 61) [] Tryz.call45 (plan_Block c i.1 (by first | assumption | omega | (simp only [InK] at *; omega)) (by simp only [Cfg.Ok, InK] at *; omega)) (by kernel_rfl) ?_
          rintro v post ⟨rfl, rfl⟩
          refine go_exec (rs := [.tmp 2, .tmp 3]) (by kernel_rfl) 4000 [.n, .n, .z q7_15 7 [1, 5, 9, 58, 61, 64]] (o := .obl (InK .i64 (i.1 + 1)) (.obl (InK .u64 (i.1 + 1)) (.stop [.o q7_15 7, .b 3, .c q7_14, .j J_17, .b 2, .c q7_8] [(1, vP b_1), (5, vP ba_2), (9, vI i.1), (58, vP ba_2), (61, vI (blockAt c i.1)), (64, vU (i.1 + 1))] [Ee1539 b_1 c, E21626 ba_2 i.2, E671ef i.2]))) (by kernel_rfl) ?_
          refine ok_obl (by simp only [Cfg.Ok, InK] at *; omega) ?_
          refine ok_obl (by simp only [Cfg.Ok, InK] at *; omega) ?_
          refine ok_stop ?_
          refine go_call (some 65) [1, 2] Tryz.call9 (arena_Store ba_2 i.2 (blockAt c i.1) (i.1 + 1) (by first | exact hx.2.1 | (simp [Ar.store]; done)) (by have := sizeOfC_ok hc; first | omega | (simp [Ar.store]; omega) | (have hq := blockAt_ok hc (clsOf_pos (c := c) (b := i.1) (by omega)); have := hx.2.2.1; omega)) (by simp only [Cfg.Ok] at hc; first | omega | (simp [Ar.store]; done) | (simp [Ar.store]; omega))) (by kernel_rfl) ?_
          rintro v post ⟨rfl, rfl⟩
          refine go_exec (rs := [.tmp 2, .tmp 3]) (by kernel_rfl) 4000 [.n, .z [] 0 [1, 5, 9]] (o := .obl (InK .i64 (i.1 + 1)) (.stop [.j J_17, .b 2, .c q7_8] [(1, vP b_1), (5, vP ba_2), (9, vI (i.1 + 1))] [Ee1539 b_1 c, E21626 ba_2 (i.2.store (blockAt c i.1) (i.1 + 1)), E671ef (i.2.store (blockAt c i.1) (i.1 + 1))])) (by kernel_rfl) ?_
          refine ok_obl (by simp only [Cfg.Ok, InK] at *; omega) ?_
          refine ok_stop ?_
          exact go_back hJ_17 ((i.1 + 1), (i.2.store (blockAt c i.1) (i.1 + 1))) [0, 1, 2] (by kernel_rfl) rfl (by kernel_rfl) ⟨(by rw [← hx.1, mkLink_next (c := c) (b := i.1) (A := i.2) (by omega), if_pos (by assumption)]), (by first | exact hx.2.1 | (simp only [Ar.store, List.length_set]; exact hx.2.1)), hx.2.2.1, (by simp only [Ar.store] at *; omega), (by omega)⟩ (by simp; omega)
        · replace h_19 := beqF h_19
          refine ok_obl (by simp only [Cfg.Ok, InK] at *; omega) ?_
          refine ok_stop ?_
          exact go_back hJ_17 ((i.1 + 1), i.2) [0, 1, 2] (by kernel_rfl) rfl (by kernel_rfl) ⟨(by rw [← hx.1, mkLink_next (c := c) (b := i.1) (A := i.2) (by omega), if_neg (by assumption)]), (by first | exact hx.2.1 | (simp only [Ar.store, List.length_set]; exact hx.2.1)), hx.2.2.1, (by simp only [Ar.store] at *; omega), (by omega)⟩ (by simp; omega)
      · replace h_18 := decF h_18
        exact ret_ok (post := [E21626 ba_2 i.2, E671ef i.2]) [1, 2] (by kernel_rfl) ⟨ba_2, aw_3, cw_4, rfl, (by rw [← hx.1, mkLink_end (c := c) (b := i.1) (A := i.2) (by omega)])⟩
    · replace h_16 := decF h_16
      refine ok_obl rfl ?_
      refine ok_obl (by simp only [Cfg.Ok, InK] at *; omega) ?_
      refine ok_stop ?_
      have hA0 : (((⟨aw_3, cw_4, (List.replicate (sizeOfC c).toNat (0 : Int)).length, (List.replicate (sizeOfC c).toNat (0 : Int)), 0, 0, 0, 0, false⟩ : Ar).store 0 7597137583116413295).store 1 (packW c)).ws.length = (((⟨aw_3, cw_4, (List.replicate (sizeOfC c).toNat (0 : Int)).length, (List.replicate (sizeOfC c).toNat (0 : Int)), 0, 0, 0, 0, false⟩ : Ar).store 0 7597137583116413295).store 1 (packW c)).n ∧ ((((⟨aw_3, cw_4, (List.replicate (sizeOfC c).toNat (0 : Int)).length, (List.replicate (sizeOfC c).toNat (0 : Int)), 0, 0, 0, 0, false⟩ : Ar).store 0 7597137583116413295).store 1 (packW c)).n : Int) = sizeOfC c ∧ 0 ≤ (((⟨aw_3, cw_4, (List.replicate (sizeOfC c).toNat (0 : Int)).length, (List.replicate (sizeOfC c).toNat (0 : Int)), 0, 0, 0, 0, false⟩ : Ar).store 0 7597137583116413295).store 1 (packW c)).steps ∧ (((⟨aw_3, cw_4, (List.replicate (sizeOfC c).toNat (0 : Int)).length, (List.replicate (sizeOfC c).toNat (0 : Int)), 0, 0, 0, 0, false⟩ : Ar).store 0 7597137583116413295).store 1 (packW c)).steps ≤ 4 := by have := sizeOfC_ok hc; simp [Ar.store]; omega
      refine go_loop (ι := Int × Ar) (fun i => [(1, vP b_1), (5, vP ba_2), (9, vI i.1)]) (fun i => [Ee1539 b_1 c, E21626 ba_2 i.2, E671ef i.2]) (fun i => mkLink c (c.n0 + c.n1 - i.1).toNat i.1 i.2 = mkAr c aw_3 cw_4 ∧ i.2.ws.length = i.2.n ∧ (i.2.n : Int) = sizeOfC c ∧ (0 ≤ i.2.steps ∧ i.2.steps ≤ 4 + i.1) ∧ 1 ≤ i.1) (fun i => (c.n0 + c.n1 - i.1).toNat) (1, (((⟨aw_3, cw_4, (List.replicate (sizeOfC c).toNat (0 : Int)).length, (List.replicate (sizeOfC c).toNat (0 : Int)), 0, 0, 0, 0, false⟩ : Ar).store 0 7597137583116413295).store 1 (packW c))) [1, 5, 9] [0, 1, 2] (by kernel_rfl) rfl (by kernel_rfl) (by kernel_rfl) ⟨(by unfold mkAr mkHead; (repeat' (first | rw [if_pos (show 0 < c.n1 by omega)] | rw [if_pos (show 0 < c.n0 by omega)] | rw [if_neg (show ¬ 0 < c.n1 by omega)] | rw [if_neg (show ¬ 0 < c.n0 by omega)])); first | done | kernel_rfl), hA0.1, hA0.2.1, (by dsimp only; omega), (by dsimp only; omega)⟩ ?_
      intro i J_20 hIJ_20 hJ_20
      have hx := hIJ_20
      refine go_exec (rs := [.tmp 2, .tmp 3]) (by kernel_rfl) 4000 [.e 0, .z q7_9 2 [1, 5, 9, 44, 45]] (o := .obl (b_1 = b_1) (.stop [.o q7_9 2, .c q7_10, .c q7_11, .j J_20, .b 2, .c q7_8] [(1, vP b_1), (5, vP ba_2), (9, vI i.1), (44, vI i.1), (45, cfgV c)] [Ee1539 b_1 c, E21626 ba_2 i.2, E671ef i.2])) (by kernel_rfl) ?_
      refine ok_obl rfl ?_
      refine ok_stop ?_
      refine go_call (some 46) [] Tryz.call43 (plan_Blocks c (by first | assumption | omega | (simp only [InK] at *; omega))) (by kernel_rfl) ?_
      rintro v post ⟨rfl, rfl⟩
      refine go_exec (rs := [.tmp 2, .tmp 3]) (by kernel_rfl) 4000 [.sp [47] [.z q7_12 0 [1, 5, 9]] []] (o := .br (decide (i.1 < (c.n0 + c.n1))) (.stop [.c q7_12, .c q7_13, .b 3, .c q7_14, .j J_20, .b 2, .c q7_8] [(1, vP b_1), (5, vP ba_2), (9, vI i.1)] [Ee1539 b_1 c, E21626 ba_2 i.2, E671ef i.2]) (.ret (.tuple #[vP ba_2, .nilIface]) [Ee1539 b_1 c, E21626 ba_2 i.2, E671ef i.2])) (by kernel_rfl) ?_
      refine ok_br (fun h_21 => ?_) (fun h_21 => ?_)
      · replace h_21 := decT h_21
        refine ok_stop ?_
        refine go_quiet (tm' := [(1, vP b_1), (5, vP ba_2), (9, vI i.1), (57, .bool ((clsOf c i.1) == (clsOf c (i.1 + 1))))]) (ps := [b_1 = b_1, b_1 = b_1, InK .i64 (i.1 + 1)]) (cs := [(44, #[cfgV c, vI i.1], vI (clsOf c i.1)), (44, #[cfgV c, vI (i.1 + 1)], vI (clsOf c (i.1 + 1)))]) [(0, .h (.e 0)), (1, .h .w), (2, .q (vI (clsOf c i.1))), (3, .h (.e 0)), (4, .h .w), (5, .h (.n)), (6, .q (vI (clsOf c (i.1 + 1)))), (7, .h .w)] [1, 5, 9, 57] (by kernel_rfl) (by kernel_rfl) ⟨rfl, rfl, (by simp only [Cfg.Ok, InK] at *; omega), trivial⟩ ⟨⟨Tryz.call44, quiet_of [] (plan_Class c i.1 (by first | assumption | omega | (simp only [InK] at *; omega)) (by simp only [Cfg.Ok, InK] at *; omega)) (by kernel_rfl) (by rintro v post ⟨rfl, rfl⟩; exact ⟨rfl, rfl⟩)⟩, ⟨Tryz.call44, quiet_of [] (plan_Class c (i.1 + 1) (by first | assumption | omega | (simp only [InK] at *; omega)) (by simp only [Cfg.Ok, InK] at *; omega)) (by kernel_rfl) (by rintro v post ⟨rfl, rfl⟩; exact ⟨rfl, rfl⟩)⟩, trivial⟩ ?_
        refine go_exec (rs := [.tmp 2, .tmp 3]) (by kernel_rfl) 4000 [.sp [57] [.e 0, .z q7_15 3 [1, 5, 9, 58, 59, 60]] [.n, .z [] 0 [1, 5, 9]]] (o := .br ((clsOf c i.1) == (clsOf c (i.1 + 1))) (.obl (b_1 = b_1) (.stop [.o q7_15 3, .b 3, .c q7_14, .j J_20, .b 2, .c q7_8] [(1, vP b_1), (5, vP ba_2), (9, vI i.1), (58, vP ba_2), (59, cfgV c), (60, vI i.1)] [Ee1539 b_1 c, E21626 ba_2 i.2, E671ef i.2])) (.obl (InK .i64 (i.1 + 1)) (.stop [.j J_20, .b 2, .c q7_8] [(1, vP b_1), (5, vP ba_2), (9, vI (i.1 + 1))] [Ee1539 b_1 c, E21626 ba_2 i.2, E671ef i.2]))) (by kernel_rfl) ?_
        refine ok_br (fun h_22 => ?_) (fun h_22 => ?_)
        · replace h_22 := beqT h_22
          refine ok_obl rfl ?_
          refine ok_stop ?_
          refine go_call (some 61) [] Tryz.call45 (plan_Block c i.1 (by first | assumption | omega | (simp only [InK] at *; omega)) (by simp only [Cfg.Ok, InK] at *; omega)) (by kernel_rfl) ?_
          rintro v post ⟨rfl, rfl⟩
          refine go_exec (rs := [.tmp 2, .tmp 3]) (by kernel_rfl) 4000 [.n, .n, .z q7_15 7 [1, 5, 9, 58, 61, 64]] (o := .obl (InK .i64 (i.1 + 1)) (.obl (InK .u64 (i.1 + 1)) (.stop [.o q7_15 7, .b 3, .c q7_14, .j J_20, .b 2, .c q7_8] [(1, vP b_1), (5, vP ba_2), (9, vI i.1), (58, vP ba_2), (61, vI (blockAt c i.1)), (64, vU (i.1 + 1))] [Ee1539 b_1 c, E21626 ba_2 i.2, E671ef i.2]))) (by kernel_rfl) ?_
          refine ok_obl (by simp only [Cfg.Ok, InK] at *; omega) ?_
          refine ok_obl (by simp only [Cfg.Ok, InK] at *; omega) ?_
          refine ok_stop ?_
          refine go_call (some 65) [1, 2] Tryz.call9 (arena_Store ba_2 i.2 (blockAt c i.1) (i.1 + 1) (by first | exact hx.2.1 | (simp [Ar.store]; done)) (by have := sizeOfC_ok hc; first | omega | (simp [Ar.store]; omega) | (have hq := blockAt_ok hc (clsOf_pos (c := c) (b := i.1) (by omega)); have := hx.2.2.1; omega)) (by simp only [Cfg.Ok] at hc; first | omega | (simp [Ar.store]; done) | (simp [Ar.store]; omega))) (by kernel_rfl) ?_
          rintro v post ⟨rfl, rfl⟩
          refine go_exec (rs := [.tmp 2, .tmp 3]) (by kernel_rfl) 4000 [.n, .z [] 0 [1, 5, 9]] (o := .obl (InK .i64 (i.1 + 1)) (.stop [.j J_20, .b 2, .c q7_8] [(1, vP b_1), (5, vP ba_2), (9, vI (i.1 + 1))] [Ee1539 b_1 c, E21626 ba_2 (i.2.store (blockAt c i.1) (i.1 + 1)), E671ef (i.2.store (blockAt c i.1) (i.1 + 1))])) (by kernel_rfl) ?_
          refine ok_obl (by simp only [Cfg.Ok, InK] at *; omega) ?_
          refine ok_stop ?_
          exact go_back hJ_20 ((i.1 + 1), (i.2.store (blockAt c i.1) (i.1 + 1))) [0, 1, 2] (by kernel_rfl) rfl (by kernel_rfl) ⟨(by rw [← hx.1, mkLink_next (c := c) (b := i.1) (A := i.2) (by omega), if_pos (by assumption)]), (by first | exact hx.2.1 | (simp only [Ar.store, List.length_set]; exact hx.2.1)), hx.2.2.1, (by simp only [Ar.store] at *; omega), (by omega)⟩ (by simp; omega)
        · replace h_22 := beqF h_22
          refine ok_obl (by simp only [Cfg.Ok, InK] at *; omega) ?_
          refine ok_stop ?_
          exact go_back hJ_20 ((i.1 + 1), i.2) [0, 1, 2] (by kernel_rfl) rfl (by kernel_rfl) ⟨(by rw [← hx.1, mkLink_next (c := c) (b := i.1) (A := i.2) (by omega), if_neg (by assumption)]), (by first | exact hx.2.1 | (simp only [Ar.store, List.length_set]; exact hx.2.1)), hx.2.2.1, (by simp only [Ar.store] at *; omega), (by omega)⟩ (by simp; omega)
      · replace h_21 := decF h_21
        exact ret_ok (post := [E21626 ba_2 i.2, E671ef i.2]) [1, 2] (by kernel_rfl) ⟨ba_2, aw_3, cw_4, rfl, (by rw [← hx.1, mkLink_end (c := c) (b := i.1) (A := i.2) (by omega)])⟩

end Go.Proofs.YtilaihbbollcnaaGreatDoor


namespace Go.Proofs.YtilaihbbollcnaaGreatDoor
open Go.Sx
abbrev Ea9807 (x0 : Nat) (c1 : Cfg) (x2 : Int) (x3 : Nat) (x4 : Option Addr) (x5 : Nat) (x6 : Nat) (x7 : Value) (x8 : Value) (x9 : Value) : Ent := .pts x0 [.int .i64 c1.topics, .int .i64 c1.small, .int .i64 c1.slots, .int .i64 c1.clients, .int .i64 c1.s0, .int .i64 c1.n0, .int .i64 c1.s1, .int .i64 c1.n1, .int .i64 c1.retry, .int .i64 x2, .map (some x3), .slice x4 x5 x6, x7, x8, x9] 127
abbrev q8_0 : List Nat := [0, 1, 0, 0, 1, 1, 0, 0, 1, 0, 1, 1, 1]
abbrev q8_1 : List Nat := [1, 1, 0, 0, 1, 1, 0, 0, 1, 0, 1, 1, 1]
abbrev q8_2 : List Nat := [1, 1, 1, 0, 0, 1, 0, 1, 1, 1]
abbrev q8_3 : List Nat := [0, 1, 1, 0, 0, 1, 1, 0, 0, 1, 0, 1, 1, 1]
abbrev q8_4 : List Nat := [1, 1, 1, 0, 0, 1, 1, 0, 0, 1, 0, 1, 1, 1]

structure NwI where
  k : Int
  m : Int → Option Int

theorem plan_Class_min (c : Cfg) (hc : c.Ok) :
    Ctr Tryz.prog 44 #[cfgV c, vI (-9223372036854775808)] [] (Ret (vI (clsOf c (-9223372036854775808))) []) := by
  refine ctr_of (args := [cfgV c, vI (-9223372036854775808)]) (fn := Tryz.f44) (body := B44) (nt := 12) Tryz.func44 (by kernel_rfl) (by kernel_rfl) ?_
  intro F
  refine go_exec (rs := [.tmp 4]) (by kernel_rfl) 4000 [.z [0, 1] 0 [2, 3]] (o := .new fun b_1 => .new fun b_2 => .stop [.c [0, 1], .c [1, 1]] [(2, vP b_1), (3, vP b_2)] [Ee1539 b_1 c, .pts b_2 [vI (-9223372036854775808)] 3]) (by kernel_rfl) ?_
  refine ok_new fun b_1 => ?_
  refine ok_new fun b_2 => ?_
  refine ok_stop ?_
  refine go_quiet (tm' := [(4, vI (if (0 : Int) ≤ 9223372036854775807 ∧ 9223372036854775807 < (c.n0 + c.n1) then (if (-9223372036854775808) ≤ c.n0 then 0 else 1) else -1))]) (ps := [b_1 = b_1, b_2 = b_2, b_1 = b_1]) (cs := [(43, #[cfgV c], vI (c.n0 + c.n1)), (54, #[cfgV c, vI 9223372036854775807, vI (c.n0 + c.n1), .func (.func 85) #[] #[vP b_2, vP b_1]], vI (if (0 : Int) ≤ 9223372036854775807 ∧ 9223372036854775807 < (c.n0 + c.n1) then (if (-9223372036854775808) ≤ c.n0 then 0 else 1) else -1))]) [(0, .h (.e 0)), (1, .h (.e 1)), (2, .h (.w)), (3, .h (.e 0)), (4, .q (vI (c.n0 + c.n1))), (5, .h .w), (6, .q (vI (if (0 : Int) ≤ 9223372036854775807 ∧ 9223372036854775807 < (c.n0 + c.n1) then (if (-9223372036854775808) ≤ c.n0 then 0 else 1) else -1))), (7, .h .w)] [4] (by kernel_rfl) (by kernel_rfl) ⟨rfl, rfl, rfl, trivial⟩ ⟨⟨Tryz.call43, quiet_of [] (plan_Blocks c (by first | assumption | omega | (simp only [InK] at *; omega))) (by kernel_rfl) (by rintro v post ⟨rfl, rfl⟩; exact ⟨rfl, rfl⟩)⟩, ⟨Tryz.call54, quiet_of [1, 0] (place_Class c 9223372036854775807 (c.n0 + c.n1) b_2 b_1 (-9223372036854775808) (by first | assumption | omega | (simp only [InK] at *; omega))) (by kernel_rfl) (by rintro v post ⟨rfl, rfl⟩; exact ⟨rfl, rfl⟩)⟩, trivial⟩ ?_
  refine go_exec (rs := [.tmp 4]) (by kernel_rfl) 4000 [] (o := .ret (vI (if (0 : Int) ≤ 9223372036854775807 ∧ 9223372036854775807 < (c.n0 + c.n1) then (if (-9223372036854775808) ≤ c.n0 then 0 else 1) else -1)) [Ee1539 b_1 c, .pts b_2 [vI (-9223372036854775808)] 3]) (by kernel_rfl) ?_
  exact ret_ok (post := []) [] (by kernel_rfl) ⟨(congrArg (Value.int .i64) (by simp only [Cfg.Ok] at hc; unfold clsOf; (repeat' split) <;> omega)), (by kernel_rfl)⟩


theorem plan_Class_all (c : Cfg) (k : Int) (hc : c.Ok) (hk : InK .i64 k) :
    Ctr Tryz.prog 44 #[cfgV c, vI k] [] (Ret (vI (clsOf c k)) []) := by
  by_cases h : k = -9223372036854775808
  · subst h; exact plan_Class_min c hc
  · exact plan_Class c k hc (by simp only [InK] at *; omega)

noncomputable def B25 : Code := (Tryz.f25.body).getD .skip

theorem arena_Words (ba : Nat) (A : Ar) (hn : A.ws.length = A.n) (hl : A.ws.length ≤ 10000) :
    Ctr Tryz.prog 25 #[vP ba] [E21626 ba A, E671ef A] (fun v L => ∃ (a2 : Option Addr) (c2 : Nat), v = .slice a2 A.ws.length c2 ∧ L = [E21626 ba A, E671ef A, E7a681 a2 c2 A.ws]) := by
  refine ctr_of (args := [vP ba]) (fn := Tryz.f25) (body := B25) (nt := 10) Tryz.func25 (by kernel_rfl) (by kernel_rfl) ?_
  intro F
  refine go_exec (rs := [.tmp 2]) (by kernel_rfl) 4000 [.e 0, .z [0, 1, 1] 4 [8]] (o := .obl (ba = ba) (.stop [.o [0, 1, 1] 4, .c [1, 1, 1]] [(8, .slice A.aw A.n A.cw)] [E21626 ba A, E671ef A])) (by kernel_rfl) ?_
  refine ok_obl rfl ?_
  refine ok_stop ?_
  refine go_call (some 9) [1] Tryz.call68 (clone_n A.aw A.cw A.n A.ws (by first | assumption | omega | (simp only [InK] at *; omega)) (by first | assumption | omega | (simp only [InK] at *; omega))) (by kernel_rfl) ?_
  rintro v post ⟨a2_1, c2_2, rfl, rfl⟩
  refine go_exec (rs := [.tmp 2]) (by kernel_rfl) 4000 [] (o := .ret (.slice a2_1 A.ws.length c2_2) [E21626 ba A, E671ef A, E7a681 a2_1 c2_2 A.ws]) (by kernel_rfl) ?_
  exact ret_ok (post := [E21626 ba A, E671ef A, E7a681 a2_1 c2_2 A.ws]) [0, 1, 2] (by kernel_rfl) ⟨a2_1, c2_2, rfl, (by kernel_rfl)⟩

noncomputable def B32 : Code := (Tryz.f32.body).getD .skip

theorem retire_New_ok (c : Cfg) (a : Option Addr) (c0 : Nat) (xs : List Int) (hc : c.Ok) (hl : xs.length ≤ 100) (hin : ∀ j, InK .i64 (xs.getD j 0)) (ho : newOk c (fun _ => none) xs = true) :
    Ctr Tryz.prog 32 #[cfgV c, .slice a xs.length c0] [Ee1326 a c0 xs] (fun v L => ∃ (s : Nat), v = vP s ∧ L = [Ee1326 a c0 xs, .res (ScanR s c (newSc xs))]) := by
  refine ctr_of (args := [cfgV c, .slice a xs.length c0]) (fn := Tryz.f32) (body := B32) (nt := 49) Tryz.func32 (by kernel_rfl) (by kernel_rfl) ?_
  intro F
  refine go_exec (rs := [.tmp 4]) (by kernel_rfl) 4000 [.e 1, .z [0, 0, 1] 1 [1, 2, 8]] (o := .new fun b_1 => .obl (b_1 = b_1) (.stop [.o [0, 0, 1] 1, .c [1, 0, 1], .c [1, 1]] [(1, .slice a xs.length c0), (2, vP b_1), (8, cfgV c)] [Ee1326 a c0 xs, Ee1539 b_1 c])) (by kernel_rfl) ?_
  refine ok_new fun b_1 => ?_
  refine ok_obl rfl ?_
  refine ok_stop ?_
  refine go_call (some 9) [] Tryz.call38 (plan_Check c (by first | assumption | omega | (simp only [InK] at *; omega))) (by kernel_rfl) ?_
  rintro v post ⟨rfl, rfl⟩
  refine go_exec (rs := [.tmp 4]) (by kernel_rfl) 4000 [.z [0, 1, 1] 0 [1, 2]] (o := .stop [.c [0, 1, 1], .c [1, 1, 1]] [(1, .slice a xs.length c0), (2, vP b_1)] [Ee1326 a c0 xs, Ee1539 b_1 c]) (by kernel_rfl) ?_
  refine ok_stop ?_
  refine go_lz (by kernel_rfl) (by kernel_rfl) ?_
  have aS_6 : ∀ (m_1_1 : Nat) (a2_3_1 : Option Addr) (c2_3_1 : Nat) (b_5_1 : Nat), Lz Tryz.prog Tryz.f32 B32 49 F (RetR F (fun v L => ∃ (s : Nat), v = vP s ∧ L = [Ee1326 a c0 xs, .res (ScanR s c (newSc xs))])) (regOps B32 [0, 1, 1]) [.c [1, 1, 1]] (mk 7 [0, 1, 2, 3, 4, 5]) [] [(16, vP b_5_1), (1, .slice a xs.length c0), (2, vP b_1)] [Ee1539 b_1 c, .raw m_1_1 (.map #[] 0), Ee1326 a c0 xs, Ee1326 a2_3_1 c2_3_1 xs, Ea9807 b_5_1 c 0 m_1_1 a2_3_1 xs.length c2_3_1 (.slice none 0 0) (.slice none 0 0) (.pointer none)] := by
    intro m_1_1 a2_3_1 c2_3_1 b_5_1
    refine lz_end (T1 := [(1, .slice a xs.length c0), (2, vP b_1), (5, vP b_5_1)]) (ps := []) [6] [(6, .h .w)] [1, 2, 5] (by kernel_rfl) trivial ?_
    refine go_exec (rs := [.tmp 4]) (by kernel_rfl) 4000 [.z [0, 1, 0, 1, 1, 1] 0 [2, 5, 17, 18, 19]] (o := .stop [.c [0, 1, 0, 1, 1, 1], .b 0, .c [1, 1, 1, 1]] [(2, vP b_1), (5, vP b_5_1), (17, .slice a xs.length c0), (18, vI ((xs.length : Nat) : Int)), (19, vI 0)] [Ee1539 b_1 c, .raw m_1_1 (.map #[] 0), Ee1326 a c0 xs, Ee1326 a2_3_1 c2_3_1 xs, Ea9807 b_5_1 c 0 m_1_1 a2_3_1 xs.length c2_3_1 (.slice none 0 0) (.slice none 0 0) (.pointer none)]) (by kernel_rfl) ?_
    refine ok_stop ?_
    refine go_view (L' := [Ee1539 b_1 c, .res (IMap m_1_1 .i64 (Value.int .i64) (fun _ => none)), Ee1326 a c0 xs, Ee1326 a2_3_1 c2_3_1 xs, Ea9807 b_5_1 c 0 m_1_1 a2_3_1 xs.length c2_3_1 (.slice none 0 0) (.slice none 0 0) (.pointer none)]) (view_map 1 m_1_1 .i64 (Value.int .i64) (by kernel_rfl)) ?_
    refine go_loop (ι := NwI) (fun i => [(2, vP b_1), (5, vP b_5_1), (17, .slice a xs.length c0), (18, vI ((xs.length : Nat) : Int)), (19, vI i.k)]) (fun i => [Ee1539 b_1 c, Ea9807 b_5_1 c 0 m_1_1 a2_3_1 xs.length c2_3_1 (.slice none 0 0) (.slice none 0 0) (.pointer none), .res (IMap m_1_1 .i64 (Value.int .i64) i.m), Ee1326 a c0 xs, Ee1326 a2_3_1 c2_3_1 xs]) (fun i => newOk c i.m (xs.drop i.k.toNat) = newOk c (fun _ => none) xs ∧ (0 ≤ i.k ∧ i.k ≤ (xs.length : Int)) ∧ ∀ j, 0 ≤ (i.m j).getD 0 ∧ (i.m j).getD 0 ≤ 1) (fun i => ((xs.length : Int) - i.k).toNat) ⟨0, fun _ => none⟩ [2, 5, 17, 18, 19] [0, 4, 1, 2, 3] (by kernel_rfl) rfl (by kernel_rfl) (by kernel_rfl) ⟨rfl, (by dsimp only; omega), fun j => (by simp)⟩ ?_
    intro i J_10 hIJ_10 hJ_10
    have hx := hIJ_10
    refine go_exec (rs := [.tmp 4]) (by kernel_rfl) 4000 [.sp [20] [.s 3, .j 3 i.k.toNat, .e 1, .z q8_0 5 [2, 5, 7, 17, 18, 19, 26, 27]] [.e 1, .z [0, 1, 1, 1, 1] 4 [5, 47]]] (o := .br (decide (i.k < ((xs.length : Nat) : Int))) (.obl (a = a ∧ xs.length = xs.length) (.obl ((0 : Int) ≤ i.k ∧ i.k < ((xs.length : Nat) : Int)) (.obl (slAt a i.k.toNat 1 = slAt a i.k.toNat 1) (.obl (i.k.toNat < xs.length) (.obl (b_5_1 = b_5_1) (.stop [.o q8_0 5, .c q8_1, .b 1, .c q8_2, .j J_10, .b 0, .c [1, 1, 1, 1]] [(2, vP b_1), (5, vP b_5_1), (7, vI (xs.getD i.k.toNat 0)), (17, .slice a xs.length c0), (18, vI ((xs.length : Nat) : Int)), (19, vI i.k), (26, .map (some m_1_1)), (27, vI (xs.getD i.k.toNat 0))] [Ee1539 b_1 c, Ea9807 b_5_1 c 0 m_1_1 a2_3_1 xs.length c2_3_1 (.slice none 0 0) (.slice none 0 0) (.pointer none), .res (IMap m_1_1 .i64 (Value.int .i64) i.m), Ee1326 a c0 xs, Ee1326 a2_3_1 c2_3_1 xs])))))) (.obl (b_5_1 = b_5_1) (.stop [.o [0, 1, 1, 1, 1] 4, .c [1, 1, 1, 1, 1]] [(5, vP b_5_1), (47, .map (some m_1_1))] [Ee1539 b_1 c, Ea9807 b_5_1 c 0 m_1_1 a2_3_1 xs.length c2_3_1 (.slice none 0 0) (.slice none 0 0) (.pointer none), .res (IMap m_1_1 .i64 (Value.int .i64) i.m), Ee1326 a c0 xs, Ee1326 a2_3_1 c2_3_1 xs]))) (by kernel_rfl) ?_
    refine ok_br (fun h_11 => ?_) (fun h_11 => ?_)
    · replace h_11 := decT h_11
      refine ok_obl ⟨rfl, (by first | rfl | omega | (simp; done) | (simp; omega))⟩ ?_
      refine ok_obl (by first | omega | (simp; done) | (simp; omega)) ?_
      refine ok_obl rfl ?_
      refine ok_obl (by first | omega | (simp; done) | (simp; omega)) ?_
      refine ok_obl rfl ?_
      refine ok_stop ?_
      refine go_by (some 28) (getO Tryz.prog _) (some (.map (some m_1_1), vI (xs.getD i.k.toNat 0), false, .i64, some (Value.int .i64 0))) (R_get 2 (enc := Value.int .i64) (m := i.m) (by kernel_rfl) (xs.getD i.k.toNat 0) false 0) (by kernel_rfl) ?_
      rintro v L2 ⟨rfl, rfl⟩
      refine go_exec (rs := [.tmp 4]) (by kernel_rfl) 4000 [.n, .z q8_0 7 [2, 5, 7, 17, 18, 19, 26, 27, 29]] (o := .obl (InK .i64 (((i.m (xs.getD i.k.toNat 0)).getD 0) + 1)) (.stop [.o q8_0 7, .c q8_1, .b 1, .c q8_2, .j J_10, .b 0, .c [1, 1, 1, 1]] [(2, vP b_1), (5, vP b_5_1), (7, vI (xs.getD i.k.toNat 0)), (17, .slice a xs.length c0), (18, vI ((xs.length : Nat) : Int)), (19, vI i.k), (26, .map (some m_1_1)), (27, vI (xs.getD i.k.toNat 0)), (29, vI (((i.m (xs.getD i.k.toNat 0)).getD 0) + 1))] [Ee1539 b_1 c, Ea9807 b_5_1 c 0 m_1_1 a2_3_1 xs.length c2_3_1 (.slice none 0 0) (.slice none 0 0) (.pointer none), .res (IMap m_1_1 .i64 (Value.int .i64) i.m), Ee1326 a c0 xs, Ee1326 a2_3_1 c2_3_1 xs])) (by kernel_rfl) ?_
      refine ok_obl (by have := hx.2.2 (xs.getD i.k.toNat 0); simp only [InK]; omega) ?_
      refine ok_stop ?_
      refine go_by none (setO Tryz.prog _) (some (.map (some m_1_1), vI (xs.getD i.k.toNat 0), vI (((i.m (xs.getD i.k.toNat 0)).getD 0) + 1), .i64)) (R_set 2 (enc := Value.int .i64) (m := i.m) (by kernel_rfl) (xs.getD i.k.toNat 0) (((i.m (xs.getD i.k.toNat 0)).getD 0) + 1)) (by kernel_rfl) ?_
      rintro v L2 ⟨rfl, rfl⟩
      refine go_exec (rs := [.tmp 4]) (by kernel_rfl) 4000 [.e 0, .z q8_3 2 [2, 5, 7, 17, 18, 19, 30, 31]] (o := .obl (b_1 = b_1) (.stop [.o q8_3 2, .c q8_4, .b 1, .c q8_2, .j J_10, .b 0, .c [1, 1, 1, 1]] [(2, vP b_1), (5, vP b_5_1), (7, vI (xs.getD i.k.toNat 0)), (17, .slice a xs.length c0), (18, vI ((xs.length : Nat) : Int)), (19, vI i.k), (30, cfgV c), (31, vI (xs.getD i.k.toNat 0))] [Ee1539 b_1 c, Ea9807 b_5_1 c 0 m_1_1 a2_3_1 xs.length c2_3_1 (.slice none 0 0) (.slice none 0 0) (.pointer none), .res (IMap m_1_1 .i64 (Value.int .i64) (updM i.m (xs.getD i.k.toNat 0) (((i.m (xs.getD i.k.toNat 0)).getD 0) + 1))), Ee1326 a c0 xs, Ee1326 a2_3_1 c2_3_1 xs])) (by kernel_rfl) ?_
      refine ok_obl rfl ?_
      refine ok_stop ?_
      refine go_call (some 32) [] Tryz.call44 (plan_Class_all c (xs.getD i.k.toNat 0) (by first | assumption | omega | (simp only [InK] at *; omega)) (hin _)) (by kernel_rfl) ?_
      rintro v post ⟨rfl, rfl⟩
      refine go_exec (rs := [.tmp 4]) (by kernel_rfl) 4000 [.sp [34, 33] [.dead] [.e 1, .z q8_3 10 [2, 5, 17, 18, 19, 34, 38, 39]]] (o := .obl ((decide ((clsOf c (xs.getD i.k.toNat 0)) < 0)) = (decide ((clsOf c (xs.getD i.k.toNat 0)) < 0))) (.br (decide ((clsOf c (xs.getD i.k.toNat 0)) < 0)) (.bad) (.obl (b_5_1 = b_5_1) (.stop [.o q8_3 10, .c q8_4, .b 1, .c q8_2, .j J_10, .b 0, .c [1, 1, 1, 1]] [(2, vP b_1), (5, vP b_5_1), (17, .slice a xs.length c0), (18, vI ((xs.length : Nat) : Int)), (19, vI i.k), (34, .bool false), (38, .map (some m_1_1)), (39, vI (xs.getD i.k.toNat 0))] [Ee1539 b_1 c, Ea9807 b_5_1 c 0 m_1_1 a2_3_1 xs.length c2_3_1 (.slice none 0 0) (.slice none 0 0) (.pointer none), .res (IMap m_1_1 .i64 (Value.int .i64) (updM i.m (xs.getD i.k.toNat 0) (((i.m (xs.getD i.k.toNat 0)).getD 0) + 1))), Ee1326 a c0 xs, Ee1326 a2_3_1 c2_3_1 xs])))) (by kernel_rfl) ?_
      refine ok_obl rfl ?_
      refine ok_br (fun h => absurd (show (decide ((clsOf c (xs.getD i.k.toNat 0)) < 0)) = false from (by have := (newOk_yes (by omega) (hx.1.trans ho)).1; simpa using this)) (by rw [h]; simp)) (fun _ => ?_)
      refine ok_obl rfl ?_
      refine ok_stop ?_
      refine go_by (some 40) (getO Tryz.prog _) (some (.map (some m_1_1), vI (xs.getD i.k.toNat 0), false, .i64, some (Value.int .i64 0))) (R_get 2 (enc := Value.int .i64) (m := (updM i.m (xs.getD i.k.toNat 0) (((i.m (xs.getD i.k.toNat 0)).getD 0) + 1))) (by kernel_rfl) (xs.getD i.k.toNat 0) false 0) (by kernel_rfl) ?_
      rintro v L2 ⟨rfl, rfl⟩
      refine go_exec (rs := [.tmp 4]) (by kernel_rfl) 4000 [.sp [42, 41] [.dead] [.n, .z [] 0 [2, 5, 17, 18, 19]]] (o := .obl ((decide ((((updM i.m (xs.getD i.k.toNat 0) (((i.m (xs.getD i.k.toNat 0)).getD 0) + 1)) (xs.getD i.k.toNat 0)).getD 0) > 1)) = (decide ((((updM i.m (xs.getD i.k.toNat 0) (((i.m (xs.getD i.k.toNat 0)).getD 0) + 1)) (xs.getD i.k.toNat 0)).getD 0) > 1))) (.br (decide ((((updM i.m (xs.getD i.k.toNat 0) (((i.m (xs.getD i.k.toNat 0)).getD 0) + 1)) (xs.getD i.k.toNat 0)).getD 0) > 1)) (.bad) (.obl (InK .i64 (i.k + 1)) (.stop [.j J_10, .b 0, .c [1, 1, 1, 1]] [(2, vP b_1), (5, vP b_5_1), (17, .slice a xs.length c0), (18, vI ((xs.length : Nat) : Int)), (19, vI (i.k + 1))] [Ee1539 b_1 c, Ea9807 b_5_1 c 0 m_1_1 a2_3_1 xs.length c2_3_1 (.slice none 0 0) (.slice none 0 0) (.pointer none), .res (IMap m_1_1 .i64 (Value.int .i64) (updM i.m (xs.getD i.k.toNat 0) (((i.m (xs.getD i.k.toNat 0)).getD 0) + 1))), Ee1326 a c0 xs, Ee1326 a2_3_1 c2_3_1 xs])))) (by kernel_rfl) ?_
      refine ok_obl rfl ?_
      refine ok_br (fun h => absurd (show (decide ((((updM i.m (xs.getD i.k.toNat 0) (((i.m (xs.getD i.k.toNat 0)).getD 0) + 1)) (xs.getD i.k.toNat 0)).getD 0) > 1)) = false from (by have := (newOk_yes (by omega) (hx.1.trans ho)).2; simpa using this)) (by rw [h]; simp)) (fun _ => ?_)
      refine ok_obl (by simp only [InK]; omega) ?_
      refine ok_stop ?_
      exact go_back hJ_10 (⟨(i.k + 1), (updM i.m (xs.getD i.k.toNat 0) (((i.m (xs.getD i.k.toNat 0)).getD 0) + 1))⟩ : NwI) [0, 1, 2, 3, 4] (by kernel_rfl) rfl (by kernel_rfl) ⟨(newOk_next (by omega) (by first | assumption | exact (newOk_yes (by omega) (hx.1.trans ho)).1) (by first | assumption | exact (newOk_yes (by omega) (hx.1.trans ho)).2)).symm.trans hx.1, (by dsimp only; omega), updM_rng hx.2.2 (by first | assumption | exact (newOk_yes (by omega) (hx.1.trans ho)).2)⟩ (by dsimp only; omega)
    · replace h_11 := decF h_11
      refine ok_obl rfl ?_
      refine ok_stop ?_
      refine go_by none (clearO Tryz.prog _) (some (.map (some m_1_1), true)) (R_clear 2 (kk := .i64) (enc := Value.int .i64) (m := i.m) (by kernel_rfl)) (by kernel_rfl) ?_
      rintro v L2 ⟨rfl, rfl⟩
      refine go_exec (rs := [.tmp 4]) (by kernel_rfl) 4000 [] (o := .ret (vP b_5_1) [Ee1539 b_1 c, Ea9807 b_5_1 c 0 m_1_1 a2_3_1 xs.length c2_3_1 (.slice none 0 0) (.slice none 0 0) (.pointer none), .res (IMap m_1_1 .i64 (Value.int .i64) (fun _ => none)), Ee1326 a c0 xs, Ee1326 a2_3_1 c2_3_1 xs]) (by kernel_rfl) ?_
      refine ret_view (L' := [Ee1539 b_1 c, Ea9807 b_5_1 c 0 m_1_1 a2_3_1 xs.length c2_3_1 (.slice none 0 0) (.slice none 0 0) (.pointer none), .res (IMap m_1_1 .i64 (Value.int .i64) (fun _ => none)), Ee1326 a c0 xs, Ee1326 a2_3_1 c2_3_1 xs, Ee1326 none 0 []]) (view_nil (encI .i64) 0 1 3 (sizedI _)) ?_
      refine ret_view (L' := [Ee1539 b_1 c, Ea9807 b_5_1 c 0 m_1_1 a2_3_1 xs.length c2_3_1 (.slice none 0 0) (.slice none 0 0) (.pointer none), .res (IMap m_1_1 .i64 (Value.int .i64) (fun _ => none)), Ee1326 a c0 xs, Ee1326 a2_3_1 c2_3_1 xs, Ee1326 none 0 [], Ee1326 none 0 []]) (view_nil (encI .i64) 0 1 3 (sizedI _)) ?_
      refine ret_view (L' := [Ee1539 b_1 c, Ee1326 a c0 xs, .res (ScanR b_5_1 c (newSc xs))]) (view_pack (fun _ : ScH => True) (scanL b_5_1 c (newSc xs)) (⟨m_1_1, a2_3_1, none, none, c2_3_1, 0, 0, 0⟩ : ScH) (M := [Ee1539 b_1 c, Ee1326 a c0 xs]) [1, 2, 4, 5, 6] (by kernel_rfl) trivial) ?_
      exact ret_ok (post := [Ee1326 a c0 xs, .res (ScanR b_5_1 c (newSc xs))]) [1, 2] (by kernel_rfl) ⟨b_5_1, rfl, rfl⟩
  have aS_7 : ∀ (m_1_1 : Nat) (a2_3_1 : Option Addr) (c2_3_1 : Nat), Lz Tryz.prog Tryz.f32 B32 49 F (RetR F (fun v L => ∃ (s : Nat), v = vP s ∧ L = [Ee1326 a c0 xs, .res (ScanR s c (newSc xs))])) (regOps B32 [0, 1, 1]) [.c [1, 1, 1]] (mk 7 [0, 1, 2, 3]) [0] [(14, .slice a2_3_1 xs.length c2_3_1), (12, .map (some m_1_1)), (1, .slice a xs.length c0), (2, vP b_1), (11, cfgV c)] [Ee1539 b_1 c, .raw m_1_1 (.map #[] 0), Ee1326 a c0 xs, Ee1326 a2_3_1 c2_3_1 xs] := by
    intro m_1_1 a2_3_1 c2_3_1
    refine lz_node (l' := (mk 7 [0, 1, 2, 3, 4])) (V' := [0, 4]) (T1 := [(14, .slice a2_3_1 xs.length c2_3_1), (12, .map (some m_1_1)), (1, .slice a xs.length c0), (2, vP b_1), (11, cfgV c), (15, .agg #[vI c.topics, vI c.small, vI c.slots, vI c.clients, vI c.s0, vI c.n0, vI c.s1, vI c.n1, vI c.retry, vI 0, .map (some m_1_1), .slice a2_3_1 xs.length c2_3_1, .slice none 0 0, .slice none 0 0, .pointer none])]) (ps := [b_1 = b_1]) [4] [(0, .h (.e 0)), (4, .h .w)] [14, 12, 1, 2, 11, 15] [5] (by kernel_rfl) ⟨rfl, trivial⟩ ⟨?_, trivial⟩
    refine lz_op (l' := (mk 7 [0, 1, 2, 3, 4, 5])) (V' := []) (so := .new fun b_5_1 => .ok (.value (vP b_5_1)) [Ee1539 b_1 c, .raw m_1_1 (.map #[] 0), Ee1326 a c0 xs, Ee1326 a2_3_1 c2_3_1 xs, Ea9807 b_5_1 c 0 m_1_1 a2_3_1 xs.length c2_3_1 (.slice none 0 0) (.slice none 0 0) (.pointer none)]) (dst := (some 16)) .w (by kernel_rfl) ?_
    refine sat_new fun b_5_1 => ?_
    refine sat_value ?_
    refine lz_weak (l' := (mk 7 [0, 1, 2, 3, 4, 5])) (V' := []) (T' := [(16, vP b_5_1), (1, .slice a xs.length c0), (2, vP b_1)]) (L' := [Ee1539 b_1 c, .raw m_1_1 (.map #[] 0), Ee1326 a c0 xs, Ee1326 a2_3_1 c2_3_1 xs, Ea9807 b_5_1 c 0 m_1_1 a2_3_1 xs.length c2_3_1 (.slice none 0 0) (.slice none 0 0) (.pointer none)]) [16, 1, 2] [0, 1, 2, 3, 4] (by kernel_rfl) ?_
    exact aS_6 m_1_1 a2_3_1 c2_3_1 b_5_1
  have aS_8 : ∀ (m_1_1 : Nat), Lz Tryz.prog Tryz.f32 B32 49 F (RetR F (fun v L => ∃ (s : Nat), v = vP s ∧ L = [Ee1326 a c0 xs, .res (ScanR s c (newSc xs))])) (regOps B32 [0, 1, 1]) [.c [1, 1, 1]] (mk 7 [0, 1, 2]) [0, 2] [(12, .map (some m_1_1)), (1, .slice a xs.length c0), (2, vP b_1), (11, cfgV c), (13, .slice a xs.length c0)] [Ee1326 a c0 xs, Ee1539 b_1 c, .raw m_1_1 (.map #[] 0)] := by
    intro m_1_1
    refine lz_node (l' := (mk 7 [0, 1, 2])) (V' := [0, 2]) (T1 := [(12, .map (some m_1_1)), (1, .slice a xs.length c0), (2, vP b_1), (11, cfgV c), (13, .slice a xs.length c0)]) (ps := [b_1 = b_1]) [] [(0, .h (.e 1)), (2, .h .w)] [12, 1, 2, 11, 13] [3] (by kernel_rfl) ⟨rfl, trivial⟩ ⟨?_, trivial⟩
    refine lz_call (l' := (mk 7 [0, 1, 2, 3])) (V' := [0]) (some 14) [0] Tryz.call75 (clone_i64 a c0 xs (by omega)) (by kernel_rfl) ?_
    rintro v post ⟨a2_3_1, c2_3_1, rfl, rfl⟩
    refine lz_weak (l' := (mk 7 [0, 1, 2, 3])) (V' := [0]) (T' := [(14, .slice a2_3_1 xs.length c2_3_1), (12, .map (some m_1_1)), (1, .slice a xs.length c0), (2, vP b_1), (11, cfgV c)]) (L' := [Ee1539 b_1 c, .raw m_1_1 (.map #[] 0), Ee1326 a c0 xs, Ee1326 a2_3_1 c2_3_1 xs]) [14, 12, 1, 2, 11] [0, 1, 2, 3] (by kernel_rfl) ?_
    exact aS_7 m_1_1 a2_3_1 c2_3_1
  have aS_9 : ∀ (a2_3_1 : Option Addr) (c2_3_1 : Nat), Lz Tryz.prog Tryz.f32 B32 49 F (RetR F (fun v L => ∃ (s : Nat), v = vP s ∧ L = [Ee1326 a c0 xs, .res (ScanR s c (newSc xs))])) (regOps B32 [0, 1, 1]) [.c [1, 1, 1]] (mk 7 [0, 2, 3]) [0] [(14, .slice a2_3_1 xs.length c2_3_1), (1, .slice a xs.length c0), (2, vP b_1), (11, cfgV c)] [Ee1539 b_1 c, Ee1326 a c0 xs, Ee1326 a2_3_1 c2_3_1 xs] := by
    intro a2_3_1 c2_3_1
    refine lz_node (l' := (mk 7 [0, 2, 3])) (V' := [0]) (T1 := [(14, .slice a2_3_1 xs.length c2_3_1), (1, .slice a xs.length c0), (2, vP b_1), (11, cfgV c)]) (ps := [b_1 = b_1]) [] [(0, .h (.e 0))] [14, 1, 2, 11] [1] (by kernel_rfl) ⟨rfl, trivial⟩ ⟨?_, trivial⟩
    refine lz_op (l' := (mk 7 [0, 1, 2, 3])) (V' := [0]) (so := .new fun m_1_1 => .ok (.value (.map (some m_1_1))) [Ee1539 b_1 c, Ee1326 a c0 xs, Ee1326 a2_3_1 c2_3_1 xs, .raw m_1_1 (.map #[] 0)]) (dst := (some 12)) .w (by kernel_rfl) ?_
    refine sat_new fun m_1_1 => ?_
    refine sat_value ?_
    refine lz_weak (l' := (mk 7 [0, 1, 2, 3])) (V' := [0]) (T' := [(14, .slice a2_3_1 xs.length c2_3_1), (12, .map (some m_1_1)), (1, .slice a xs.length c0), (2, vP b_1), (11, cfgV c)]) (L' := [Ee1539 b_1 c, .raw m_1_1 (.map #[] 0), Ee1326 a c0 xs, Ee1326 a2_3_1 c2_3_1 xs]) [14, 12, 1, 2, 11] [0, 3, 1, 2] (by kernel_rfl) ?_
    exact aS_7 m_1_1 a2_3_1 c2_3_1
  refine lz_node (l' := (mk 7 [0, 2])) (V' := [0, 2]) (T1 := [(1, .slice a xs.length c0), (2, vP b_1), (11, cfgV c), (13, .slice a xs.length c0)]) (ps := [b_1 = b_1]) [0, 2] [(0, .h (.e 1)), (2, .h .w)] [1, 2, 11, 13] [1, 3] (by kernel_rfl) ⟨rfl, trivial⟩ ⟨?_, ?_, trivial⟩
  · refine lz_op (l' := (mk 7 [0, 1, 2])) (V' := [0, 2]) (so := .new fun m_1_1 => .ok (.value (.map (some m_1_1))) [Ee1326 a c0 xs, Ee1539 b_1 c, .raw m_1_1 (.map #[] 0)]) (dst := (some 12)) .w (by kernel_rfl) ?_
    refine sat_new fun m_1_1 => ?_
    refine sat_value ?_
    refine lz_weak (l' := (mk 7 [0, 1, 2])) (V' := [0, 2]) (T' := [(12, .map (some m_1_1)), (1, .slice a xs.length c0), (2, vP b_1), (11, cfgV c), (13, .slice a xs.length c0)]) (L' := [Ee1326 a c0 xs, Ee1539 b_1 c, .raw m_1_1 (.map #[] 0)]) [12, 1, 2, 11, 13] [0, 1, 2] (by kernel_rfl) ?_
    exact aS_8 m_1_1
  · refine lz_call (l' := (mk 7 [0, 2, 3])) (V' := [0]) (some 14) [0] Tryz.call75 (clone_i64 a c0 xs (by omega)) (by kernel_rfl) ?_
    rintro v post ⟨a2_3_1, c2_3_1, rfl, rfl⟩
    refine lz_weak (l' := (mk 7 [0, 2, 3])) (V' := [0]) (T' := [(14, .slice a2_3_1 xs.length c2_3_1), (1, .slice a xs.length c0), (2, vP b_1), (11, cfgV c)]) (L' := [Ee1539 b_1 c, Ee1326 a c0 xs, Ee1326 a2_3_1 c2_3_1 xs]) [14, 1, 2, 11] [0, 1, 2] (by kernel_rfl) ?_
    exact aS_9 a2_3_1 c2_3_1


theorem retire_New_bad (c : Cfg) (a : Option Addr) (c0 : Nat) (xs : List Int) (hc : c.Ok) (hl : xs.length ≤ 100) (hin : ∀ j, InK .i64 (xs.getD j 0)) (ho : newOk c (fun _ => none) xs = false) :
    Ctr Tryz.prog 32 #[cfgV c, .slice a xs.length c0] [Ee1326 a c0 xs] (Ret (.pointer none) [Ee1326 a c0 xs]) := by
  refine ctr_of (args := [cfgV c, .slice a xs.length c0]) (fn := Tryz.f32) (body := B32) (nt := 49) Tryz.func32 (by kernel_rfl) (by kernel_rfl) ?_
  intro F
  refine go_exec (rs := [.tmp 4]) (by kernel_rfl) 4000 [.e 1, .z [0, 0, 1] 1 [1, 2, 8]] (o := .new fun b_1 => .obl (b_1 = b_1) (.stop [.o [0, 0, 1] 1, .c [1, 0, 1], .c [1, 1]] [(1, .slice a xs.length c0), (2, vP b_1), (8, cfgV c)] [Ee1326 a c0 xs, Ee1539 b_1 c])) (by kernel_rfl) ?_
  refine ok_new fun b_1 => ?_
  refine ok_obl rfl ?_
  refine ok_stop ?_
  refine go_call (some 9) [] Tryz.call38 (plan_Check c (by first | assumption | omega | (simp only [InK] at *; omega))) (by kernel_rfl) ?_
  rintro v post ⟨rfl, rfl⟩
  refine go_exec (rs := [.tmp 4]) (by kernel_rfl) 4000 [.z [0, 1, 1] 0 [1, 2]] (o := .stop [.c [0, 1, 1], .c [1, 1, 1]] [(1, .slice a xs.length c0), (2, vP b_1)] [Ee1326 a c0 xs, Ee1539 b_1 c]) (by kernel_rfl) ?_
  refine ok_stop ?_
  refine go_lz (by kernel_rfl) (by kernel_rfl) ?_
  have aS_6 : ∀ (m_1_1 : Nat) (a2_3_1 : Option Addr) (c2_3_1 : Nat) (b_5_1 : Nat), Lz Tryz.prog Tryz.f32 B32 49 F (RetR F (Ret (.pointer none) [Ee1326 a c0 xs])) (regOps B32 [0, 1, 1]) [.c [1, 1, 1]] (mk 7 [0, 1, 2, 3, 4, 5]) [] [(16, vP b_5_1), (1, .slice a xs.length c0), (2, vP b_1)] [Ee1539 b_1 c, .raw m_1_1 (.map #[] 0), Ee1326 a c0 xs, Ee1326 a2_3_1 c2_3_1 xs, Ea9807 b_5_1 c 0 m_1_1 a2_3_1 xs.length c2_3_1 (.slice none 0 0) (.slice none 0 0) (.pointer none)] := by
    intro m_1_1 a2_3_1 c2_3_1 b_5_1
    refine lz_end (T1 := [(1, .slice a xs.length c0), (2, vP b_1), (5, vP b_5_1)]) (ps := []) [6] [(6, .h .w)] [1, 2, 5] (by kernel_rfl) trivial ?_
    refine go_exec (rs := [.tmp 4]) (by kernel_rfl) 4000 [.z [0, 1, 0, 1, 1, 1] 0 [2, 5, 17, 18, 19]] (o := .stop [.c [0, 1, 0, 1, 1, 1], .b 0, .c [1, 1, 1, 1]] [(2, vP b_1), (5, vP b_5_1), (17, .slice a xs.length c0), (18, vI ((xs.length : Nat) : Int)), (19, vI 0)] [Ee1539 b_1 c, .raw m_1_1 (.map #[] 0), Ee1326 a c0 xs, Ee1326 a2_3_1 c2_3_1 xs, Ea9807 b_5_1 c 0 m_1_1 a2_3_1 xs.length c2_3_1 (.slice none 0 0) (.slice none 0 0) (.pointer none)]) (by kernel_rfl) ?_
    refine ok_stop ?_
    refine go_view (L' := [Ee1539 b_1 c, .res (IMap m_1_1 .i64 (Value.int .i64) (fun _ => none)), Ee1326 a c0 xs, Ee1326 a2_3_1 c2_3_1 xs, Ea9807 b_5_1 c 0 m_1_1 a2_3_1 xs.length c2_3_1 (.slice none 0 0) (.slice none 0 0) (.pointer none)]) (view_map 1 m_1_1 .i64 (Value.int .i64) (by kernel_rfl)) ?_
    refine go_loop (ι := NwI) (fun i => [(2, vP b_1), (5, vP b_5_1), (17, .slice a xs.length c0), (18, vI ((xs.length : Nat) : Int)), (19, vI i.k)]) (fun i => [Ee1539 b_1 c, Ea9807 b_5_1 c 0 m_1_1 a2_3_1 xs.length c2_3_1 (.slice none 0 0) (.slice none 0 0) (.pointer none), .res (IMap m_1_1 .i64 (Value.int .i64) i.m), Ee1326 a c0 xs, Ee1326 a2_3_1 c2_3_1 xs]) (fun i => newOk c i.m (xs.drop i.k.toNat) = newOk c (fun _ => none) xs ∧ (0 ≤ i.k ∧ i.k ≤ (xs.length : Int)) ∧ ∀ j, 0 ≤ (i.m j).getD 0 ∧ (i.m j).getD 0 ≤ 1) (fun i => ((xs.length : Int) - i.k).toNat) ⟨0, fun _ => none⟩ [2, 5, 17, 18, 19] [0, 4, 1, 2, 3] (by kernel_rfl) rfl (by kernel_rfl) (by kernel_rfl) ⟨rfl, (by dsimp only; omega), fun j => (by simp)⟩ ?_
    intro i J_10 hIJ_10 hJ_10
    have hx := hIJ_10
    refine go_exec (rs := [.tmp 4]) (by kernel_rfl) 4000 [.sp [20] [.s 3, .j 3 i.k.toNat, .e 1, .z q8_0 5 [2, 5, 7, 17, 18, 19, 26, 27]] [.e 1, .z [0, 1, 1, 1, 1] 4 [5, 47]]] (o := .br (decide (i.k < ((xs.length : Nat) : Int))) (.obl (a = a ∧ xs.length = xs.length) (.obl ((0 : Int) ≤ i.k ∧ i.k < ((xs.length : Nat) : Int)) (.obl (slAt a i.k.toNat 1 = slAt a i.k.toNat 1) (.obl (i.k.toNat < xs.length) (.obl (b_5_1 = b_5_1) (.stop [.o q8_0 5, .c q8_1, .b 1, .c q8_2, .j J_10, .b 0, .c [1, 1, 1, 1]] [(2, vP b_1), (5, vP b_5_1), (7, vI (xs.getD i.k.toNat 0)), (17, .slice a xs.length c0), (18, vI ((xs.length : Nat) : Int)), (19, vI i.k), (26, .map (some m_1_1)), (27, vI (xs.getD i.k.toNat 0))] [Ee1539 b_1 c, Ea9807 b_5_1 c 0 m_1_1 a2_3_1 xs.length c2_3_1 (.slice none 0 0) (.slice none 0 0) (.pointer none), .res (IMap m_1_1 .i64 (Value.int .i64) i.m), Ee1326 a c0 xs, Ee1326 a2_3_1 c2_3_1 xs])))))) (.obl (b_5_1 = b_5_1) (.stop [.o [0, 1, 1, 1, 1] 4, .c [1, 1, 1, 1, 1]] [(5, vP b_5_1), (47, .map (some m_1_1))] [Ee1539 b_1 c, Ea9807 b_5_1 c 0 m_1_1 a2_3_1 xs.length c2_3_1 (.slice none 0 0) (.slice none 0 0) (.pointer none), .res (IMap m_1_1 .i64 (Value.int .i64) i.m), Ee1326 a c0 xs, Ee1326 a2_3_1 c2_3_1 xs]))) (by kernel_rfl) ?_
    refine ok_br (fun h_11 => ?_) (fun h_11 => ?_)
    · replace h_11 := decT h_11
      refine ok_obl ⟨rfl, (by first | rfl | omega | (simp; done) | (simp; omega))⟩ ?_
      refine ok_obl (by first | omega | (simp; done) | (simp; omega)) ?_
      refine ok_obl rfl ?_
      refine ok_obl (by first | omega | (simp; done) | (simp; omega)) ?_
      refine ok_obl rfl ?_
      refine ok_stop ?_
      refine go_by (some 28) (getO Tryz.prog _) (some (.map (some m_1_1), vI (xs.getD i.k.toNat 0), false, .i64, some (Value.int .i64 0))) (R_get 2 (enc := Value.int .i64) (m := i.m) (by kernel_rfl) (xs.getD i.k.toNat 0) false 0) (by kernel_rfl) ?_
      rintro v L2 ⟨rfl, rfl⟩
      refine go_exec (rs := [.tmp 4]) (by kernel_rfl) 4000 [.n, .z q8_0 7 [2, 5, 7, 17, 18, 19, 26, 27, 29]] (o := .obl (InK .i64 (((i.m (xs.getD i.k.toNat 0)).getD 0) + 1)) (.stop [.o q8_0 7, .c q8_1, .b 1, .c q8_2, .j J_10, .b 0, .c [1, 1, 1, 1]] [(2, vP b_1), (5, vP b_5_1), (7, vI (xs.getD i.k.toNat 0)), (17, .slice a xs.length c0), (18, vI ((xs.length : Nat) : Int)), (19, vI i.k), (26, .map (some m_1_1)), (27, vI (xs.getD i.k.toNat 0)), (29, vI (((i.m (xs.getD i.k.toNat 0)).getD 0) + 1))] [Ee1539 b_1 c, Ea9807 b_5_1 c 0 m_1_1 a2_3_1 xs.length c2_3_1 (.slice none 0 0) (.slice none 0 0) (.pointer none), .res (IMap m_1_1 .i64 (Value.int .i64) i.m), Ee1326 a c0 xs, Ee1326 a2_3_1 c2_3_1 xs])) (by kernel_rfl) ?_
      refine ok_obl (by have := hx.2.2 (xs.getD i.k.toNat 0); simp only [InK]; omega) ?_
      refine ok_stop ?_
      refine go_by none (setO Tryz.prog _) (some (.map (some m_1_1), vI (xs.getD i.k.toNat 0), vI (((i.m (xs.getD i.k.toNat 0)).getD 0) + 1), .i64)) (R_set 2 (enc := Value.int .i64) (m := i.m) (by kernel_rfl) (xs.getD i.k.toNat 0) (((i.m (xs.getD i.k.toNat 0)).getD 0) + 1)) (by kernel_rfl) ?_
      rintro v L2 ⟨rfl, rfl⟩
      refine go_exec (rs := [.tmp 4]) (by kernel_rfl) 4000 [.e 0, .z q8_3 2 [2, 5, 7, 17, 18, 19, 30, 31]] (o := .obl (b_1 = b_1) (.stop [.o q8_3 2, .c q8_4, .b 1, .c q8_2, .j J_10, .b 0, .c [1, 1, 1, 1]] [(2, vP b_1), (5, vP b_5_1), (7, vI (xs.getD i.k.toNat 0)), (17, .slice a xs.length c0), (18, vI ((xs.length : Nat) : Int)), (19, vI i.k), (30, cfgV c), (31, vI (xs.getD i.k.toNat 0))] [Ee1539 b_1 c, Ea9807 b_5_1 c 0 m_1_1 a2_3_1 xs.length c2_3_1 (.slice none 0 0) (.slice none 0 0) (.pointer none), .res (IMap m_1_1 .i64 (Value.int .i64) (updM i.m (xs.getD i.k.toNat 0) (((i.m (xs.getD i.k.toNat 0)).getD 0) + 1))), Ee1326 a c0 xs, Ee1326 a2_3_1 c2_3_1 xs])) (by kernel_rfl) ?_
      refine ok_obl rfl ?_
      refine ok_stop ?_
      refine go_call (some 32) [] Tryz.call44 (plan_Class_all c (xs.getD i.k.toNat 0) (by first | assumption | omega | (simp only [InK] at *; omega)) (hin _)) (by kernel_rfl) ?_
      rintro v post ⟨rfl, rfl⟩
      refine go_exec (rs := [.tmp 4]) (by kernel_rfl) 4000 [.sp [34, 33] [] [.e 1, .z q8_3 10 [2, 5, 17, 18, 19, 34, 38, 39]]] (o := .obl ((decide ((clsOf c (xs.getD i.k.toNat 0)) < 0)) = (decide ((clsOf c (xs.getD i.k.toNat 0)) < 0))) (.br (decide ((clsOf c (xs.getD i.k.toNat 0)) < 0)) (.ret (.pointer none) [Ee1539 b_1 c, Ea9807 b_5_1 c 0 m_1_1 a2_3_1 xs.length c2_3_1 (.slice none 0 0) (.slice none 0 0) (.pointer none), .res (IMap m_1_1 .i64 (Value.int .i64) (updM i.m (xs.getD i.k.toNat 0) (((i.m (xs.getD i.k.toNat 0)).getD 0) + 1))), Ee1326 a c0 xs, Ee1326 a2_3_1 c2_3_1 xs]) (.obl (b_5_1 = b_5_1) (.stop [.o q8_3 10, .c q8_4, .b 1, .c q8_2, .j J_10, .b 0, .c [1, 1, 1, 1]] [(2, vP b_1), (5, vP b_5_1), (17, .slice a xs.length c0), (18, vI ((xs.length : Nat) : Int)), (19, vI i.k), (34, .bool false), (38, .map (some m_1_1)), (39, vI (xs.getD i.k.toNat 0))] [Ee1539 b_1 c, Ea9807 b_5_1 c 0 m_1_1 a2_3_1 xs.length c2_3_1 (.slice none 0 0) (.slice none 0 0) (.pointer none), .res (IMap m_1_1 .i64 (Value.int .i64) (updM i.m (xs.getD i.k.toNat 0) (((i.m (xs.getD i.k.toNat 0)).getD 0) + 1))), Ee1326 a c0 xs, Ee1326 a2_3_1 c2_3_1 xs])))) (by kernel_rfl) ?_
      refine ok_obl rfl ?_
      refine ok_br (fun h_12 => ?_) (fun h_12 => ?_)
      · replace h_12 := decT h_12
        exact ret_ok (post := [Ee1326 a c0 xs]) [3] (by kernel_rfl) ⟨rfl, rfl⟩
      · replace h_12 := decF h_12
        refine ok_obl rfl ?_
        refine ok_stop ?_
        refine go_by (some 40) (getO Tryz.prog _) (some (.map (some m_1_1), vI (xs.getD i.k.toNat 0), false, .i64, some (Value.int .i64 0))) (R_get 2 (enc := Value.int .i64) (m := (updM i.m (xs.getD i.k.toNat 0) (((i.m (xs.getD i.k.toNat 0)).getD 0) + 1))) (by kernel_rfl) (xs.getD i.k.toNat 0) false 0) (by kernel_rfl) ?_
        rintro v L2 ⟨rfl, rfl⟩
        refine go_exec (rs := [.tmp 4]) (by kernel_rfl) 4000 [.sp [42, 41] [] [.n, .z [] 0 [2, 5, 17, 18, 19]]] (o := .obl ((decide ((((updM i.m (xs.getD i.k.toNat 0) (((i.m (xs.getD i.k.toNat 0)).getD 0) + 1)) (xs.getD i.k.toNat 0)).getD 0) > 1)) = (decide ((((updM i.m (xs.getD i.k.toNat 0) (((i.m (xs.getD i.k.toNat 0)).getD 0) + 1)) (xs.getD i.k.toNat 0)).getD 0) > 1))) (.br (decide ((((updM i.m (xs.getD i.k.toNat 0) (((i.m (xs.getD i.k.toNat 0)).getD 0) + 1)) (xs.getD i.k.toNat 0)).getD 0) > 1)) (.ret (.pointer none) [Ee1539 b_1 c, Ea9807 b_5_1 c 0 m_1_1 a2_3_1 xs.length c2_3_1 (.slice none 0 0) (.slice none 0 0) (.pointer none), .res (IMap m_1_1 .i64 (Value.int .i64) (updM i.m (xs.getD i.k.toNat 0) (((i.m (xs.getD i.k.toNat 0)).getD 0) + 1))), Ee1326 a c0 xs, Ee1326 a2_3_1 c2_3_1 xs]) (.obl (InK .i64 (i.k + 1)) (.stop [.j J_10, .b 0, .c [1, 1, 1, 1]] [(2, vP b_1), (5, vP b_5_1), (17, .slice a xs.length c0), (18, vI ((xs.length : Nat) : Int)), (19, vI (i.k + 1))] [Ee1539 b_1 c, Ea9807 b_5_1 c 0 m_1_1 a2_3_1 xs.length c2_3_1 (.slice none 0 0) (.slice none 0 0) (.pointer none), .res (IMap m_1_1 .i64 (Value.int .i64) (updM i.m (xs.getD i.k.toNat 0) (((i.m (xs.getD i.k.toNat 0)).getD 0) + 1))), Ee1326 a c0 xs, Ee1326 a2_3_1 c2_3_1 xs])))) (by kernel_rfl) ?_
        refine ok_obl rfl ?_
        refine ok_br (fun h_13 => ?_) (fun h_13 => ?_)
        · replace h_13 := decT h_13
          exact ret_ok (post := [Ee1326 a c0 xs]) [3] (by kernel_rfl) ⟨rfl, rfl⟩
        · replace h_13 := decF h_13
          refine ok_obl (by simp only [InK]; omega) ?_
          refine ok_stop ?_
          exact go_back hJ_10 (⟨(i.k + 1), (updM i.m (xs.getD i.k.toNat 0) (((i.m (xs.getD i.k.toNat 0)).getD 0) + 1))⟩ : NwI) [0, 1, 2, 3, 4] (by kernel_rfl) rfl (by kernel_rfl) ⟨(newOk_next (by omega) (by first | assumption | exact (newOk_yes (by omega) (hx.1.trans ho)).1) (by first | assumption | exact (newOk_yes (by omega) (hx.1.trans ho)).2)).symm.trans hx.1, (by dsimp only; omega), updM_rng hx.2.2 (by first | assumption | exact (newOk_yes (by omega) (hx.1.trans ho)).2)⟩ (by dsimp only; omega)
    · replace h_11 := decF h_11
      refine ok_obl rfl ?_
      refine ok_stop ?_
      refine go_by none (clearO Tryz.prog _) (some (.map (some m_1_1), true)) (R_clear 2 (kk := .i64) (enc := Value.int .i64) (m := i.m) (by kernel_rfl)) (by kernel_rfl) ?_
      rintro v L2 ⟨rfl, rfl⟩
      refine go_exec (rs := [.tmp 4]) (by kernel_rfl) 4000 [] (o := .ret (vP b_5_1) [Ee1539 b_1 c, Ea9807 b_5_1 c 0 m_1_1 a2_3_1 xs.length c2_3_1 (.slice none 0 0) (.slice none 0 0) (.pointer none), .res (IMap m_1_1 .i64 (Value.int .i64) (fun _ => none)), Ee1326 a c0 xs, Ee1326 a2_3_1 c2_3_1 xs]) (by kernel_rfl) ?_
      exact absurd ((newOk_end (c := c) (m := i.m) (xs := xs) (k := i.k) (by omega)).symm.trans (hx.1.trans ho)) (by decide)
  have aS_7 : ∀ (m_1_1 : Nat) (a2_3_1 : Option Addr) (c2_3_1 : Nat), Lz Tryz.prog Tryz.f32 B32 49 F (RetR F (Ret (.pointer none) [Ee1326 a c0 xs])) (regOps B32 [0, 1, 1]) [.c [1, 1, 1]] (mk 7 [0, 1, 2, 3]) [0] [(14, .slice a2_3_1 xs.length c2_3_1), (12, .map (some m_1_1)), (1, .slice a xs.length c0), (2, vP b_1), (11, cfgV c)] [Ee1539 b_1 c, .raw m_1_1 (.map #[] 0), Ee1326 a c0 xs, Ee1326 a2_3_1 c2_3_1 xs] := by
    intro m_1_1 a2_3_1 c2_3_1
    refine lz_node (l' := (mk 7 [0, 1, 2, 3, 4])) (V' := [0, 4]) (T1 := [(14, .slice a2_3_1 xs.length c2_3_1), (12, .map (some m_1_1)), (1, .slice a xs.length c0), (2, vP b_1), (11, cfgV c), (15, .agg #[vI c.topics, vI c.small, vI c.slots, vI c.clients, vI c.s0, vI c.n0, vI c.s1, vI c.n1, vI c.retry, vI 0, .map (some m_1_1), .slice a2_3_1 xs.length c2_3_1, .slice none 0 0, .slice none 0 0, .pointer none])]) (ps := [b_1 = b_1]) [4] [(0, .h (.e 0)), (4, .h .w)] [14, 12, 1, 2, 11, 15] [5] (by kernel_rfl) ⟨rfl, trivial⟩ ⟨?_, trivial⟩
    refine lz_op (l' := (mk 7 [0, 1, 2, 3, 4, 5])) (V' := []) (so := .new fun b_5_1 => .ok (.value (vP b_5_1)) [Ee1539 b_1 c, .raw m_1_1 (.map #[] 0), Ee1326 a c0 xs, Ee1326 a2_3_1 c2_3_1 xs, Ea9807 b_5_1 c 0 m_1_1 a2_3_1 xs.length c2_3_1 (.slice none 0 0) (.slice none 0 0) (.pointer none)]) (dst := (some 16)) .w (by kernel_rfl) ?_
    refine sat_new fun b_5_1 => ?_
    refine sat_value ?_
    refine lz_weak (l' := (mk 7 [0, 1, 2, 3, 4, 5])) (V' := []) (T' := [(16, vP b_5_1), (1, .slice a xs.length c0), (2, vP b_1)]) (L' := [Ee1539 b_1 c, .raw m_1_1 (.map #[] 0), Ee1326 a c0 xs, Ee1326 a2_3_1 c2_3_1 xs, Ea9807 b_5_1 c 0 m_1_1 a2_3_1 xs.length c2_3_1 (.slice none 0 0) (.slice none 0 0) (.pointer none)]) [16, 1, 2] [0, 1, 2, 3, 4] (by kernel_rfl) ?_
    exact aS_6 m_1_1 a2_3_1 c2_3_1 b_5_1
  have aS_8 : ∀ (m_1_1 : Nat), Lz Tryz.prog Tryz.f32 B32 49 F (RetR F (Ret (.pointer none) [Ee1326 a c0 xs])) (regOps B32 [0, 1, 1]) [.c [1, 1, 1]] (mk 7 [0, 1, 2]) [0, 2] [(12, .map (some m_1_1)), (1, .slice a xs.length c0), (2, vP b_1), (11, cfgV c), (13, .slice a xs.length c0)] [Ee1326 a c0 xs, Ee1539 b_1 c, .raw m_1_1 (.map #[] 0)] := by
    intro m_1_1
    refine lz_node (l' := (mk 7 [0, 1, 2])) (V' := [0, 2]) (T1 := [(12, .map (some m_1_1)), (1, .slice a xs.length c0), (2, vP b_1), (11, cfgV c), (13, .slice a xs.length c0)]) (ps := [b_1 = b_1]) [] [(0, .h (.e 1)), (2, .h .w)] [12, 1, 2, 11, 13] [3] (by kernel_rfl) ⟨rfl, trivial⟩ ⟨?_, trivial⟩
    refine lz_call (l' := (mk 7 [0, 1, 2, 3])) (V' := [0]) (some 14) [0] Tryz.call75 (clone_i64 a c0 xs (by omega)) (by kernel_rfl) ?_
    rintro v post ⟨a2_3_1, c2_3_1, rfl, rfl⟩
    refine lz_weak (l' := (mk 7 [0, 1, 2, 3])) (V' := [0]) (T' := [(14, .slice a2_3_1 xs.length c2_3_1), (12, .map (some m_1_1)), (1, .slice a xs.length c0), (2, vP b_1), (11, cfgV c)]) (L' := [Ee1539 b_1 c, .raw m_1_1 (.map #[] 0), Ee1326 a c0 xs, Ee1326 a2_3_1 c2_3_1 xs]) [14, 12, 1, 2, 11] [0, 1, 2, 3] (by kernel_rfl) ?_
    exact aS_7 m_1_1 a2_3_1 c2_3_1
  have aS_9 : ∀ (a2_3_1 : Option Addr) (c2_3_1 : Nat), Lz Tryz.prog Tryz.f32 B32 49 F (RetR F (Ret (.pointer none) [Ee1326 a c0 xs])) (regOps B32 [0, 1, 1]) [.c [1, 1, 1]] (mk 7 [0, 2, 3]) [0] [(14, .slice a2_3_1 xs.length c2_3_1), (1, .slice a xs.length c0), (2, vP b_1), (11, cfgV c)] [Ee1539 b_1 c, Ee1326 a c0 xs, Ee1326 a2_3_1 c2_3_1 xs] := by
    intro a2_3_1 c2_3_1
    refine lz_node (l' := (mk 7 [0, 2, 3])) (V' := [0]) (T1 := [(14, .slice a2_3_1 xs.length c2_3_1), (1, .slice a xs.length c0), (2, vP b_1), (11, cfgV c)]) (ps := [b_1 = b_1]) [] [(0, .h (.e 0))] [14, 1, 2, 11] [1] (by kernel_rfl) ⟨rfl, trivial⟩ ⟨?_, trivial⟩
    refine lz_op (l' := (mk 7 [0, 1, 2, 3])) (V' := [0]) (so := .new fun m_1_1 => .ok (.value (.map (some m_1_1))) [Ee1539 b_1 c, Ee1326 a c0 xs, Ee1326 a2_3_1 c2_3_1 xs, .raw m_1_1 (.map #[] 0)]) (dst := (some 12)) .w (by kernel_rfl) ?_
    refine sat_new fun m_1_1 => ?_
    refine sat_value ?_
    refine lz_weak (l' := (mk 7 [0, 1, 2, 3])) (V' := [0]) (T' := [(14, .slice a2_3_1 xs.length c2_3_1), (12, .map (some m_1_1)), (1, .slice a xs.length c0), (2, vP b_1), (11, cfgV c)]) (L' := [Ee1539 b_1 c, .raw m_1_1 (.map #[] 0), Ee1326 a c0 xs, Ee1326 a2_3_1 c2_3_1 xs]) [14, 12, 1, 2, 11] [0, 3, 1, 2] (by kernel_rfl) ?_
    exact aS_7 m_1_1 a2_3_1 c2_3_1
  refine lz_node (l' := (mk 7 [0, 2])) (V' := [0, 2]) (T1 := [(1, .slice a xs.length c0), (2, vP b_1), (11, cfgV c), (13, .slice a xs.length c0)]) (ps := [b_1 = b_1]) [0, 2] [(0, .h (.e 1)), (2, .h .w)] [1, 2, 11, 13] [1, 3] (by kernel_rfl) ⟨rfl, trivial⟩ ⟨?_, ?_, trivial⟩
  · refine lz_op (l' := (mk 7 [0, 1, 2])) (V' := [0, 2]) (so := .new fun m_1_1 => .ok (.value (.map (some m_1_1))) [Ee1326 a c0 xs, Ee1539 b_1 c, .raw m_1_1 (.map #[] 0)]) (dst := (some 12)) .w (by kernel_rfl) ?_
    refine sat_new fun m_1_1 => ?_
    refine sat_value ?_
    refine lz_weak (l' := (mk 7 [0, 1, 2])) (V' := [0, 2]) (T' := [(12, .map (some m_1_1)), (1, .slice a xs.length c0), (2, vP b_1), (11, cfgV c), (13, .slice a xs.length c0)]) (L' := [Ee1326 a c0 xs, Ee1539 b_1 c, .raw m_1_1 (.map #[] 0)]) [12, 1, 2, 11, 13] [0, 1, 2] (by kernel_rfl) ?_
    exact aS_8 m_1_1
  · refine lz_call (l' := (mk 7 [0, 2, 3])) (V' := [0]) (some 14) [0] Tryz.call75 (clone_i64 a c0 xs (by omega)) (by kernel_rfl) ?_
    rintro v post ⟨a2_3_1, c2_3_1, rfl, rfl⟩
    refine lz_weak (l' := (mk 7 [0, 2, 3])) (V' := [0]) (T' := [(14, .slice a2_3_1 xs.length c2_3_1), (1, .slice a xs.length c0), (2, vP b_1), (11, cfgV c)]) (L' := [Ee1539 b_1 c, Ee1326 a c0 xs, Ee1326 a2_3_1 c2_3_1 xs]) [14, 1, 2, 11] [0, 1, 2] (by kernel_rfl) ?_
    exact aS_9 a2_3_1 c2_3_1

end Go.Proofs.YtilaihbbollcnaaGreatDoor


namespace Go.Proofs.YtilaihbbollcnaaGreatDoor
open Go.Sx
abbrev q9_0 : List Nat := [0, 0, 1, 0, 0, 1, 0, 1, 1]
abbrev q9_1 : List Nat := [1, 1, 0, 0, 1, 0, 1, 1]
abbrev q9_2 : List Nat := [0, 0, 1, 0, 0, 1, 0, 1, 1, 1]
noncomputable def B92 : Code := (Tryz.f92.body).getD .skip

theorem ref_inT (n a b : Int) (h : a ≤ n ∧ n ≤ b) :
    Ctr Tryz.prog 92 #[vI n, vI a, vI b] [] (Ret (.bool true) []) := by
  refine ctr_of (args := [vI n, vI a, vI b]) (fn := Tryz.f92) (body := B92) (nt := 15) Tryz.func92 (by kernel_rfl) (by kernel_rfl) ?_
  intro F
  refine go_exec (rs := [.tmp 6]) (by kernel_rfl) 4000 [.sp [10, 9] [] [.dead]] (o := .obl ((decide (n ≥ a)) = (decide (n ≥ a))) (.br (decide (n ≥ a)) (.ret (.bool (decide (n ≤ b))) []) (.bad))) (by kernel_rfl) ?_
  refine ok_obl rfl ?_
  refine ok_br (fun _ => ?_) (fun h => absurd (show (decide (n ≥ a)) = true from (by first | (simp; done) | (simp; omega))) (by rw [h]; simp))
  exact ret_ok (post := []) [] (by kernel_rfl) ⟨(congrArg Value.bool (by first | rfl | (simp; done) | (simp; omega))), (by kernel_rfl)⟩

noncomputable def B59 : Code := (Tryz.f59.body).getD .skip

theorem ref_right (c : Cfg) (hc : c.Ok) :
    Ctr Tryz.prog 59 #[cfgV c] [] (Ret (.bool true) []) := by
  refine ctr_of (args := [cfgV c]) (fn := Tryz.f59) (body := B59) (nt := 57) Tryz.func59 (by kernel_rfl) (by kernel_rfl) ?_
  intro F
  refine go_exec (rs := [.tmp 2]) (by kernel_rfl) 4000 [.w, .e 0, .e 1, .w, .e 0, .e 2, .e 0, .z [0, 1, 1, 1] 2 [1, 3, 4, 12]] (o := .new fun b_1 => .obl (b_1 = b_1) (.new fun b_2 => .obl (b_2 = b_2) (.obl (b_1 = b_1) (.new fun b_3 => .obl (b_3 = b_3) (.obl (b_1 = b_1) (.stop [.o [0, 1, 1, 1] 2, .c [1, 1, 1, 1]] [(1, vP b_1), (3, vP b_2), (4, vP b_3), (12, vI c.topics)] [Ee1539 b_1 c, .pts b_2 [vI c.s0, vI c.n0] 28, .pts b_3 [vI c.s1, vI c.n1] 28])))))) (by kernel_rfl) ?_
  refine ok_new fun b_1 => ?_
  refine ok_obl rfl ?_
  refine ok_new fun b_2 => ?_
  refine ok_obl rfl ?_
  refine ok_obl rfl ?_
  refine ok_new fun b_3 => ?_
  refine ok_obl rfl ?_
  refine ok_obl rfl ?_
  refine ok_stop ?_
  refine go_call (some 13) [] Tryz.call92 (ref_inT c.topics 1 8 (by simp only [Cfg.Ok] at hc; omega)) (by kernel_rfl) ?_
  rintro v post ⟨rfl, rfl⟩
  refine go_exec (rs := [.tmp 2]) (by kernel_rfl) 4000 [.e 0, .z [0, 1, 1, 1] 6 [1, 3, 4, 14, 16]] (o := .obl (b_1 = b_1) (.stop [.o [0, 1, 1, 1] 6, .c [1, 1, 1, 1]] [(1, vP b_1), (3, vP b_2), (4, vP b_3), (14, .bool true), (16, vI c.small)] [Ee1539 b_1 c, .pts b_2 [vI c.s0, vI c.n0] 28, .pts b_3 [vI c.s1, vI c.n1] 28])) (by kernel_rfl) ?_
  refine ok_obl rfl ?_
  refine ok_stop ?_
  refine go_call (some 17) [] Tryz.call92 (ref_inT c.small 4 32 (by simp only [Cfg.Ok] at hc; omega)) (by kernel_rfl) ?_
  rintro v post ⟨rfl, rfl⟩
  refine go_exec (rs := [.tmp 2]) (by kernel_rfl) 4000 [.e 0, .z [0, 1, 1, 1] 11 [1, 3, 4, 19, 21]] (o := .obl (b_1 = b_1) (.stop [.o [0, 1, 1, 1] 11, .c [1, 1, 1, 1]] [(1, vP b_1), (3, vP b_2), (4, vP b_3), (19, .bool true), (21, vI c.slots)] [Ee1539 b_1 c, .pts b_2 [vI c.s0, vI c.n0] 28, .pts b_3 [vI c.s1, vI c.n1] 28])) (by kernel_rfl) ?_
  refine ok_obl rfl ?_
  refine ok_stop ?_
  refine go_call (some 22) [] Tryz.call92 (ref_inT c.slots 1 8 (by simp only [Cfg.Ok] at hc; omega)) (by kernel_rfl) ?_
  rintro v post ⟨rfl, rfl⟩
  refine go_exec (rs := [.tmp 2]) (by kernel_rfl) 4000 [.e 0, .z [0, 1, 1, 1] 16 [1, 3, 4, 24, 26]] (o := .obl (b_1 = b_1) (.stop [.o [0, 1, 1, 1] 16, .c [1, 1, 1, 1]] [(1, vP b_1), (3, vP b_2), (4, vP b_3), (24, .bool true), (26, vI c.clients)] [Ee1539 b_1 c, .pts b_2 [vI c.s0, vI c.n0] 28, .pts b_3 [vI c.s1, vI c.n1] 28])) (by kernel_rfl) ?_
  refine ok_obl rfl ?_
  refine ok_stop ?_
  refine go_call (some 27) [] Tryz.call92 (ref_inT c.clients 1 8 (by simp only [Cfg.Ok] at hc; omega)) (by kernel_rfl) ?_
  rintro v post ⟨rfl, rfl⟩
  refine go_exec (rs := [.tmp 2]) (by kernel_rfl) 4000 [.e 0, .z [0, 1, 1, 1] 21 [3, 4, 29, 31]] (o := .obl (b_1 = b_1) (.stop [.o [0, 1, 1, 1] 21, .c [1, 1, 1, 1]] [(3, vP b_2), (4, vP b_3), (29, .bool true), (31, vI c.retry)] [Ee1539 b_1 c, .pts b_2 [vI c.s0, vI c.n0] 28, .pts b_3 [vI c.s1, vI c.n1] 28])) (by kernel_rfl) ?_
  refine ok_obl rfl ?_
  refine ok_stop ?_
  refine go_call (some 32) [] Tryz.call92 (ref_inT c.retry 1 8 (by simp only [Cfg.Ok] at hc; omega)) (by kernel_rfl) ?_
  rintro v post ⟨rfl, rfl⟩
  refine go_exec (rs := [.tmp 2]) (by kernel_rfl) 4000 [.e 1, .z [0, 1, 1, 1] 26 [3, 4, 34, 36]] (o := .obl (b_2 = b_2) (.stop [.o [0, 1, 1, 1] 26, .c [1, 1, 1, 1]] [(3, vP b_2), (4, vP b_3), (34, .bool true), (36, vI c.s0)] [Ee1539 b_1 c, .pts b_2 [vI c.s0, vI c.n0] 28, .pts b_3 [vI c.s1, vI c.n1] 28])) (by kernel_rfl) ?_
  refine ok_obl rfl ?_
  refine ok_stop ?_
  refine go_call (some 37) [] Tryz.call92 (ref_inT c.s0 4 96 (by simp only [Cfg.Ok] at hc; omega)) (by kernel_rfl) ?_
  rintro v post ⟨rfl, rfl⟩
  refine go_exec (rs := [.tmp 2]) (by kernel_rfl) 4000 [.e 2, .e 1, .n, .z [0, 1, 1, 1] 34 [3, 4, 39, 41, 44]] (o := .obl (b_3 = b_3) (.obl (b_2 = b_2) (.obl (InK .i64 (c.s0 + 1)) (.stop [.o [0, 1, 1, 1] 34, .c [1, 1, 1, 1]] [(3, vP b_2), (4, vP b_3), (39, .bool true), (41, vI c.s1), (44, vI (c.s0 + 1))] [Ee1539 b_1 c, .pts b_2 [vI c.s0, vI c.n0] 28, .pts b_3 [vI c.s1, vI c.n1] 28])))) (by kernel_rfl) ?_
  refine ok_obl rfl ?_
  refine ok_obl rfl ?_
  refine ok_obl (by simp only [Cfg.Ok, InK] at *; omega) ?_
  refine ok_stop ?_
  refine go_call (some 45) [] Tryz.call92 (ref_inT c.s1 (c.s0 + 1) 96 (by simp only [Cfg.Ok] at hc; omega)) (by kernel_rfl) ?_
  rintro v post ⟨rfl, rfl⟩
  refine go_exec (rs := [.tmp 2]) (by kernel_rfl) 4000 [.e 1, .z [0, 1, 1, 1] 39 [4, 47, 49]] (o := .obl (b_2 = b_2) (.stop [.o [0, 1, 1, 1] 39, .c [1, 1, 1, 1]] [(4, vP b_3), (47, .bool true), (49, vI c.n0)] [Ee1539 b_1 c, .pts b_2 [vI c.s0, vI c.n0] 28, .pts b_3 [vI c.s1, vI c.n1] 28])) (by kernel_rfl) ?_
  refine ok_obl rfl ?_
  refine ok_stop ?_
  refine go_call (some 50) [] Tryz.call92 (ref_inT c.n0 0 12 (by simp only [Cfg.Ok] at hc; omega)) (by kernel_rfl) ?_
  rintro v post ⟨rfl, rfl⟩
  refine go_exec (rs := [.tmp 2]) (by kernel_rfl) 4000 [.e 2, .z [0, 1, 1, 1] 44 [52, 54]] (o := .obl (b_3 = b_3) (.stop [.o [0, 1, 1, 1] 44, .c [1, 1, 1, 1]] [(52, .bool true), (54, vI c.n1)] [Ee1539 b_1 c, .pts b_2 [vI c.s0, vI c.n0] 28, .pts b_3 [vI c.s1, vI c.n1] 28])) (by kernel_rfl) ?_
  refine ok_obl rfl ?_
  refine ok_stop ?_
  refine go_call (some 55) [] Tryz.call92 (ref_inT c.n1 0 12 (by simp only [Cfg.Ok] at hc; omega)) (by kernel_rfl) ?_
  rintro v post ⟨rfl, rfl⟩
  refine go_exec (rs := [.tmp 2]) (by kernel_rfl) 4000 [] (o := .ret (.bool true) [Ee1539 b_1 c, .pts b_2 [vI c.s0, vI c.n0] 28, .pts b_3 [vI c.s1, vI c.n1] 28]) (by kernel_rfl) ?_
  exact ret_ok (post := []) [] (by kernel_rfl) ⟨rfl, (by kernel_rfl)⟩


theorem ref_in0 (b : Int) (h : 1 ≤ b) :
    Ctr Tryz.prog 92 #[vI 0, vI 1, vI b] [] (Ret (.bool false) []) := by
  refine ctr_of (args := [vI 0, vI 1, vI b]) (fn := Tryz.f92) (body := B92) (nt := 15) Tryz.func92 (by kernel_rfl) (by kernel_rfl) ?_
  intro F
  refine go_exec (rs := [.tmp 6]) (by kernel_rfl) 4000 [] (o := .ret (.bool false) []) (by kernel_rfl) ?_
  exact ret_ok (post := []) [] (by kernel_rfl) ⟨rfl, (by kernel_rfl)⟩


theorem ref_right0   :
    Ctr Tryz.prog 59 #[.agg #[vI 0, vI 0, vI 0, vI 0, vI 0, vI 0, vI 0, vI 0, vI 0]] [] (Ret (.bool false) []) := by
  refine ctr_of (args := [.agg #[vI 0, vI 0, vI 0, vI 0, vI 0, vI 0, vI 0, vI 0, vI 0]]) (fn := Tryz.f59) (body := B59) (nt := 57) Tryz.func59 (by kernel_rfl) (by kernel_rfl) ?_
  intro F
  refine go_exec (rs := [.tmp 2]) (by kernel_rfl) 4000 [.w, .e 0, .e 1, .w, .e 0, .e 2, .e 0, .z [0, 1, 1, 1] 2 [1, 3, 4, 12]] (o := .new fun b_1 => .obl (b_1 = b_1) (.new fun b_2 => .obl (b_2 = b_2) (.obl (b_1 = b_1) (.new fun b_3 => .obl (b_3 = b_3) (.obl (b_1 = b_1) (.stop [.o [0, 1, 1, 1] 2, .c [1, 1, 1, 1]] [(1, vP b_1), (3, vP b_2), (4, vP b_3), (12, vI 0)] [E33767 b_1 0 0 0 0 0 0 0 0 0, .pts b_2 [vI 0, vI 0] 28, .pts b_3 [vI 0, vI 0] 28])))))) (by kernel_rfl) ?_
  refine ok_new fun b_1 => ?_
  refine ok_obl rfl ?_
  refine ok_new fun b_2 => ?_
  refine ok_obl rfl ?_
  refine ok_obl rfl ?_
  refine ok_new fun b_3 => ?_
  refine ok_obl rfl ?_
  refine ok_obl rfl ?_
  refine ok_stop ?_
  refine go_call (some 13) [] Tryz.call92 (ref_in0 8 (by decide)) (by kernel_rfl) ?_
  rintro v post ⟨rfl, rfl⟩
  refine go_exec (rs := [.tmp 2]) (by kernel_rfl) 4000 [] (o := .ret (.bool false) [E33767 b_1 0 0 0 0 0 0 0 0 0, .pts b_2 [vI 0, vI 0] 28, .pts b_3 [vI 0, vI 0] 28]) (by kernel_rfl) ?_
  exact ret_ok (post := []) [] (by kernel_rfl) ⟨rfl, (by kernel_rfl)⟩

noncomputable def B49 : Code := (Tryz.f49.body).getD .skip

theorem ref_Blocks (c : Cfg) (hc : c.Ok) :
    Ctr Tryz.prog 49 #[cfgV c] [] (Ret (vI (c.n0 + c.n1)) []) := by
  refine ctr_of (args := [cfgV c]) (fn := Tryz.f49) (body := B49) (nt := 12) Tryz.func49 (by kernel_rfl) (by kernel_rfl) ?_
  intro F
  refine go_exec (rs := [.tmp 2]) (by kernel_rfl) 4000 [.w, .e 0, .w, .e 0, .n] (o := .new fun b_1 => .obl (b_1 = b_1) (.obl (b_1 = b_1) (.obl (InK .i64 (c.n0 + c.n1)) (.ret (vI (c.n0 + c.n1)) [Ee1539 b_1 c])))) (by kernel_rfl) ?_
  refine ok_new fun b_1 => ?_
  refine ok_obl rfl ?_
  refine ok_obl rfl ?_
  refine ok_obl (by simp only [Cfg.Ok, InK] at *; omega) ?_
  exact ret_ok (post := []) [] (by kernel_rfl) ⟨rfl, (by kernel_rfl)⟩

noncomputable def B50 : Code := (Tryz.f50.body).getD .skip

theorem ref_Class (c : Cfg) (k : Int) (hc : c.Ok) :
    Ctr Tryz.prog 50 #[cfgV c, vI k] [] (Ret (vI (clsOf c k)) []) := by
  refine ctr_of (args := [cfgV c, vI k]) (fn := Tryz.f50) (body := B50) (nt := 19) Tryz.func50 (by kernel_rfl) (by kernel_rfl) ?_
  intro F
  refine go_exec (rs := [.tmp 4]) (by kernel_rfl) 4000 [.sp [7, 6] [] [.e 0, .z [0, 0, 1] 5 [1, 2, 7, 8, 9]]] (o := .new fun b_1 => .obl ((decide (k < 1)) = (decide (k < 1))) (.br (decide (k < 1)) (.ret (vI (-1)) [Ee1539 b_1 c]) (.obl (b_1 = b_1) (.stop [.o [0, 0, 1] 5, .c [1, 0, 1], .c [1, 1]] [(1, vI k), (2, vP b_1), (7, .bool false), (8, vI k), (9, cfgV c)] [Ee1539 b_1 c])))) (by kernel_rfl) ?_
  refine ok_new fun b_1 => ?_
  refine ok_obl rfl ?_
  refine ok_br (fun h_2 => ?_) (fun h_2 => ?_)
  · replace h_2 := decT h_2
    exact ret_ok (post := []) [] (by kernel_rfl) ⟨(congrArg (Value.int .i64) (by unfold clsOf; (repeat' split) <;> omega)), (by kernel_rfl)⟩
  · replace h_2 := decF h_2
    refine ok_obl rfl ?_
    refine ok_stop ?_
    refine go_call (some 10) [] Tryz.call49 (ref_Blocks c (by first | assumption | omega | (simp only [InK] at *; omega))) (by kernel_rfl) ?_
    rintro v post ⟨rfl, rfl⟩
    refine go_exec (rs := [.tmp 4]) (by kernel_rfl) 4000 [.sp [12, 11] [] [.w, .e 0, .sp [18] [] []]] (o := .obl ((decide (k > (c.n0 + c.n1))) = (decide (k > (c.n0 + c.n1)))) (.br (decide (k > (c.n0 + c.n1))) (.ret (vI (-1)) [Ee1539 b_1 c]) (.obl (b_1 = b_1) (.br (decide (k ≤ c.n0)) (.ret (vI 0) [Ee1539 b_1 c]) (.ret (vI 1) [Ee1539 b_1 c]))))) (by kernel_rfl) ?_
    refine ok_obl rfl ?_
    refine ok_br (fun h_3 => ?_) (fun h_3 => ?_)
    · replace h_3 := decT h_3
      exact ret_ok (post := []) [] (by kernel_rfl) ⟨(congrArg (Value.int .i64) (by unfold clsOf; (repeat' split) <;> omega)), (by kernel_rfl)⟩
    · replace h_3 := decF h_3
      refine ok_obl rfl ?_
      refine ok_br (fun h_4 => ?_) (fun h_4 => ?_)
      · replace h_4 := decT h_4
        exact ret_ok (post := []) [] (by kernel_rfl) ⟨(congrArg (Value.int .i64) (by unfold clsOf; (repeat' split) <;> omega)), (by kernel_rfl)⟩
      · replace h_4 := decF h_4
        exact ret_ok (post := []) [] (by kernel_rfl) ⟨(congrArg (Value.int .i64) (by unfold clsOf; (repeat' split) <;> omega)), (by kernel_rfl)⟩


theorem ref_Class0 (c : Cfg) (k : Int) (hc : c.Ok) (h : 1 ≤ k ∧ k ≤ c.n0) :
    Ctr Tryz.prog 50 #[cfgV c, vI k] [] (Ret (vI 0) []) := by
  refine ctr_of (args := [cfgV c, vI k]) (fn := Tryz.f50) (body := B50) (nt := 19) Tryz.func50 (by kernel_rfl) (by kernel_rfl) ?_
  intro F
  refine go_exec (rs := [.tmp 4]) (by kernel_rfl) 4000 [.sp [7, 6] [.dead] [.e 0, .z [0, 0, 1] 5 [1, 2, 7, 8, 9]]] (o := .new fun b_1 => .obl ((decide (k < 1)) = (decide (k < 1))) (.br (decide (k < 1)) (.bad) (.obl (b_1 = b_1) (.stop [.o [0, 0, 1] 5, .c [1, 0, 1], .c [1, 1]] [(1, vI k), (2, vP b_1), (7, .bool false), (8, vI k), (9, cfgV c)] [Ee1539 b_1 c])))) (by kernel_rfl) ?_
  refine ok_new fun b_1 => ?_
  refine ok_obl rfl ?_
  refine ok_br (fun h => absurd (show (decide (k < 1)) = false from (by simp only [Cfg.Ok] at hc; simp; omega)) (by rw [h]; simp)) (fun _ => ?_)
  refine ok_obl rfl ?_
  refine ok_stop ?_
  refine go_call (some 10) [] Tryz.call49 (ref_Blocks c (by first | assumption | omega | (simp only [InK] at *; omega))) (by kernel_rfl) ?_
  rintro v post ⟨rfl, rfl⟩
  refine go_exec (rs := [.tmp 4]) (by kernel_rfl) 4000 [.sp [12, 11] [.dead] [.w, .e 0, .sp [18] [] [.dead]]] (o := .obl ((decide (k > (c.n0 + c.n1))) = (decide (k > (c.n0 + c.n1)))) (.br (decide (k > (c.n0 + c.n1))) (.bad) (.obl (b_1 = b_1) (.br (decide (k ≤ c.n0)) (.ret (vI 0) [Ee1539 b_1 c]) (.bad))))) (by kernel_rfl) ?_
  refine ok_obl rfl ?_
  refine ok_br (fun h => absurd (show (decide (k > (c.n0 + c.n1))) = false from (by simp only [Cfg.Ok] at hc; simp; omega)) (by rw [h]; simp)) (fun _ => ?_)
  refine ok_obl rfl ?_
  refine ok_br (fun _ => ?_) (fun h => absurd (show (decide (k ≤ c.n0)) = true from (by simp only [Cfg.Ok] at hc; simp; omega)) (by rw [h]; simp))
  exact ret_ok (post := []) [] (by kernel_rfl) ⟨rfl, (by kernel_rfl)⟩


theorem ref_Class1 (c : Cfg) (k : Int) (hc : c.Ok) (h : c.n0 < k ∧ k ≤ c.n0 + c.n1) :
    Ctr Tryz.prog 50 #[cfgV c, vI k] [] (Ret (vI 1) []) := by
  refine ctr_of (args := [cfgV c, vI k]) (fn := Tryz.f50) (body := B50) (nt := 19) Tryz.func50 (by kernel_rfl) (by kernel_rfl) ?_
  intro F
  refine go_exec (rs := [.tmp 4]) (by kernel_rfl) 4000 [.sp [7, 6] [.dead] [.e 0, .z [0, 0, 1] 5 [1, 2, 7, 8, 9]]] (o := .new fun b_1 => .obl ((decide (k < 1)) = (decide (k < 1))) (.br (decide (k < 1)) (.bad) (.obl (b_1 = b_1) (.stop [.o [0, 0, 1] 5, .c [1, 0, 1], .c [1, 1]] [(1, vI k), (2, vP b_1), (7, .bool false), (8, vI k), (9, cfgV c)] [Ee1539 b_1 c])))) (by kernel_rfl) ?_
  refine ok_new fun b_1 => ?_
  refine ok_obl rfl ?_
  refine ok_br (fun h => absurd (show (decide (k < 1)) = false from (by simp only [Cfg.Ok] at hc; simp; omega)) (by rw [h]; simp)) (fun _ => ?_)
  refine ok_obl rfl ?_
  refine ok_stop ?_
  refine go_call (some 10) [] Tryz.call49 (ref_Blocks c (by first | assumption | omega | (simp only [InK] at *; omega))) (by kernel_rfl) ?_
  rintro v post ⟨rfl, rfl⟩
  refine go_exec (rs := [.tmp 4]) (by kernel_rfl) 4000 [.sp [12, 11] [.dead] [.w, .e 0, .sp [18] [.dead] []]] (o := .obl ((decide (k > (c.n0 + c.n1))) = (decide (k > (c.n0 + c.n1)))) (.br (decide (k > (c.n0 + c.n1))) (.bad) (.obl (b_1 = b_1) (.br (decide (k ≤ c.n0)) (.bad) (.ret (vI 1) [Ee1539 b_1 c]))))) (by kernel_rfl) ?_
  refine ok_obl rfl ?_
  refine ok_br (fun h => absurd (show (decide (k > (c.n0 + c.n1))) = false from (by simp only [Cfg.Ok] at hc; simp; omega)) (by rw [h]; simp)) (fun _ => ?_)
  refine ok_obl rfl ?_
  refine ok_br (fun h => absurd (show (decide (k ≤ c.n0)) = false from (by simp only [Cfg.Ok] at hc; simp; omega)) (by rw [h]; simp)) (fun _ => ?_)
  exact ret_ok (post := []) [] (by kernel_rfl) ⟨rfl, (by kernel_rfl)⟩

noncomputable def B63 : Code := (Tryz.f63.body).getD .skip

theorem ref_Slot (c : Cfg) (i : Int) (hc : c.Ok) (hi : InK .i64 i) :
    Ctr Tryz.prog 63 #[cfgV c, vI i] [] (Ret (vI (slotAt c i)) []) := by
  refine ctr_of (args := [cfgV c, vI i]) (fn := Tryz.f63) (body := B63) (nt := 15) Tryz.func63 (by kernel_rfl) (by kernel_rfl) ?_
  intro F
  refine go_exec (rs := [.tmp 4]) (by kernel_rfl) 4000 [.sp [7, 6] [] [.e 0, .sp [12, 11] [] [.n]]] (o := .new fun b_1 => .obl ((decide (i < 0)) = (decide (i < 0))) (.br (decide (i < 0)) (.ret (vI (-1)) [Ee1539 b_1 c]) (.obl (b_1 = b_1) (.obl ((decide (i ≥ c.slots)) = (decide (i ≥ c.slots))) (.br (decide (i ≥ c.slots)) (.ret (vI (-1)) [Ee1539 b_1 c]) (.obl (InK .i64 (5 + i)) (.ret (vI (5 + i)) [Ee1539 b_1 c]))))))) (by kernel_rfl) ?_
  refine ok_new fun b_1 => ?_
  refine ok_obl rfl ?_
  refine ok_br (fun h_2 => ?_) (fun h_2 => ?_)
  · replace h_2 := decT h_2
    exact ret_ok (post := []) [] (by kernel_rfl) ⟨(congrArg (Value.int .i64) (by unfold slotAt; (repeat' split) <;> omega)), (by kernel_rfl)⟩
  · replace h_2 := decF h_2
    refine ok_obl rfl ?_
    refine ok_obl rfl ?_
    refine ok_br (fun h_3 => ?_) (fun h_3 => ?_)
    · replace h_3 := decT h_3
      exact ret_ok (post := []) [] (by kernel_rfl) ⟨(congrArg (Value.int .i64) (by unfold slotAt; (repeat' split) <;> omega)), (by kernel_rfl)⟩
    · replace h_3 := decF h_3
      refine ok_obl (by simp only [Cfg.Ok, InK] at *; omega) ?_
      exact ret_ok (post := []) [] (by kernel_rfl) ⟨(congrArg (Value.int .i64) (by unfold slotAt; (repeat' split) <;> omega)), (by kernel_rfl)⟩

noncomputable def B47 : Code := (Tryz.f47.body).getD .skip

theorem ref_Size (c : Cfg) (hc : c.Ok) :
    Ctr Tryz.prog 47 #[cfgV c] [] (Ret (vI (sizeOfC c)) []) := by
  refine ctr_of (args := [cfgV c]) (fn := Tryz.f47) (body := B47) (nt := 38) Tryz.func47 (by kernel_rfl) (by kernel_rfl) ?_
  intro F
  refine go_exec (rs := [.tmp 2]) (by kernel_rfl) 4000 [.e 0, .n, .e 0, .n, .e 0, .e 0, .n, .n, .n, .n, .u, .z q9_0 0 [1, 3, 4]] (o := .new fun b_1 => .obl (b_1 = b_1) (.obl (InK .i64 (5 + c.slots)) (.obl (b_1 = b_1) (.obl (InK .i64 ((5 + c.slots) + c.topics)) (.obl (b_1 = b_1) (.obl (b_1 = b_1) (.obl (InK .i64 (2 * c.small)) (.obl (InK .i64 (1 + (2 * c.small))) (.obl (InK .i64 (c.topics * (1 + (2 * c.small)))) (.obl (InK .i64 (((5 + c.slots) + c.topics) + (c.topics * (1 + (2 * c.small))))) (.stop [.c q9_0, .b 1, .c q9_1, .r [0, 1, 0, 1, 1], .b 0, .c [1, 1, 1]] [(1, vP b_1), (3, vI (((5 + c.slots) + c.topics) + (c.topics * (1 + (2 * c.small))))), (4, vI 0)] [Ee1539 b_1 c]))))))))))) (by kernel_rfl) ?_
  refine ok_new fun b_1 => ?_
  refine ok_obl rfl ?_
  refine ok_obl (by have hb := size_nl hc; simp only [Cfg.Ok, InK] at *; omega) ?_
  refine ok_obl rfl ?_
  refine ok_obl (by have hb := size_nl hc; simp only [Cfg.Ok, InK] at *; omega) ?_
  refine ok_obl rfl ?_
  refine ok_obl rfl ?_
  refine ok_obl (by have hb := size_nl hc; simp only [Cfg.Ok, InK] at *; omega) ?_
  refine ok_obl (by have hb := size_nl hc; simp only [Cfg.Ok, InK] at *; omega) ?_
  refine ok_obl (by have hb := size_nl hc; simp only [Cfg.Ok, InK] at *; omega) ?_
  refine ok_obl (by have hb := size_nl hc; simp only [Cfg.Ok, InK] at *; omega) ?_
  refine ok_stop ?_
  have aS2_1 : Any Tryz.prog Tryz.f47 B47 38 F (RetR F (Ret (vI (sizeOfC c)) [])) (regOps B47 q9_0) [.b 1, .c q9_1, .r [0, 1, 0, 1, 1], .b 0, .c [1, 1, 1]] #[true, true, true, true, true, true, true, true, true, true, true, true, true, true, true] [(1, vP b_1), (3, vI ((((5 + c.slots) + c.topics) + (c.topics * (1 + (2 * c.small)))) + (c.n0 * (1 + c.s0)))), (4, vI 0)] [Ee1539 b_1 c] := by
    refine any_done (by kernel_rfl) ?_
    refine go_exec (rs := [.tmp 2]) (by kernel_rfl) 4000 [.w, .u, .z q9_0 0 [1, 3, 4]] (o := .stop [.c q9_0, .b 1, .c q9_1, .r [0, 1, 0, 1, 1], .b 0, .c [1, 1, 1]] [(1, vP b_1), (3, vI ((((5 + c.slots) + c.topics) + (c.topics * (1 + (2 * c.small)))) + (c.n0 * (1 + c.s0)))), (4, vI 1)] [Ee1539 b_1 c]) (by kernel_rfl) ?_
    refine ok_stop ?_
    have aS2_1 : Any Tryz.prog Tryz.f47 B47 38 F (RetR F (Ret (vI (sizeOfC c)) [])) (regOps B47 q9_0) [.b 1, .c q9_1, .r [0, 1, 0, 1, 1], .b 0, .c [1, 1, 1]] #[true, true, true, true, true, true, true, true, true, true, true, true, true, true, true] [(1, vP b_1), (3, vI (((((5 + c.slots) + c.topics) + (c.topics * (1 + (2 * c.small)))) + (c.n0 * (1 + c.s0))) + (c.n1 * (1 + c.s1)))), (4, vI 1)] [Ee1539 b_1 c] := by
      refine any_done (by kernel_rfl) ?_
      refine go_exec (rs := [.tmp 2]) (by kernel_rfl) 4000 [.w, .u] (o := .ret (vI (((((5 + c.slots) + c.topics) + (c.topics * (1 + (2 * c.small)))) + (c.n0 * (1 + c.s0))) + (c.n1 * (1 + c.s1)))) [Ee1539 b_1 c]) (by kernel_rfl) ?_
      exact ret_ok (post := []) [] (by kernel_rfl) ⟨rfl, (by kernel_rfl)⟩
    have aS1_1 : Any Tryz.prog Tryz.f47 B47 38 F (RetR F (Ret (vI (sizeOfC c)) [])) (regOps B47 q9_0) [.b 1, .c q9_1, .r [0, 1, 0, 1, 1], .b 0, .c [1, 1, 1]] #[true, true, true, true, true, true, true, true, true, true, false, false, false, false, false] [(1, vP b_1), (3, vI ((((5 + c.slots) + c.topics) + (c.topics * (1 + (2 * c.small)))) + (c.n0 * (1 + c.s0)))), (4, vI 1), (23, vI ((((5 + c.slots) + c.topics) + (c.topics * (1 + (2 * c.small)))) + (c.n0 * (1 + c.s0)))), (32, .pointer (some ⟨b_1, 6, none⟩)), (28, vI c.n1)] [Ee1539 b_1 c] := by
      refine any_step [10] (by kernel_rfl) rfl ⟨?_, trivial⟩
      · refine any_op (so := .obl (b_1 = b_1) (.ok (.value (vI c.s1)) [Ee1539 b_1 c])) (dst := (some 33)) (.e 0) (by kernel_rfl) ?_
        refine sat_obl rfl ?_
        refine sat_value ?_
        refine any_pure (l' := #[true, true, true, true, true, true, true, true, true, true, true, true, true, true, true]) (tm' := [(1, vP b_1), (3, vI (((((5 + c.slots) + c.topics) + (c.topics * (1 + (2 * c.small)))) + (c.n0 * (1 + c.s0))) + (c.n1 * (1 + c.s1)))), (4, vI 1)]) (ps := [InK .i64 (1 + c.s1), InK .i64 (c.n1 * (1 + c.s1)), InK .i64 (((((5 + c.slots) + c.topics) + (c.topics * (1 + (2 * c.small)))) + (c.n0 * (1 + c.s0))) + (c.n1 * (1 + c.s1)))]) [(11, .n), (12, .n), (13, .n)] [1, 3, 4] (by kernel_rfl) ⟨(by have hb := size_nl hc; simp only [Cfg.Ok, InK] at *; omega), (by have hb := size_nl hc; simp only [Cfg.Ok, InK] at *; omega), (by have hb := size_nl hc; simp only [Cfg.Ok, InK] at *; omega), trivial⟩ ?_
        exact aS2_1
    have aS3_1 : Any Tryz.prog Tryz.f47 B47 38 F (RetR F (Ret (vI (sizeOfC c)) [])) (regOps B47 q9_0) [.b 1, .c q9_1, .r [0, 1, 0, 1, 1], .b 0, .c [1, 1, 1]] #[true, true, true, true, true, false, true, true, true, true, true, true, false, false, false] [(1, vP b_1), (3, vI ((((5 + c.slots) + c.topics) + (c.topics * (1 + (2 * c.small)))) + (c.n0 * (1 + c.s0)))), (4, vI 1), (23, vI ((((5 + c.slots) + c.topics) + (c.topics * (1 + (2 * c.small)))) + (c.n0 * (1 + c.s0)))), (27, .pointer (some ⟨b_1, 7, none⟩)), (34, vI (1 + c.s1))] [Ee1539 b_1 c] := by
      refine any_step [5] (by kernel_rfl) rfl ⟨?_, trivial⟩
      · refine any_op (so := .obl (b_1 = b_1) (.ok (.value (vI c.n1)) [Ee1539 b_1 c])) (dst := (some 28)) (.e 0) (by kernel_rfl) ?_
        refine sat_obl rfl ?_
        refine sat_value ?_
        refine any_pure (l' := #[true, true, true, true, true, true, true, true, true, true, true, true, true, true, true]) (tm' := [(1, vP b_1), (3, vI (((((5 + c.slots) + c.topics) + (c.topics * (1 + (2 * c.small)))) + (c.n0 * (1 + c.s0))) + (c.n1 * (1 + c.s1)))), (4, vI 1)]) (ps := [InK .i64 (c.n1 * (1 + c.s1)), InK .i64 (((((5 + c.slots) + c.topics) + (c.topics * (1 + (2 * c.small)))) + (c.n0 * (1 + c.s0))) + (c.n1 * (1 + c.s1)))]) [(11, .n), (12, .n), (13, .n)] [1, 3, 4] (by kernel_rfl) ⟨(by have hb := size_nl hc; simp only [Cfg.Ok, InK] at *; omega), (by have hb := size_nl hc; simp only [Cfg.Ok, InK] at *; omega), trivial⟩ ?_
        exact aS2_1
    have aS0_1 : Any Tryz.prog Tryz.f47 B47 38 F (RetR F (Ret (vI (sizeOfC c)) [])) (regOps B47 q9_0) [.b 1, .c q9_1, .r [0, 1, 0, 1, 1], .b 0, .c [1, 1, 1]] #[true, true, true, true, true, false, true, true, true, true, false, false, false, false, false] [(1, vP b_1), (3, vI ((((5 + c.slots) + c.topics) + (c.topics * (1 + (2 * c.small)))) + (c.n0 * (1 + c.s0)))), (4, vI 1), (23, vI ((((5 + c.slots) + c.topics) + (c.topics * (1 + (2 * c.small)))) + (c.n0 * (1 + c.s0)))), (27, .pointer (some ⟨b_1, 7, none⟩)), (32, .pointer (some ⟨b_1, 6, none⟩))] [Ee1539 b_1 c] := by
      refine any_step [5, 10] (by kernel_rfl) rfl ⟨?_, ?_, trivial⟩
      · refine any_op (so := .obl (b_1 = b_1) (.ok (.value (vI c.n1)) [Ee1539 b_1 c])) (dst := (some 28)) (.e 0) (by kernel_rfl) ?_
        refine sat_obl rfl ?_
        refine sat_value ?_
        refine any_pure (l' := #[true, true, true, true, true, true, true, true, true, true, false, false, false, false, false]) (tm' := [(1, vP b_1), (3, vI ((((5 + c.slots) + c.topics) + (c.topics * (1 + (2 * c.small)))) + (c.n0 * (1 + c.s0)))), (4, vI 1), (23, vI ((((5 + c.slots) + c.topics) + (c.topics * (1 + (2 * c.small)))) + (c.n0 * (1 + c.s0)))), (32, .pointer (some ⟨b_1, 6, none⟩)), (28, vI c.n1)]) (ps := []) [(11, .n), (12, .n), (13, .n)] [1, 3, 4, 23, 32, 28] (by kernel_rfl) trivial ?_
        exact aS1_1
      · refine any_op (so := .obl (b_1 = b_1) (.ok (.value (vI c.s1)) [Ee1539 b_1 c])) (dst := (some 33)) (.e 0) (by kernel_rfl) ?_
        refine sat_obl rfl ?_
        refine sat_value ?_
        refine any_pure (l' := #[true, true, true, true, true, false, true, true, true, true, true, true, false, false, false]) (tm' := [(1, vP b_1), (3, vI ((((5 + c.slots) + c.topics) + (c.topics * (1 + (2 * c.small)))) + (c.n0 * (1 + c.s0)))), (4, vI 1), (23, vI ((((5 + c.slots) + c.topics) + (c.topics * (1 + (2 * c.small)))) + (c.n0 * (1 + c.s0)))), (27, .pointer (some ⟨b_1, 7, none⟩)), (34, vI (1 + c.s1))]) (ps := [InK .i64 (1 + c.s1)]) [(11, .n), (12, .n), (13, .n)] [1, 3, 4, 23, 27, 34] (by kernel_rfl) ⟨(by have hb := size_nl hc; simp only [Cfg.Ok, InK] at *; omega), trivial⟩ ?_
        exact aS3_1
    refine go_any (by kernel_rfl) (by kernel_rfl) ?_
    refine any_pure (l' := #[true, true, true, true, true, false, true, true, true, true, false, false, false, false, false]) (tm' := [(1, vP b_1), (3, vI ((((5 + c.slots) + c.topics) + (c.topics * (1 + (2 * c.small)))) + (c.n0 * (1 + c.s0)))), (4, vI 1), (23, vI ((((5 + c.slots) + c.topics) + (c.topics * (1 + (2 * c.small)))) + (c.n0 * (1 + c.s0)))), (27, .pointer (some ⟨b_1, 7, none⟩)), (32, .pointer (some ⟨b_1, 6, none⟩))]) (ps := []) [(11, .n), (12, .n), (13, .n)] [1, 3, 4, 23, 27, 32] (by kernel_rfl) trivial ?_
    exact aS0_1
  have aS1_1 : Any Tryz.prog Tryz.f47 B47 38 F (RetR F (Ret (vI (sizeOfC c)) [])) (regOps B47 q9_0) [.b 1, .c q9_1, .r [0, 1, 0, 1, 1], .b 0, .c [1, 1, 1]] #[true, true, true, true, true, true, true, true, true, true, false, false, false, false, false] [(1, vP b_1), (3, vI (((5 + c.slots) + c.topics) + (c.topics * (1 + (2 * c.small))))), (4, vI 0), (23, vI (((5 + c.slots) + c.topics) + (c.topics * (1 + (2 * c.small))))), (32, .pointer (some ⟨b_1, 4, none⟩)), (28, vI c.n0)] [Ee1539 b_1 c] := by
    refine any_step [10] (by kernel_rfl) rfl ⟨?_, trivial⟩
    · refine any_op (so := .obl (b_1 = b_1) (.ok (.value (vI c.s0)) [Ee1539 b_1 c])) (dst := (some 33)) (.e 0) (by kernel_rfl) ?_
      refine sat_obl rfl ?_
      refine sat_value ?_
      refine any_pure (l' := #[true, true, true, true, true, true, true, true, true, true, true, true, true, true, true]) (tm' := [(1, vP b_1), (3, vI ((((5 + c.slots) + c.topics) + (c.topics * (1 + (2 * c.small)))) + (c.n0 * (1 + c.s0)))), (4, vI 0)]) (ps := [InK .i64 (1 + c.s0), InK .i64 (c.n0 * (1 + c.s0)), InK .i64 ((((5 + c.slots) + c.topics) + (c.topics * (1 + (2 * c.small)))) + (c.n0 * (1 + c.s0)))]) [(11, .n), (12, .n), (13, .n)] [1, 3, 4] (by kernel_rfl) ⟨(by have hb := size_nl hc; simp only [Cfg.Ok, InK] at *; omega), (by have hb := size_nl hc; simp only [Cfg.Ok, InK] at *; omega), (by have hb := size_nl hc; simp only [Cfg.Ok, InK] at *; omega), trivial⟩ ?_
      exact aS2_1
  have aS3_1 : Any Tryz.prog Tryz.f47 B47 38 F (RetR F (Ret (vI (sizeOfC c)) [])) (regOps B47 q9_0) [.b 1, .c q9_1, .r [0, 1, 0, 1, 1], .b 0, .c [1, 1, 1]] #[true, true, true, true, true, false, true, true, true, true, true, true, false, false, false] [(1, vP b_1), (3, vI (((5 + c.slots) + c.topics) + (c.topics * (1 + (2 * c.small))))), (4, vI 0), (23, vI (((5 + c.slots) + c.topics) + (c.topics * (1 + (2 * c.small))))), (27, .pointer (some ⟨b_1, 5, none⟩)), (34, vI (1 + c.s0))] [Ee1539 b_1 c] := by
    refine any_step [5] (by kernel_rfl) rfl ⟨?_, trivial⟩
    · refine any_op (so := .obl (b_1 = b_1) (.ok (.value (vI c.n0)) [Ee1539 b_1 c])) (dst := (some 28)) (.e 0) (by kernel_rfl) ?_
      refine sat_obl rfl ?_
      refine sat_value ?_
      refine any_pure (l' := #[true, true, true, true, true, true, true, true, true, true, true, true, true, true, true]) (tm' := [(1, vP b_1), (3, vI ((((5 + c.slots) + c.topics) + (c.topics * (1 + (2 * c.small)))) + (c.n0 * (1 + c.s0)))), (4, vI 0)]) (ps := [InK .i64 (c.n0 * (1 + c.s0)), InK .i64 ((((5 + c.slots) + c.topics) + (c.topics * (1 + (2 * c.small)))) + (c.n0 * (1 + c.s0)))]) [(11, .n), (12, .n), (13, .n)] [1, 3, 4] (by kernel_rfl) ⟨(by have hb := size_nl hc; simp only [Cfg.Ok, InK] at *; omega), (by have hb := size_nl hc; simp only [Cfg.Ok, InK] at *; omega), trivial⟩ ?_
      exact aS2_1
  have aS0_1 : Any Tryz.prog Tryz.f47 B47 38 F (RetR F (Ret (vI (sizeOfC c)) [])) (regOps B47 q9_0) [.b 1, .c q9_1, .r [0, 1, 0, 1, 1], .b 0, .c [1, 1, 1]] #[true, true, true, true, true, false, true, true, true, true, false, false, false, false, false] [(1, vP b_1), (3, vI (((5 + c.slots) + c.topics) + (c.topics * (1 + (2 * c.small))))), (4, vI 0), (23, vI (((5 + c.slots) + c.topics) + (c.topics * (1 + (2 * c.small))))), (27, .pointer (some ⟨b_1, 5, none⟩)), (32, .pointer (some ⟨b_1, 4, none⟩))] [Ee1539 b_1 c] := by
    refine any_step [5, 10] (by kernel_rfl) rfl ⟨?_, ?_, trivial⟩
    · refine any_op (so := .obl (b_1 = b_1) (.ok (.value (vI c.n0)) [Ee1539 b_1 c])) (dst := (some 28)) (.e 0) (by kernel_rfl) ?_
      refine sat_obl rfl ?_
      refine sat_value ?_
      refine any_pure (l' := #[true, true, true, true, true, true, true, true, true, true, false, false, false, false, false]) (tm' := [(1, vP b_1), (3, vI (((5 + c.slots) + c.topics) + (c.topics * (1 + (2 * c.small))))), (4, vI 0), (23, vI (((5 + c.slots) + c.topics) + (c.topics * (1 + (2 * c.small))))), (32, .pointer (some ⟨b_1, 4, none⟩)), (28, vI c.n0)]) (ps := []) [(11, .n), (12, .n), (13, .n)] [1, 3, 4, 23, 32, 28] (by kernel_rfl) trivial ?_
      exact aS1_1
    · refine any_op (so := .obl (b_1 = b_1) (.ok (.value (vI c.s0)) [Ee1539 b_1 c])) (dst := (some 33)) (.e 0) (by kernel_rfl) ?_
      refine sat_obl rfl ?_
      refine sat_value ?_
      refine any_pure (l' := #[true, true, true, true, true, false, true, true, true, true, true, true, false, false, false]) (tm' := [(1, vP b_1), (3, vI (((5 + c.slots) + c.topics) + (c.topics * (1 + (2 * c.small))))), (4, vI 0), (23, vI (((5 + c.slots) + c.topics) + (c.topics * (1 + (2 * c.small))))), (27, .pointer (some ⟨b_1, 5, none⟩)), (34, vI (1 + c.s0))]) (ps := [InK .i64 (1 + c.s0)]) [(11, .n), (12, .n), (13, .n)] [1, 3, 4, 23, 27, 34] (by kernel_rfl) ⟨(by have hb := size_nl hc; simp only [Cfg.Ok, InK] at *; omega), trivial⟩ ?_
      exact aS3_1
  refine go_any (by kernel_rfl) (by kernel_rfl) ?_
  refine any_pure (l' := #[true, true, true, true, true, false, true, true, true, true, false, false, false, false, false]) (tm' := [(1, vP b_1), (3, vI (((5 + c.slots) + c.topics) + (c.topics * (1 + (2 * c.small))))), (4, vI 0), (23, vI (((5 + c.slots) + c.topics) + (c.topics * (1 + (2 * c.small))))), (27, .pointer (some ⟨b_1, 5, none⟩)), (32, .pointer (some ⟨b_1, 4, none⟩))]) (ps := []) [(11, .n), (12, .n), (13, .n)] [1, 3, 4, 23, 27, 32] (by kernel_rfl) trivial ?_
  exact aS0_1

noncomputable def B51 : Code := (Tryz.f51.body).getD .skip

theorem ref_Block (c : Cfg) (k : Int) (hc : c.Ok) (h : 1 ≤ k ∧ k ≤ c.n0 + c.n1) :
    Ctr Tryz.prog 51 #[cfgV c, vI k] [] (Ret (vI (blockAt c k)) []) := by
  refine ctr_of (args := [cfgV c, vI k]) (fn := Tryz.f51) (body := B51) (nt := 45) Tryz.func51 (by kernel_rfl) (by kernel_rfl) ?_
  intro F
  refine go_exec (rs := [.tmp 4]) (by kernel_rfl) 4000 [.sp [9, 8] [.dead] [.e 0, .z [0, 0, 1] 5 [1, 2, 9, 10, 11]]] (o := .new fun b_1 => .obl ((decide (k < 1)) = (decide (k < 1))) (.br (decide (k < 1)) (.bad) (.obl (b_1 = b_1) (.stop [.o [0, 0, 1] 5, .c [1, 0, 1], .c [1, 1]] [(1, vI k), (2, vP b_1), (9, .bool false), (10, vI k), (11, cfgV c)] [Ee1539 b_1 c])))) (by kernel_rfl) ?_
  refine ok_new fun b_1 => ?_
  refine ok_obl rfl ?_
  refine ok_br (fun h => absurd (show (decide (k < 1)) = false from (by first | (simp; done) | (simp; omega))) (by rw [h]; simp)) (fun _ => ?_)
  refine ok_obl rfl ?_
  refine ok_stop ?_
  refine go_call (some 12) [] Tryz.call49 (ref_Blocks c (by first | assumption | omega | (simp only [InK] at *; omega))) (by kernel_rfl) ?_
  rintro v post ⟨rfl, rfl⟩
  refine go_exec (rs := [.tmp 4]) (by kernel_rfl) 4000 [.sp [14, 13] [.dead] [.e 0, .n, .e 0, .n, .e 0, .e 0, .n, .n, .n, .n, .z [0, 1, 0, 1, 1, 1] 0 [1, 2, 5, 6]]] (o := .obl ((decide (k > (c.n0 + c.n1))) = (decide (k > (c.n0 + c.n1)))) (.br (decide (k > (c.n0 + c.n1))) (.bad) (.obl (b_1 = b_1) (.obl (InK .i64 (5 + c.slots)) (.obl (b_1 = b_1) (.obl (InK .i64 ((5 + c.slots) + c.topics)) (.obl (b_1 = b_1) (.obl (b_1 = b_1) (.obl (InK .i64 (2 * c.small)) (.obl (InK .i64 (1 + (2 * c.small))) (.obl (InK .i64 (c.topics * (1 + (2 * c.small)))) (.obl (InK .i64 (((5 + c.slots) + c.topics) + (c.topics * (1 + (2 * c.small))))) (.stop [.c [0, 1, 0, 1, 1, 1], .b 0, .c [1, 1, 1, 1]] [(1, vI k), (2, vP b_1), (5, vI (((5 + c.slots) + c.topics) + (c.topics * (1 + (2 * c.small))))), (6, vI 1)] [Ee1539 b_1 c]))))))))))))) (by kernel_rfl) ?_
  refine ok_obl rfl ?_
  refine ok_br (fun h => absurd (show (decide (k > (c.n0 + c.n1))) = false from (by first | (simp; done) | (simp; omega))) (by rw [h]; simp)) (fun _ => ?_)
  refine ok_obl rfl ?_
  refine ok_obl (by have hb := size_nl hc; simp only [Cfg.Ok, InK] at *; omega) ?_
  refine ok_obl rfl ?_
  refine ok_obl (by have hb := size_nl hc; simp only [Cfg.Ok, InK] at *; omega) ?_
  refine ok_obl rfl ?_
  refine ok_obl rfl ?_
  refine ok_obl (by have hb := size_nl hc; simp only [Cfg.Ok, InK] at *; omega) ?_
  refine ok_obl (by have hb := size_nl hc; simp only [Cfg.Ok, InK] at *; omega) ?_
  refine ok_obl (by have hb := size_nl hc; simp only [Cfg.Ok, InK] at *; omega) ?_
  refine ok_obl (by have hb := size_nl hc; simp only [Cfg.Ok, InK] at *; omega) ?_
  refine ok_stop ?_
  refine go_loop (ι := Int) (fun i => [(1, vI k), (2, vP b_1), (5, vI (blockAt c i)), (6, vI i)]) (fun i => [Ee1539 b_1 c]) (fun i => 1 ≤ i ∧ i ≤ k) (fun i => (k - i).toNat) 1 [1, 2, 5, 6] [0] (by kernel_rfl) (by first | rfl | (rw [blk_one hc (by omega)]; rfl)) rfl (by kernel_rfl) ⟨by omega, by omega⟩ ?_
  intro i J_2 hIJ_2 hJ_2
  have hx := hIJ_2
  refine go_exec (rs := [.tmp 4]) (by kernel_rfl) 4000 [.sp [31] [.n, .e 0, .z q9_2 4 [1, 2, 6, 35, 36, 37]] []] (o := .br (decide (i < k)) (.obl (InK .i64 ((blockAt c i) + 1)) (.obl (b_1 = b_1) (.stop [.o q9_2 4, .b 1, .c [1, 1, 0, 0, 1, 0, 1, 1, 1], .j J_2, .b 0, .c [1, 1, 1, 1]] [(1, vI k), (2, vP b_1), (6, vI i), (35, vI ((blockAt c i) + 1)), (36, cfgV c), (37, vI i)] [Ee1539 b_1 c]))) (.ret (vI (blockAt c i)) [Ee1539 b_1 c])) (by kernel_rfl) ?_
  refine ok_br (fun h_3 => ?_) (fun h_3 => ?_)
  · replace h_3 := decT h_3
    refine ok_obl (by have hb := size_nl hc; have hq := blockAt_ok hc (clsOf_pos (c := c) (b := i) (by omega)); have hz := sizeOfC_ok hc; simp only [Cfg.Ok, InK] at *; omega) ?_
    refine ok_obl rfl ?_
    refine ok_stop ?_
    by_cases hcl : i ≤ c.n0
    · refine go_call (some 38) [] Tryz.call50 (ref_Class0 c i (by first | assumption | omega | (simp only [InK] at *; omega)) (by omega)) (by kernel_rfl) ?_
      rintro v post ⟨rfl, rfl⟩
      refine go_exec (rs := [.tmp 4]) (by kernel_rfl) 4000 [.w, .e 0, .n, .n, .z [] 0 [1, 2, 5, 6]] (o := .obl (b_1 = b_1) (.obl (InK .i64 (((blockAt c i) + 1) + c.s0)) (.obl (InK .i64 (i + 1)) (.stop [.j J_2, .b 0, .c [1, 1, 1, 1]] [(1, vI k), (2, vP b_1), (5, vI (((blockAt c i) + 1) + c.s0)), (6, vI (i + 1))] [Ee1539 b_1 c])))) (by kernel_rfl) ?_
      refine ok_obl rfl ?_
      refine ok_obl (by have hb := size_nl hc; have hq := blockAt_ok hc (clsOf_pos (c := c) (b := i) (by omega)); have hz := sizeOfC_ok hc; simp only [Cfg.Ok, InK] at *; omega) ?_
      refine ok_obl (by have hb := size_nl hc; have hq := blockAt_ok hc (clsOf_pos (c := c) (b := i) (by omega)); have hz := sizeOfC_ok hc; simp only [Cfg.Ok, InK] at *; omega) ?_
      refine ok_stop ?_
      exact go_back hJ_2 (i + 1) [0] (by kernel_rfl) (by first | rfl | (rw [ref_block hc (by omega)]; first | rw [if_pos hcl] | rw [if_neg hcl])) rfl (by omega) (by omega)
    · refine go_call (some 38) [] Tryz.call50 (ref_Class1 c i (by first | assumption | omega | (simp only [InK] at *; omega)) (by omega)) (by kernel_rfl) ?_
      rintro v post ⟨rfl, rfl⟩
      refine go_exec (rs := [.tmp 4]) (by kernel_rfl) 4000 [.w, .e 0, .n, .n, .z [] 0 [1, 2, 5, 6]] (o := .obl (b_1 = b_1) (.obl (InK .i64 (((blockAt c i) + 1) + c.s1)) (.obl (InK .i64 (i + 1)) (.stop [.j J_2, .b 0, .c [1, 1, 1, 1]] [(1, vI k), (2, vP b_1), (5, vI (((blockAt c i) + 1) + c.s1)), (6, vI (i + 1))] [Ee1539 b_1 c])))) (by kernel_rfl) ?_
      refine ok_obl rfl ?_
      refine ok_obl (by have hb := size_nl hc; have hq := blockAt_ok hc (clsOf_pos (c := c) (b := i) (by omega)); have hz := sizeOfC_ok hc; simp only [Cfg.Ok, InK] at *; omega) ?_
      refine ok_obl (by have hb := size_nl hc; have hq := blockAt_ok hc (clsOf_pos (c := c) (b := i) (by omega)); have hz := sizeOfC_ok hc; simp only [Cfg.Ok, InK] at *; omega) ?_
      refine ok_stop ?_
      exact go_back hJ_2 (i + 1) [0] (by kernel_rfl) (by first | rfl | (rw [ref_block hc (by omega)]; first | rw [if_pos hcl] | rw [if_neg hcl])) rfl (by omega) (by omega)
  · replace h_3 := decF h_3
    exact ret_ok (post := []) [] (by kernel_rfl) ⟨(congrArg (Value.int .i64) (by congr 1; omega)), (by kernel_rfl)⟩

end Go.Proofs.YtilaihbbollcnaaGreatDoor


namespace Go.Proofs.YtilaihbbollcnaaGreatDoor
open Go.Sx
abbrev E3ba87 (x0 : Nat) (a1 : Ar) (x2 : Bool) (x3 : Int) : Ent := .pts x0 [.slice a1.aw a1.n a1.cw, .int .i64 a1.steps, .int .i64 a1.lk, .int .i64 a1.lw, .int .u64 a1.lv, .bool a1.lc, .bool x2, .int .i64 x3] 59
abbrev Ea51e4 (x0 : Nat) (a1 : Ar) (x2 : Int) (x3 : Int) (x4 : Int) (x5 : Int) (x6 : Bool) (x7 : Bool) (x8 : Int) : Ent := .pts x0 [.slice a1.aw a1.n a1.cw, .int .i64 x2, .int .i64 x3, .int .i64 x4, .int .u64 x5, .bool x6, .bool x7, .int .i64 x8] 59
abbrev Ed155d (x0 : Nat) (x1 : Int) (x2 : Int) (x3 : Int) (x4 : Int) (x5 : Int) (x6 : Int) (x7 : Int) (x8 : Int) (x9 : Int) : Ent := .pts x0 [.int .i64 x1, .int .i64 x2, .int .i64 x3, .int .i64 x4, .int .i64 x5, .int .i64 x6, .int .i64 x7, .int .i64 x8, .int .i64 x9] 3
abbrev Ea7ba4 (x0 : Nat) (x1 : Option Addr) (x2 : Nat) (x3 : Nat) (x4 : Int) (x5 : Int) (x6 : Int) (x7 : Int) (x8 : Bool) (x9 : Bool) (x10 : Int) : Ent := .pts x0 [.slice x1 x2 x3, .int .i64 x4, .int .i64 x5, .int .i64 x6, .int .u64 x7, .bool x8, .bool x9, .int .i64 x10] 59
noncomputable def B57 : Code := (Tryz.f57.body).getD .skip

theorem ref_step (ra : Nat) (A : Ar) (i kd : Int) (hn : A.ws.length = A.n) (hi : 0 ≤ i ∧ i < A.n) (hs : -1000000000 ≤ A.steps ∧ A.steps ≤ 1000000000) :
    Ctr Tryz.prog 57 #[vP ra, vI kd, vI i] [E3ba87 ra A false 0] (Ret (.bool true) [Ea51e4 ra A (A.steps + 1) kd i 0 false false 0]) := by
  refine ctr_of (args := [vP ra, vI kd, vI i]) (fn := Tryz.f57) (body := B57) (nt := 43) Tryz.func57 (by kernel_rfl) (by kernel_rfl) ?_
  intro F
  refine go_exec (rs := [.tmp 6]) (by kernel_rfl) 4000 [.e 0, .n, .e 0, .e 0, .sp [22, 21] [.e 0, .sp [30, 29] [] [.dead]] [.dead]] (o := .obl (ra = ra) (.obl (InK .i64 (A.steps + 1)) (.obl (ra = ra) (.obl (ra = ra) (.obl ((decide (i ≥ 0)) = (decide (i ≥ 0))) (.br (decide (i ≥ 0)) (.obl (ra = ra) (.obl ((decide (i < ((A.n : Nat) : Int))) = (decide (i < ((A.n : Nat) : Int)))) (.br (decide (i < ((A.n : Nat) : Int))) (.ret (.bool true) [Ea51e4 ra A (A.steps + 1) kd i 0 false false 0]) (.bad)))) (.bad))))))) (by kernel_rfl) ?_
  refine ok_obl rfl ?_
  refine ok_obl (by simp only [InK]; omega) ?_
  refine ok_obl rfl ?_
  refine ok_obl rfl ?_
  refine ok_obl rfl ?_
  refine ok_br (fun _ => ?_) (fun h => absurd (show (decide (i ≥ 0)) = true from (by first | (simp; done) | (simp; omega))) (by rw [h]; simp))
  refine ok_obl rfl ?_
  refine ok_obl rfl ?_
  refine ok_br (fun _ => ?_) (fun h => absurd (show (decide (i < ((A.n : Nat) : Int))) = true from (by first | (simp; done) | (simp; omega))) (by rw [h]; simp))
  exact ret_ok (post := [Ea51e4 ra A (A.steps + 1) kd i 0 false false 0]) [0] (by kernel_rfl) ⟨rfl, (by kernel_rfl)⟩

noncomputable def B61 : Code := (Tryz.f61.body).getD .skip

theorem ref_Load (ra : Nat) (A : Ar) (i : Int) (hn : A.ws.length = A.n) (hi : 0 ≤ i ∧ i < A.n) (hs : -1000000000 ≤ A.steps ∧ A.steps ≤ 1000000000) :
    Ctr Tryz.prog 61 #[vP ra, vI i] [E3ba87 ra A false 0, E671ef A] (Ret (vU (A.ws.getD i.toNat 0)) [E3ba87 ra (A.load i) false 0, E671ef (A.load i)]) := by
  refine ctr_of (args := [vP ra, vI i]) (fn := Tryz.f61) (body := B61) (nt := 29) Tryz.func61 (by kernel_rfl) (by kernel_rfl) ?_
  intro F
  refine go_exec (rs := [.tmp 4]) (by kernel_rfl) 4000 [.z [0, 1] 2 [0, 1, 6, 7]] (o := .stop [.o [0, 1] 2, .c [1, 1]] [(0, vP ra), (1, vI i), (6, vP ra), (7, vI i)] [E3ba87 ra A false 0, E671ef A]) (by kernel_rfl) ?_
  refine ok_stop ?_
  refine go_call (some 8) [0] Tryz.call57 (ref_step ra A i 1 (by first | assumption | omega | (simp only [InK] at *; omega)) (by first | assumption | omega | (simp only [InK] at *; omega)) (by first | assumption | omega | (simp only [InK] at *; omega))) (by kernel_rfl) ?_
  rintro v post ⟨rfl, rfl⟩
  refine go_exec (rs := [.tmp 4]) (by kernel_rfl) 4000 [.e 1, .s 0, .j 0 i.toNat, .e 1, .e 1, .s 0, .j 0 i.toNat] (o := .obl (ra = ra) (.obl (A.aw = A.aw ∧ A.n = A.ws.length) (.obl ((0 : Int) ≤ i ∧ i < ((A.ws.length : Nat) : Int)) (.obl (slAt A.aw i.toNat 1 = slAt A.aw i.toNat 1) (.obl (i.toNat < A.ws.length) (.obl (ra = ra) (.obl (ra = ra) (.obl (A.aw = A.aw ∧ A.n = A.ws.length) (.obl ((0 : Int) ≤ i ∧ i < ((A.ws.length : Nat) : Int)) (.obl (slAt A.aw i.toNat 1 = slAt A.aw i.toNat 1) (.obl (i.toNat < A.ws.length) (.ret (vU (A.ws.getD i.toNat 0)) [E671ef A, Ea51e4 ra A (A.steps + 1) 1 i (A.ws.getD i.toNat 0) false false 0])))))))))))) (by kernel_rfl) ?_
  refine ok_obl rfl ?_
  refine ok_obl ⟨rfl, (by first | rfl | omega | (simp; done) | (simp; omega))⟩ ?_
  refine ok_obl (by first | omega | (simp; done) | (simp; omega)) ?_
  refine ok_obl rfl ?_
  refine ok_obl (by first | omega | (simp; done) | (simp; omega)) ?_
  refine ok_obl rfl ?_
  refine ok_obl rfl ?_
  refine ok_obl ⟨rfl, (by first | rfl | omega | (simp; done) | (simp; omega))⟩ ?_
  refine ok_obl (by first | omega | (simp; done) | (simp; omega)) ?_
  refine ok_obl rfl ?_
  refine ok_obl (by first | omega | (simp; done) | (simp; omega)) ?_
  exact ret_ok (post := [Ea51e4 ra A (A.steps + 1) 1 i (A.ws.getD i.toNat 0) false false 0, E671ef A]) [1, 0] (by kernel_rfl) ⟨rfl, (by kernel_rfl)⟩

noncomputable def B12 : Code := (Tryz.f12.body).getD .skip

theorem ref_Store0 (ra : Nat) (A : Ar) (i v_ : Int) (hn : A.ws.length = A.n) (hi : 0 ≤ i ∧ i < A.n) (hs : -1000000000 ≤ A.steps ∧ A.steps ≤ 1000000000) :
    Ctr Tryz.prog 12 #[vP ra, vI i, vU v_] [E3ba87 ra A false 0, E671ef A] (Ret (undef) [E3ba87 ra (A.rstore i v_) false 0, E671ef (A.rstore i v_)]) := by
  refine ctr_of (args := [vP ra, vI i, vU v_]) (fn := Tryz.f12) (body := B12) (nt := 27) Tryz.func12 (by kernel_rfl) (by kernel_rfl) ?_
  intro F
  refine go_exec (rs := []) (by kernel_rfl) 4000 [.z [0] 2 [0, 1, 2, 7, 8]] (o := .stop [.o [0] 2, .c [1]] [(0, vP ra), (1, vI i), (2, vU v_), (7, vP ra), (8, vI i)] [E3ba87 ra A false 0, E671ef A]) (by kernel_rfl) ?_
  refine ok_stop ?_
  refine go_call (some 9) [0] Tryz.call57 (ref_step ra A i 2 (by first | assumption | omega | (simp only [InK] at *; omega)) (by first | assumption | omega | (simp only [InK] at *; omega)) (by first | assumption | omega | (simp only [InK] at *; omega))) (by kernel_rfl) ?_
  rintro v post ⟨rfl, rfl⟩
  refine go_exec (rs := []) (by kernel_rfl) 4000 [.e 1, .s 0, .j 0 i.toNat, .e 1, .e 1] (o := .obl (ra = ra) (.obl (A.aw = A.aw ∧ A.n = A.ws.length) (.obl ((0 : Int) ≤ i ∧ i < ((A.ws.length : Nat) : Int)) (.obl (slAt A.aw i.toNat 1 = slAt A.aw i.toNat 1) (.obl (i.toNat < A.ws.length) (.ex fun x_1 : Int => .obl ([vU v_] = (encI .u64) x_1) (.obl (ra = ra) (.obl (ra = ra) (.ret (undef) [E4b293 A (A.ws.set i.toNat x_1), Ea51e4 ra A (A.steps + 1) 2 i v_ true false 0]))))))))) (by kernel_rfl) ?_
  refine ok_obl rfl ?_
  refine ok_obl ⟨rfl, (by first | rfl | omega | (simp; done) | (simp; omega))⟩ ?_
  refine ok_obl (by first | omega | (simp; done) | (simp; omega)) ?_
  refine ok_obl rfl ?_
  refine ok_obl (by first | omega | (simp; done) | (simp; omega)) ?_
  refine ok_ex (v_ : Int) ?_
  refine ok_obl rfl ?_
  refine ok_obl rfl ?_
  refine ok_obl rfl ?_
  exact ret_ok (post := [Ea51e4 ra A (A.steps + 1) 2 i v_ true false 0, E4b293 A (A.ws.set i.toNat v_)]) [1, 0] (by kernel_rfl) ⟨rfl, (by kernel_rfl)⟩


theorem ref_Store (ra : Nat) (A : Ar) (i v_ : Int) (hn : A.ws.length = A.n) (hi : 0 ≤ i ∧ i < A.n) (hs : -1000000000 ≤ A.steps ∧ A.steps ≤ 1000000000) :
    Ctr Tryz.prog 12 #[vP ra, vI i, vU v_] [E3ba87 ra A false 0, E671ef A] (Ret (undef) [E3ba87 ra (A.store i v_) false 0, E671ef (A.store i v_)]) := by
  have h := ref_Store0 ra A i v_ hn hi hs
  rw [rstore_eq (by omega)] at h
  exact h

noncomputable def B46 : Code := (Tryz.f46.body).getD .skip

theorem ref_New (n : Int) (h : 1 ≤ n ∧ n ≤ 4096) :
    Ctr Tryz.prog 46 #[vI n] [] (fun v L => ∃ (ra : Nat) (aw : Option Addr) (cw : Nat), v = vP ra ∧ L = [Ea7ba4 ra aw ((List.replicate n.toNat (0 : Int)).length) cw 0 0 0 0 false false 0, E7a681 aw cw (List.replicate n.toNat (0 : Int))]) := by
  refine ctr_of (args := [vI n]) (fn := Tryz.f46) (body := B46) (nt := 7) Tryz.func46 (by kernel_rfl) (by kernel_rfl) ?_
  intro F
  refine go_exec (rs := [.tmp 2]) (by kernel_rfl) 4000 [.z [0, 1] 1 [3]] (o := .stop [.o [0, 1] 1, .c [1, 1]] [(3, vI n)] []) (by kernel_rfl) ?_
  refine ok_stop ?_
  refine go_make (kl := .i64) (kc := .i64) (encI .u64) 0 (0 : Int) 1 (sizedI _) 42 8 (some 4) n n (by kernel_rfl) (by omega) (by omega) (by omega) (by omega) ?_
  intro a_1 c_2
  refine go_exec (rs := [.tmp 2]) (by kernel_rfl) 4000 [] (o := .new fun b_3 => .ret (vP b_3) [E7a681 a_1 c_2 (List.replicate n.toNat (0 : Int)), Ea7ba4 b_3 a_1 ((List.replicate n.toNat (0 : Int)).length) c_2 0 0 0 0 false false 0]) (by kernel_rfl) ?_
  refine ok_new fun b_3 => ?_
  exact ret_ok (post := [Ea7ba4 b_3 a_1 ((List.replicate n.toNat (0 : Int)).length) c_2 0 0 0 0 false false 0, E7a681 a_1 c_2 (List.replicate n.toNat (0 : Int))]) [1, 0] (by kernel_rfl) ⟨b_3, a_1, c_2, rfl, (by kernel_rfl)⟩

noncomputable def B64 : Code := (Tryz.f64.body).getD .skip

theorem ref_Mark (cl bk : Int) (hcl : 0 ≤ cl + 1 ∧ cl + 1 ≤ 4294967295) (hb : 0 ≤ bk ∧ bk ≤ 4294967295) :
    Ctr Tryz.prog 64 #[vI cl, vI bk] [] (Ret (vU (markW cl bk)) []) := by
  refine ctr_of (args := [vI cl, vI bk]) (fn := Tryz.f64) (body := B64) (nt := 14) Tryz.func64 (by kernel_rfl) (by kernel_rfl) ?_
  intro F
  refine go_exec (rs := [.tmp 4]) (by kernel_rfl) 4000 [.n, .w, .w, .n, .w, .w, .w] (o := .obl (InK .i64 (cl + 1)) (.obl ((0 : Int) ≤ 32) (.ret (vU (IntKind.u64.wrap ((bShl .u64 (IntKind.u64.wrap (IntKind.u32.wrap (cl + 1))) 32) + (IntKind.u64.wrap (IntKind.u32.wrap bk))))) []))) (by kernel_rfl) ?_
  refine ok_obl (by simp only [InK]; omega) ?_
  refine ok_obl (by first | omega | (simp; done) | (simp; omega)) ?_
  exact ret_ok (post := []) [] (by kernel_rfl) ⟨(congrArg (Value.int .u64) (mark_eq hcl hb)), (by kernel_rfl)⟩

noncomputable def B72 : Code := (Tryz.f72.body).getD .skip

theorem law_name (n : Int)  :
    Ctr Tryz.prog 72 #[vI n] [] (Ret (vU (nameW n)) []) := by
  refine ctr_of (args := [vI n]) (fn := Tryz.f72) (body := B72) (nt := 12) Tryz.func72 (by kernel_rfl) (by kernel_rfl) ?_
  intro F
  refine go_exec (rs := [.tmp 2]) (by kernel_rfl) 4000 [.n, .n, .n, .sp [9] [] [.z [0, 1, 1, 1] 1 [10]]] (o := .obl ((7 : Int) ≠ 0) (.obl (InK .i64 ((n.tmod 7) + 7)) (.obl ((7 : Int) ≠ 0) (.br ((((n.tmod 7) + 7).tmod 7) == 0) (.ret (vU 0) []) (.stop [.o [0, 1, 1, 1] 1, .c [1, 1, 1, 1]] [(10, vI (((n.tmod 7) + 7).tmod 7))] []))))) (by kernel_rfl) ?_
  refine ok_obl (by decide) ?_
  refine ok_obl (by have h7 := rest7_lt n; simp only [InK]; omega) ?_
  refine ok_obl (by decide) ?_
  refine ok_br (fun h_1 => ?_) (fun h_1 => ?_)
  · replace h_1 := beqT h_1
    exact ret_ok (post := []) [] (by kernel_rfl) ⟨(congrArg (Value.int .u64) (by unfold nameW rest7; first | rw [if_pos (by assumption)] | rw [if_neg (by assumption)])), (by kernel_rfl)⟩
  · replace h_1 := beqF h_1
    refine ok_stop ?_
    refine go_call (some 11) [] Tryz.call64 (ref_Mark 2 (((n.tmod 7) + 7).tmod 7) (by omega) (by have := rest7_rng n; unfold rest7 at this; omega)) (by kernel_rfl) ?_
    rintro v post ⟨rfl, rfl⟩
    refine go_exec (rs := [.tmp 2]) (by kernel_rfl) 4000 [] (o := .ret (vU (markW 2 (((n.tmod 7) + 7).tmod 7))) []) (by kernel_rfl) ?_
    exact ret_ok (post := []) [] (by kernel_rfl) ⟨(congrArg (Value.int .u64) (by unfold nameW rest7; first | rw [if_pos (by assumption)] | rw [if_neg (by assumption)])), (by kernel_rfl)⟩

noncomputable def B37 : Code := (Tryz.f37.body).getD .skip

set_option maxHeartbeats 4000000 in
theorem ref_Of (b : Nat) (x0 x1 x2 x3 x4 x5 x6 x7 x8 : Int)  :
    Ctr Tryz.prog 37 #[.slice (some ⟨b, 0, none⟩) 9 9] [Ed155d b x0 x1 x2 x3 x4 x5 x6 x7 x8] (Ret (.agg #[vI x0, vI x1, vI x2, vI x3, vI x5, vI x6, vI x7, vI x8, vI x4]) [Ed155d b x0 x1 x2 x3 x4 x5 x6 x7 x8]) := by
  refine ctr_of (args := [.slice (some ⟨b, 0, none⟩) 9 9]) (fn := Tryz.f37) (body := B37) (nt := 39) Tryz.func37 (by kernel_rfl) (by kernel_rfl) ?_
  intro F
  refine go_exec (rs := [.cell 2 31]) (by kernel_rfl) 4000 [.z [0, 1] 0 [0, 2]] (o := .new fun b_1 => .stop [.c [0, 1], .c [1, 1]] [(0, .slice (some ⟨b, 0, none⟩) 9 9), (2, vP b_1)] [Ed155d b x0 x1 x2 x3 x4 x5 x6 x7 x8, E33767 b_1 0 0 0 0 0 0 0 0 0]) (by kernel_rfl) ?_
  refine ok_new fun b_1 => ?_
  refine ok_stop ?_
  refine go_lz (by kernel_rfl) (by kernel_rfl) ?_
  refine lz_node (l' := (mk 18 [0, 1, 2, 3, 4, 5, 6, 7, 8, 9, 10, 11, 12, 13, 14, 15])) (V' := [0, 1, 2, 3, 4, 5, 6, 7, 8, 9, 10, 11, 12, 13, 14, 15]) (T1 := [(0, .slice (some ⟨b, 0, none⟩) 9 9), (2, vP b_1), (4, .slice (some ⟨b, 0, none⟩) 9 9), (5, vP b), (6, vI x0), (7, .slice (some ⟨b, 0, none⟩) 9 9), (8, .pointer (some ⟨b, 1, none⟩)), (9, vI x1), (10, .slice (some ⟨b, 0, none⟩) 9 9), (11, .pointer (some ⟨b, 2, none⟩)), (12, vI x2), (13, .slice (some ⟨b, 0, none⟩) 9 9), (14, .pointer (some ⟨b, 3, none⟩)), (15, vI x3), (16, .slice (some ⟨b, 0, none⟩) 9 9), (17, .pointer (some ⟨b, 4, none⟩)), (18, vI x4), (19, .agg #[vI x0, vI x1, vI x2, vI x3, vI 0, vI 0, vI 0, vI 0, vI x4])]) (ps := [b = b, b = b, b = b, b = b, b = b]) [0, 1, 2, 3, 4, 5, 6, 7, 8, 9, 10, 11, 12, 13, 14, 15] [(0, .h .w), (1, .h (.w)), (2, .h (.e 0)), (3, .h .w), (4, .h (.w)), (5, .h (.e 0)), (6, .h .w), (7, .h (.w)), (8, .h (.e 0)), (9, .h .w), (10, .h (.w)), (11, .h (.e 0)), (12, .h .w), (13, .h (.w)), (14, .h (.e 0)), (15, .h .w)] [0, 2, 4, 5, 6, 7, 8, 9, 10, 11, 12, 13, 14, 15, 16, 17, 18, 19] [16] (by kernel_rfl) ⟨rfl, rfl, rfl, rfl, rfl, trivial⟩ ⟨?_, trivial⟩
  refine lz_op (l' := (mk 18 [0, 1, 2, 3, 4, 5, 6, 7, 8, 9, 10, 11, 12, 13, 14, 15, 16])) (V' := [0, 1, 2, 3, 4, 5, 6, 7, 8, 9, 10, 11, 12, 13, 14, 15]) (so := .new fun b_16_1 => .ok (.value (vP b_16_1)) [Ed155d b x0 x1 x2 x3 x4 x5 x6 x7 x8, E33767 b_1 0 0 0 0 0 0 0 0 0, E33767 b_16_1 0 0 0 0 0 0 0 0 0]) (dst := (some 3)) .w (by kernel_rfl) ?_
  refine sat_new fun b_16_1 => ?_
  refine sat_value ?_
  refine lz_node (l' := (mk 18 [0, 1, 2, 3, 4, 5, 6, 7, 8, 9, 10, 11, 12, 13, 14, 15, 16])) (V' := [0, 1, 2, 3, 4, 5, 6, 7, 8, 9, 10, 11, 12, 13, 14, 15]) (T1 := [(3, vP b_16_1), (0, .slice (some ⟨b, 0, none⟩) 9 9), (2, vP b_1), (4, .slice (some ⟨b, 0, none⟩) 9 9), (5, vP b), (6, vI x0), (7, .slice (some ⟨b, 0, none⟩) 9 9), (8, .pointer (some ⟨b, 1, none⟩)), (9, vI x1), (10, .slice (some ⟨b, 0, none⟩) 9 9), (11, .pointer (some ⟨b, 2, none⟩)), (12, vI x2), (13, .slice (some ⟨b, 0, none⟩) 9 9), (14, .pointer (some ⟨b, 3, none⟩)), (15, vI x3), (16, .slice (some ⟨b, 0, none⟩) 9 9), (17, .pointer (some ⟨b, 4, none⟩)), (18, vI x4), (19, .agg #[vI x0, vI x1, vI x2, vI x3, vI 0, vI 0, vI 0, vI 0, vI x4])]) (ps := [b = b, b = b, b = b, b = b, b = b]) [] [(0, .h .w), (1, .h (.w)), (2, .h (.e 0)), (3, .h .w), (4, .h (.w)), (5, .h (.e 0)), (6, .h .w), (7, .h (.w)), (8, .h (.e 0)), (9, .h .w), (10, .h (.w)), (11, .h (.e 0)), (12, .h .w), (13, .h (.w)), (14, .h (.e 0)), (15, .h .w)] [3, 0, 2, 4, 5, 6, 7, 8, 9, 10, 11, 12, 13, 14, 15, 16, 17, 18, 19] [17] (by kernel_rfl) ⟨rfl, rfl, rfl, rfl, rfl, trivial⟩ ⟨?_, trivial⟩
  refine lz_op (l' := (mk 18 [0, 1, 2, 3, 4, 5, 6, 7, 8, 9, 10, 11, 12, 13, 14, 15, 16, 17])) (V' := []) (so := .obl (b_16_1 = b_16_1) (.ok .skip [Ed155d b x0 x1 x2 x3 x4 x5 x6 x7 x8, E33767 b_1 0 0 0 0 0 0 0 0 0, E33767 b_16_1 x0 x1 x2 x3 0 0 0 0 x4])) (dst := none) (.e 2) (by kernel_rfl) ?_
  refine sat_obl rfl ?_
  refine sat_skip ?_
  refine lz_end (T1 := [(3, vP b_16_1), (0, .slice (some ⟨b, 0, none⟩) 9 9), (2, vP b_1)]) (ps := []) [] [] [3, 0, 2] (by kernel_rfl) trivial ?_
  refine go_exec (rs := [.cell 2 31]) (by kernel_rfl) 4000 [.z [0, 1, 1] 0 [0, 2, 3]] (o := .stop [.c [0, 1, 1], .c [1, 1, 1]] [(0, .slice (some ⟨b, 0, none⟩) 9 9), (2, vP b_1), (3, vP b_16_1)] [Ed155d b x0 x1 x2 x3 x4 x5 x6 x7 x8, E33767 b_1 0 0 0 0 0 0 0 0 0, E33767 b_16_1 x0 x1 x2 x3 0 0 0 0 x4]) (by kernel_rfl) ?_
  refine ok_stop ?_
  refine go_tail_op (so := .obl (b_16_1 = b_16_1) (.ok .skip [Ed155d b x0 x1 x2 x3 x4 x5 x6 x7 x8, E33767 b_1 0 0 0 0 0 0 0 0 0, E33767 b_16_1 x0 x1 x2 x3 x5 x6 0 0 x4])) (dst := none) (ps := [b = b, b = b]) (cs := []) [(0, .h .w), (1, .h (.w)), (2, .h (.e 0)), (3, .h .w), (4, .h (.w)), (5, .h (.e 0)), (6, .h .w), (7, .h .w), (8, .h (.w))] 9 [] (.e 2) [0, 2, 3] (by kernel_rfl) (by kernel_rfl) ⟨rfl, rfl, trivial⟩ trivial ?_
  refine sat_obl rfl ?_
  refine sat_skip ?_
  refine tail_next (tm' := [(0, .slice (some ⟨b, 0, none⟩) 9 9), (2, vP b_1), (3, vP b_16_1)]) (ps2 := []) (by kernel_rfl) trivial ?_
  refine go_exec (rs := [.cell 2 31]) (by kernel_rfl) 4000 [.z [0, 1, 1, 1] 0 [0, 2, 3]] (o := .stop [.c [0, 1, 1, 1], .c [1, 1, 1, 1]] [(0, .slice (some ⟨b, 0, none⟩) 9 9), (2, vP b_1), (3, vP b_16_1)] [Ed155d b x0 x1 x2 x3 x4 x5 x6 x7 x8, E33767 b_1 0 0 0 0 0 0 0 0 0, E33767 b_16_1 x0 x1 x2 x3 x5 x6 0 0 x4]) (by kernel_rfl) ?_
  refine ok_stop ?_
  refine go_tail_op (so := .obl (b_16_1 = b_16_1) (.ok .skip [Ed155d b x0 x1 x2 x3 x4 x5 x6 x7 x8, E33767 b_1 0 0 0 0 0 0 0 0 0, E33767 b_16_1 x0 x1 x2 x3 x5 x6 x7 x8 x4])) (dst := none) (ps := [b = b, b = b]) (cs := []) [(0, .h .w), (1, .h (.w)), (2, .h (.e 0)), (3, .h .w), (4, .h (.w)), (5, .h (.e 0)), (6, .h .w), (7, .h .w), (8, .h (.w))] 9 [] (.e 2) [2, 3] (by kernel_rfl) (by kernel_rfl) ⟨rfl, rfl, trivial⟩ trivial ?_
  refine sat_obl rfl ?_
  refine sat_skip ?_
  refine tail_next (tm' := [(2, vP b_1), (3, vP b_16_1)]) (ps2 := []) (by kernel_rfl) trivial ?_
  refine go_exec (rs := [.cell 2 31]) (by kernel_rfl) 4000 [.e 2, .e 1, .e 1] (o := .obl (b_16_1 = b_16_1) (.obl (b_1 = b_1) (.obl (b_1 = b_1) (.ret (.agg #[vI x0, vI x1, vI x2, vI x3, vI x5, vI x6, vI x7, vI x8, vI x4]) [Ed155d b x0 x1 x2 x3 x4 x5 x6 x7 x8, E33767 b_1 x0 x1 x2 x3 x5 x6 x7 x8 x4, E33767 b_16_1 x0 x1 x2 x3 x5 x6 x7 x8 x4])))) (by kernel_rfl) ?_
  refine ok_obl rfl ?_
  refine ok_obl rfl ?_
  refine ok_obl rfl ?_
  exact ret_ok (post := [Ed155d b x0 x1 x2 x3 x4 x5 x6 x7 x8]) [0] (by kernel_rfl) ⟨rfl, (by kernel_rfl)⟩

noncomputable def B27 : Code := (Tryz.f27.body).getD .skip

theorem law_config (n : Int)  :
    Ctr Tryz.prog 27 #[vI n] [] (Ret (cfgV (cfgN n)) []) := by
  refine ctr_of (args := [vI n]) (fn := Tryz.f27) (body := B27) (nt := 8) Tryz.func27 (by kernel_rfl) (by kernel_rfl) ?_
  intro F
  refine go_exec (rs := [.cell 2 31]) (by kernel_rfl) 4000 [.n, .z [0, 1] 4 [2, 6]] (o := .new fun b_1 => .obl (InK .i64 (1 + (bAnd .i64 n 3))) (.new fun b_2 => .stop [.o [0, 1] 4, .c [1, 1]] [(2, vP b_1), (6, .slice (some ⟨b_2, 0, none⟩) 9 9)] [E33767 b_1 0 0 0 0 0 0 0 0 0, Ed155d b_2 1 4 (1 + (bAnd .i64 n 3)) 3 2 4 3 6 3])) (by kernel_rfl) ?_
  refine ok_new fun b_1 => ?_
  refine ok_obl (by have := and3 n; simp only [InK]; omega) ?_
  refine ok_new fun b_2 => ?_
  refine ok_stop ?_
  refine go_call (some 7) [1] Tryz.call37 (ref_Of b_2 1 4 (1 + (bAnd .i64 n 3)) 3 2 4 3 6 3) (by kernel_rfl) ?_
  rintro v post ⟨rfl, rfl⟩
  refine go_exec (rs := [.cell 2 31]) (by kernel_rfl) 4000 [.e 0, .e 0] (o := .obl (b_1 = b_1) (.obl (b_1 = b_1) (.ret (.agg #[vI 1, vI 4, vI (1 + (bAnd .i64 n 3)), vI 3, vI 4, vI 3, vI 6, vI 3, vI 2]) [E33767 b_1 1 4 (1 + (bAnd .i64 n 3)) 3 4 3 6 3 2, Ed155d b_2 1 4 (1 + (bAnd .i64 n 3)) 3 2 4 3 6 3]))) (by kernel_rfl) ?_
  refine ok_obl rfl ?_
  refine ok_obl rfl ?_
  exact ret_ok (post := []) [] (by kernel_rfl) ⟨rfl, (by kernel_rfl)⟩

end Go.Proofs.YtilaihbbollcnaaGreatDoor


namespace Go.Proofs.YtilaihbbollcnaaGreatDoor
open Go.Sx
abbrev E854a5 (x0 : Nat) (c1 : Cfg) : Ent := .pts x0 [.int .i64 c1.topics, .int .i64 c1.small, .int .i64 c1.slots, .int .i64 c1.clients, .int .i64 c1.retry, .int .i64 c1.s0, .int .i64 c1.n0, .int .i64 c1.s1, .int .i64 c1.n1] 3
abbrev q11_0 : List Nat := [0, 1, 0, 1, 1, 1, 1, 1]
abbrev q11_1 : List Nat := [0, 1, 0, 1, 1, 1, 1, 1, 1]
abbrev q11_2 : List Nat := [1, 1, 1, 1, 1, 1, 1]
abbrev q11_3 : List Nat := [0, 0, 0, 0, 1, 0, 1, 1, 1, 1, 1, 1]
abbrev q11_4 : List Nat := [1, 0, 0, 0, 1, 0, 1, 1, 1, 1, 1, 1]
abbrev q11_5 : List Nat := [1, 0, 0, 1, 0, 1, 1, 1, 1, 1, 1]
abbrev q11_6 : List Nat := [0, 0, 0, 1, 0, 0, 1, 0, 1, 1, 1, 1, 1, 1]
abbrev q11_7 : List Nat := [0, 1, 0, 1, 1, 1, 1, 1, 1, 1]
abbrev q11_8 : List Nat := [1, 0, 0, 1, 0, 0, 1, 0, 1, 1, 1, 1, 1, 1]
abbrev q11_9 : List Nat := [1, 1, 0, 0, 1, 0, 1, 1, 1, 1, 1, 1]
abbrev q11_10 : List Nat := [1, 1, 1, 1, 1, 1, 1, 1]
abbrev q11_11 : List Nat := [0, 1, 0, 0, 1, 0, 0, 1, 0, 1, 1, 1, 1, 1, 1]

structure BkI where
  i : Int
  a : List Int
  b : List Int
  aa : Option Addr
  ca : Nat
  ab : Option Addr
  cb : Nat
structure LkI where
  i : Int
  at_ : Int
  W : List Int
noncomputable def B87 : Code := (Tryz.f87.body).getD .skip

theorem ref_Parts (c : Cfg)  :
    Ctr Tryz.prog 87 #[cfgV c] [] (fun v L => ∃ (b : Nat), v = .slice (some ⟨b, 0, none⟩) 9 9 ∧ L = [E854a5 b c]) := by
  refine ctr_of (args := [cfgV c]) (fn := Tryz.f87) (body := B87) (nt := 30) Tryz.func87 (by kernel_rfl) (by kernel_rfl) ?_
  intro F
  refine go_exec (rs := [.tmp 2]) (by kernel_rfl) 4000 [.e 0, .e 0, .e 0, .e 0, .e 0, .w, .e 0, .w, .e 0, .w, .e 0, .w, .e 0] (o := .new fun b_1 => .obl (b_1 = b_1) (.obl (b_1 = b_1) (.obl (b_1 = b_1) (.obl (b_1 = b_1) (.obl (b_1 = b_1) (.obl (b_1 = b_1) (.obl (b_1 = b_1) (.obl (b_1 = b_1) (.obl (b_1 = b_1) (.new fun b_2 => .ret (.slice (some ⟨b_2, 0, none⟩) 9 9) [Ee1539 b_1 c, E854a5 b_2 c])))))))))) (by kernel_rfl) ?_
  refine ok_new fun b_1 => ?_
  refine ok_obl rfl ?_
  refine ok_obl rfl ?_
  refine ok_obl rfl ?_
  refine ok_obl rfl ?_
  refine ok_obl rfl ?_
  refine ok_obl rfl ?_
  refine ok_obl rfl ?_
  refine ok_obl rfl ?_
  refine ok_obl rfl ?_
  refine ok_new fun b_2 => ?_
  exact ret_ok (post := [E854a5 b_2 c]) [1] (by kernel_rfl) ⟨b_2, rfl, (by kernel_rfl)⟩

noncomputable def B48 : Code := (Tryz.f48.body).getD .skip

theorem ref_Pack (c : Cfg) (hc : c.Ok) :
    Ctr Tryz.prog 48 #[cfgV c] [] (fun v L => ∃ (w_ : Int), v = vU w_ ∧ L = [] ∧ (0 ≤ w_ ∧ w_ ≤ 18446744073709551615)) := by
  refine ctr_of (args := [cfgV c]) (fn := Tryz.f48) (body := B48) (nt := 26) Tryz.func48 (by kernel_rfl) (by kernel_rfl) ?_
  intro F
  refine go_exec (rs := [.tmp 2]) (by kernel_rfl) 4000 [.e 0, .z [0, 1] 1 [1, 7]] (o := .new fun b_1 => .obl (b_1 = b_1) (.stop [.o [0, 1] 1, .c [1, 1]] [(1, vP b_1), (7, cfgV c)] [Ee1539 b_1 c])) (by kernel_rfl) ?_
  refine ok_new fun b_1 => ?_
  refine ok_obl rfl ?_
  refine ok_stop ?_
  refine go_call (some 8) [] Tryz.call59 (ref_right c (by first | assumption | omega | (simp only [InK] at *; omega))) (by kernel_rfl) ?_
  rintro v post ⟨rfl, rfl⟩
  refine go_exec (rs := [.tmp 2]) (by kernel_rfl) 4000 [.e 0, .z [0, 1, 1, 1] 1 [11]] (o := .obl (b_1 = b_1) (.stop [.o [0, 1, 1, 1] 1, .c [1, 1, 1, 1]] [(11, cfgV c)] [Ee1539 b_1 c])) (by kernel_rfl) ?_
  refine ok_obl rfl ?_
  refine ok_stop ?_
  refine go_call (some 12) [] Tryz.call87 (ref_Parts c) (by kernel_rfl) ?_
  rintro v post ⟨b_2, rfl, rfl⟩
  refine go_exec (rs := [.tmp 2]) (by kernel_rfl) 4000 [.u, .w, .w, .e 1, .w, .w, .w, .u, .w, .w, .e 1, .w, .w, .w, .u, .w, .w, .e 1, .w, .w, .w, .u, .w, .w, .e 1, .w, .w, .w, .u, .w, .w, .e 1, .w, .w, .w, .u, .w, .w, .e 1, .w, .w, .w, .u, .w, .w, .e 1, .w, .w, .w, .u, .w, .w, .e 1, .w, .w, .w, .u, .w, .w, .e 1, .w, .w, .w, .u] (o := .obl (b_2 = b_2) (.obl (b_2 = b_2) (.obl (b_2 = b_2) (.obl (b_2 = b_2) (.obl (b_2 = b_2) (.obl (b_2 = b_2) (.obl (b_2 = b_2) (.obl (b_2 = b_2) (.obl (b_2 = b_2) (.ret (vU (IntKind.u64.wrap ((IntKind.u64.wrap ((IntKind.u64.wrap ((IntKind.u64.wrap ((IntKind.u64.wrap ((IntKind.u64.wrap ((IntKind.u64.wrap ((IntKind.u64.wrap ((IntKind.u64.wrap ((IntKind.u64.wrap ((IntKind.u64.wrap ((IntKind.u64.wrap ((IntKind.u64.wrap ((IntKind.u64.wrap ((IntKind.u64.wrap ((IntKind.u64.wrap ((IntKind.u64.wrap (0 + (IntKind.u64.wrap c.n1))) * 128)) + (IntKind.u64.wrap c.s1))) * 128)) + (IntKind.u64.wrap c.n0))) * 128)) + (IntKind.u64.wrap c.s0))) * 128)) + (IntKind.u64.wrap c.retry))) * 128)) + (IntKind.u64.wrap c.clients))) * 128)) + (IntKind.u64.wrap c.slots))) * 128)) + (IntKind.u64.wrap c.small))) * 128)) + (IntKind.u64.wrap c.topics)))) [Ee1539 b_1 c, E854a5 b_2 c])))))))))) (by kernel_rfl) ?_
  refine ok_obl rfl ?_
  refine ok_obl rfl ?_
  refine ok_obl rfl ?_
  refine ok_obl rfl ?_
  refine ok_obl rfl ?_
  refine ok_obl rfl ?_
  refine ok_obl rfl ?_
  refine ok_obl rfl ?_
  refine ok_obl rfl ?_
  exact ret_ok (post := []) [] (by kernel_rfl) ⟨(IntKind.u64.wrap ((IntKind.u64.wrap ((IntKind.u64.wrap ((IntKind.u64.wrap ((IntKind.u64.wrap ((IntKind.u64.wrap ((IntKind.u64.wrap ((IntKind.u64.wrap ((IntKind.u64.wrap ((IntKind.u64.wrap ((IntKind.u64.wrap ((IntKind.u64.wrap ((IntKind.u64.wrap ((IntKind.u64.wrap ((IntKind.u64.wrap ((IntKind.u64.wrap ((IntKind.u64.wrap (0 + (IntKind.u64.wrap c.n1))) * 128)) + (IntKind.u64.wrap c.s1))) * 128)) + (IntKind.u64.wrap c.n0))) * 128)) + (IntKind.u64.wrap c.s0))) * 128)) + (IntKind.u64.wrap c.retry))) * 128)) + (IntKind.u64.wrap c.clients))) * 128)) + (IntKind.u64.wrap c.slots))) * 128)) + (IntKind.u64.wrap c.small))) * 128)) + (IntKind.u64.wrap c.topics))), rfl, (by kernel_rfl), (wrap64_rng _)⟩

noncomputable def B8 : Code := (Tryz.f8.body).getD .skip

theorem ref_Make (c : Cfg) (hc : c.Ok) :
    Ctr Tryz.prog 8 #[cfgV c] [] (fun v L => ∃ (ra : Nat) (A : Ar), v = vP ra ∧ L = [E3ba87 ra A false 0, E671ef A] ∧ (ArW c A 5000)) := by
  refine ctr_of (args := [cfgV c]) (fn := Tryz.f8) (body := B8) (nt := 109) Tryz.func8 (by kernel_rfl) (by kernel_rfl) ?_
  intro F
  refine go_exec (rs := [.tmp 2]) (by kernel_rfl) 4000 [.e 0, .z [0, 1] 1 [1, 6]] (o := .new fun b_1 => .obl (b_1 = b_1) (.stop [.o [0, 1] 1, .c [1, 1]] [(1, vP b_1), (6, cfgV c)] [Ee1539 b_1 c])) (by kernel_rfl) ?_
  refine ok_new fun b_1 => ?_
  refine ok_obl rfl ?_
  refine ok_stop ?_
  refine go_call (some 7) [] Tryz.call47 (ref_Size c (by first | assumption | omega | (simp only [InK] at *; omega))) (by kernel_rfl) ?_
  rintro v post ⟨rfl, rfl⟩
  refine go_call (some 8) [] Tryz.call46 (ref_New (sizeOfC c) (by have := sizeOfC_ok hc; omega)) (by kernel_rfl) ?_
  rintro v post ⟨ra_2, aw_3, cw_4, rfl, rfl⟩
  refine go_exec (rs := [.tmp 2]) (by kernel_rfl) 4000 [.e 1, .s 2, .j 2 0, .z [0, 1, 1, 1] 0 [1, 3]] (o := .obl (ra_2 = ra_2) (.obl (aw_3 = aw_3 ∧ (List.replicate (sizeOfC c).toNat (0 : Int)).length = (List.replicate (sizeOfC c).toNat (0 : Int)).length) (.obl ((0 : Int) ≤ 0 ∧ 0 < (((List.replicate (sizeOfC c).toNat (0 : Int)).length : Nat) : Int)) (.obl (slAt aw_3 0 1 = slAt aw_3 0 1) (.obl (0 < (List.replicate (sizeOfC c).toNat (0 : Int)).length) (.ex fun x_5 : Int => .obl ([vU 7597137583116413295] = (encI .u64) x_5) (.stop [.c [0, 1, 1, 1], .c [1, 1, 1, 1]] [(1, vP b_1), (3, vP ra_2)] [Ee1539 b_1 c, Ea7ba4 ra_2 aw_3 ((List.replicate (sizeOfC c).toNat (0 : Int)).length) cw_4 0 0 0 0 false false 0, E7a681 aw_3 cw_4 ((List.replicate (sizeOfC c).toNat (0 : Int)).set 0 x_5)]))))))) (by kernel_rfl) ?_
  refine ok_obl rfl ?_
  refine ok_obl ⟨rfl, (by first | rfl | omega | (simp; done) | (simp; omega))⟩ ?_
  refine ok_obl (by have := sizeOfC_ok hc; first | omega | (simp; omega) | (have hq := blockAt_ok hc (clsOf_pos (c := c) (b := i1.1) (by omega)); have h1 := hx1.2.1; have h2 := hx1.2.2.1; first | omega | (simp; omega))) ?_
  refine ok_obl rfl ?_
  refine ok_obl (by have := sizeOfC_ok hc; first | omega | (simp; omega) | (have hq := blockAt_ok hc (clsOf_pos (c := c) (b := i1.1) (by omega)); have h1 := hx1.2.1; have h2 := hx1.2.2.1; first | omega | (simp; omega))) ?_
  refine ok_ex (7597137583116413295 : Int) ?_
  refine ok_obl rfl ?_
  refine ok_stop ?_
  refine go_lz (by kernel_rfl) (by kernel_rfl) ?_
  refine lz_node (l' := (mk 8 [0, 1, 2, 3, 4])) (V' := [0, 1, 2, 3, 4]) (T1 := [(1, vP b_1), (3, vP ra_2), (14, vP ra_2), (15, vP ra_2), (16, vP ra_2), (17, .slice aw_3 ((List.replicate (sizeOfC c).toNat (0 : Int)).length) cw_4), (18, cfgV c)]) (ps := [ra_2 = ra_2, b_1 = b_1]) [0, 1, 2, 3, 4] [(0, .h .w), (1, .h .w), (2, .h .w), (3, .h (.e 1)), (4, .h (.e 0))] [1, 3, 14, 15, 16, 17, 18] [5] (by kernel_rfl) ⟨rfl, rfl, trivial⟩ ⟨?_, trivial⟩
  refine lz_call (l' := (mk 8 [0, 1, 2, 3, 4, 5])) (V' := [0, 1, 2, 3]) (some 19) [] Tryz.call48 (ref_Pack c (by first | assumption | omega | (simp only [InK] at *; omega))) (by kernel_rfl) ?_
  rintro v post ⟨w__5_1, rfl, rfl, hf_5_1⟩
  refine lz_node (l' := (mk 8 [0, 1, 2, 3, 4, 5, 6])) (V' := [0, 1, 2, 3, 6]) (T1 := [(19, vU w__5_1), (1, vP b_1), (3, vP ra_2), (14, vP ra_2), (15, vP ra_2), (16, vP ra_2), (17, .slice aw_3 ((List.replicate (sizeOfC c).toNat (0 : Int)).length) cw_4), (20, slAt aw_3 1 1)]) (ps := [ra_2 = ra_2, aw_3 = aw_3 ∧ (List.replicate (sizeOfC c).toNat (0 : Int)).length = ((List.replicate (sizeOfC c).toNat (0 : Int)).set 0 7597137583116413295).length, (0 : Int) ≤ 1 ∧ 1 < ((((List.replicate (sizeOfC c).toNat (0 : Int)).set 0 7597137583116413295).length : Nat) : Int)]) [6] [(0, .h .w), (1, .h .w), (2, .h .w), (3, .h (.e 1)), (6, .h (.s 2))] [19, 1, 3, 14, 15, 16, 17, 20] [7] (by kernel_rfl) ⟨rfl, ⟨rfl, (by first | rfl | omega | (simp; done) | (simp; omega))⟩, (by have := sizeOfC_ok hc; first | omega | (simp; omega) | (have hq := blockAt_ok hc (clsOf_pos (c := c) (b := i1.1) (by omega)); have h1 := hx1.2.1; have h2 := hx1.2.2.1; first | omega | (simp; omega))), trivial⟩ ⟨?_, trivial⟩
  refine lz_op (l' := (mk 8 [0, 1, 2, 3, 4, 5, 6, 7])) (V' := []) (so := .obl (slAt aw_3 1 1 = slAt aw_3 1 1) (.obl (1 < ((List.replicate (sizeOfC c).toNat (0 : Int)).set 0 7597137583116413295).length) (.ex fun x_7_1 : Int => .obl ([vU w__5_1] = (encI .u64) x_7_1) (.ok .skip [Ee1539 b_1 c, Ea7ba4 ra_2 aw_3 ((List.replicate (sizeOfC c).toNat (0 : Int)).length) cw_4 0 0 0 0 false false 0, E7a681 aw_3 cw_4 (((List.replicate (sizeOfC c).toNat (0 : Int)).set 0 7597137583116413295).set 1 x_7_1)])))) (dst := none) (.j 2 1) (by kernel_rfl) ?_
  refine sat_obl rfl ?_
  refine sat_obl (by have := sizeOfC_ok hc; first | omega | (simp; omega) | (have hq := blockAt_ok hc (clsOf_pos (c := c) (b := i1.1) (by omega)); have h1 := hx1.2.1; have h2 := hx1.2.2.1; first | omega | (simp; omega))) ?_
  refine sat_ex (w__5_1 : Int) ?_
  refine sat_obl rfl ?_
  refine sat_skip ?_
  refine lz_end (T1 := [(1, vP b_1), (3, vP ra_2)]) (ps := []) [] [] [1, 3] (by kernel_rfl) trivial ?_
  refine go_exec (rs := [.tmp 2]) (by kernel_rfl) 4000 [.w, .e 0, .sp [25] [.e 1, .s 2, .j 2 3, .w, .e 0, .sp [35] [.z q11_0 0 [1, 3]] [.z q11_1 0 [1, 3, 4]]] [.w, .e 0, .sp [35] [.z q11_0 0 [1, 3]] [.z q11_1 0 [1, 3, 4]]]] (o := .obl (b_1 = b_1) (.br (decide (c.n0 > 0)) (.obl (ra_2 = ra_2) (.obl (aw_3 = aw_3 ∧ (List.replicate (sizeOfC c).toNat (0 : Int)).length = (((List.replicate (sizeOfC c).toNat (0 : Int)).set 0 7597137583116413295).set 1 w__5_1).length) (.obl ((0 : Int) ≤ 3 ∧ 3 < (((((List.replicate (sizeOfC c).toNat (0 : Int)).set 0 7597137583116413295).set 1 w__5_1).length : Nat) : Int)) (.obl (slAt aw_3 3 1 = slAt aw_3 3 1) (.obl (3 < (((List.replicate (sizeOfC c).toNat (0 : Int)).set 0 7597137583116413295).set 1 w__5_1).length) (.ex fun x_10 : Int => .obl ([vU 1] = (encI .u64) x_10) (.obl (b_1 = b_1) (.br (decide (c.n1 > 0)) (.stop [.c q11_0, .c [1, 1, 1, 1, 1, 1]] [(1, vP b_1), (3, vP ra_2)] [Ee1539 b_1 c, Ea7ba4 ra_2 aw_3 ((List.replicate (sizeOfC c).toNat (0 : Int)).length) cw_4 0 0 0 0 false false 0, E7a681 aw_3 cw_4 ((((List.replicate (sizeOfC c).toNat (0 : Int)).set 0 7597137583116413295).set 1 w__5_1).set 3 x_10)]) (.stop [.c q11_1, .b 0, .c q11_2] [(1, vP b_1), (3, vP ra_2), (4, vI 1)] [Ee1539 b_1 c, Ea7ba4 ra_2 aw_3 ((List.replicate (sizeOfC c).toNat (0 : Int)).length) cw_4 0 0 0 0 false false 0, E7a681 aw_3 cw_4 ((((List.replicate (sizeOfC c).toNat (0 : Int)).set 0 7597137583116413295).set 1 w__5_1).set 3 x_10)]))))))))) (.obl (b_1 = b_1) (.br (decide (c.n1 > 0)) (.stop [.c q11_0, .c [1, 1, 1, 1, 1, 1]] [(1, vP b_1), (3, vP ra_2)] [Ee1539 b_1 c, Ea7ba4 ra_2 aw_3 ((List.replicate (sizeOfC c).toNat (0 : Int)).length) cw_4 0 0 0 0 false false 0, E7a681 aw_3 cw_4 (((List.replicate (sizeOfC c).toNat (0 : Int)).set 0 7597137583116413295).set 1 w__5_1)]) (.stop [.c q11_1, .b 0, .c q11_2] [(1, vP b_1), (3, vP ra_2), (4, vI 1)] [Ee1539 b_1 c, Ea7ba4 ra_2 aw_3 ((List.replicate (sizeOfC c).toNat (0 : Int)).length) cw_4 0 0 0 0 false false 0, E7a681 aw_3 cw_4 (((List.replicate (sizeOfC c).toNat (0 : Int)).set 0 7597137583116413295).set 1 w__5_1)]))))) (by kernel_rfl) ?_
  refine ok_obl rfl ?_
  refine ok_br (fun h_11 => ?_) (fun h_11 => ?_)
  · replace h_11 := decT h_11
    refine ok_obl rfl ?_
    refine ok_obl ⟨rfl, (by first | rfl | omega | (simp; done) | (simp; omega))⟩ ?_
    refine ok_obl (by have := sizeOfC_ok hc; first | omega | (simp; omega) | (have hq := blockAt_ok hc (clsOf_pos (c := c) (b := i1.1) (by omega)); have h1 := hx1.2.1; have h2 := hx1.2.2.1; first | omega | (simp; omega))) ?_
    refine ok_obl rfl ?_
    refine ok_obl (by have := sizeOfC_ok hc; first | omega | (simp; omega) | (have hq := blockAt_ok hc (clsOf_pos (c := c) (b := i1.1) (by omega)); have h1 := hx1.2.1; have h2 := hx1.2.2.1; first | omega | (simp; omega))) ?_
    refine ok_ex (1 : Int) ?_
    refine ok_obl rfl ?_
    refine ok_obl rfl ?_
    refine ok_br (fun h_12 => ?_) (fun h_12 => ?_)
    · replace h_12 := decT h_12
      refine ok_stop ?_
      refine go_tail_op (so := .obl (slAt aw_3 4 1 = slAt aw_3 4 1) (.obl (4 < ((((List.replicate (sizeOfC c).toNat (0 : Int)).set 0 7597137583116413295).set 1 w__5_1).set 3 1).length) (.ex fun x_13 : Int => .obl ([vU (c.n0 + 1)] = (encI .u64) x_13) (.ok .skip [Ee1539 b_1 c, Ea7ba4 ra_2 aw_3 ((List.replicate (sizeOfC c).toNat (0 : Int)).length) cw_4 0 0 0 0 false false 0, E7a681 aw_3 cw_4 (((((List.replicate (sizeOfC c).toNat (0 : Int)).set 0 7597137583116413295).set 1 w__5_1).set 3 1).set 4 x_13)])))) (dst := none) (ps := [ra_2 = ra_2, b_1 = b_1, InK .i64 (c.n0 + 1), InK .u64 (c.n0 + 1), aw_3 = aw_3 ∧ (List.replicate (sizeOfC c).toNat (0 : Int)).length = ((((List.replicate (sizeOfC c).toNat (0 : Int)).set 0 7597137583116413295).set 1 w__5_1).set 3 1).length, (0 : Int) ≤ 4 ∧ 4 < ((((((List.replicate (sizeOfC c).toNat (0 : Int)).set 0 7597137583116413295).set 1 w__5_1).set 3 1).length : Nat) : Int)]) (cs := []) [(0, .h .w), (1, .h .w), (2, .h .w), (3, .h (.e 1)), (4, .h .w), (5, .h (.w)), (6, .h .w), (7, .h (.e 0)), (8, .h (.n)), (9, .h (.n)), (10, .h (.s 2))] 11 [] (.j 2 4) [1, 3] (by kernel_rfl) (by kernel_rfl) ⟨rfl, rfl, (by have hsz := sizeOfC_ok hc; simp only [Cfg.Ok, InK] at *; first | done | omega), (by have hsz := sizeOfC_ok hc; simp only [Cfg.Ok, InK] at *; first | done | omega), ⟨rfl, (by first | rfl | omega | (simp; done) | (simp; omega))⟩, (by have := sizeOfC_ok hc; first | omega | (simp; omega) | (have hq := blockAt_ok hc (clsOf_pos (c := c) (b := i1.1) (by omega)); have h1 := hx1.2.1; have h2 := hx1.2.2.1; first | omega | (simp; omega))), trivial⟩ trivial ?_
      refine sat_obl rfl ?_
      refine sat_obl (by have := sizeOfC_ok hc; first | omega | (simp; omega) | (have hq := blockAt_ok hc (clsOf_pos (c := c) (b := i1.1) (by omega)); have h1 := hx1.2.1; have h2 := hx1.2.2.1; first | omega | (simp; omega))) ?_
      refine sat_ex ((c.n0 + 1) : Int) ?_
      refine sat_obl rfl ?_
      refine sat_skip ?_
      refine tail_next (tm' := [(1, vP b_1), (3, vP ra_2)]) (ps2 := []) (by kernel_rfl) trivial ?_
      refine go_exec (rs := [.tmp 2]) (by kernel_rfl) 4000 [.z q11_1 0 [1, 3, 4]] (o := .stop [.c q11_1, .b 0, .c q11_2] [(1, vP b_1), (3, vP ra_2), (4, vI 1)] [Ee1539 b_1 c, Ea7ba4 ra_2 aw_3 ((List.replicate (sizeOfC c).toNat (0 : Int)).length) cw_4 0 0 0 0 false false 0, E7a681 aw_3 cw_4 (((((List.replicate (sizeOfC c).toNat (0 : Int)).set 0 7597137583116413295).set 1 w__5_1).set 3 1).set 4 (c.n0 + 1))]) (by kernel_rfl) ?_
      refine ok_stop ?_
      refine go_loop (ι := Int × Ar) (fun i1 => [(1, vP b_1), (3, vP ra_2), (4, vI i1.1)]) (fun i1 => [Ee1539 b_1 c, E3ba87 ra_2 i1.2 false 0, E671ef i1.2]) (fun i1 => 1 ≤ i1.1 ∧ ArW c i1.2 0) (fun i1 => (c.n0 + c.n1 - i1.1).toNat) (1, (⟨aw_3, cw_4, (List.replicate (sizeOfC c).toNat (0 : Int)).length, ((((List.replicate (sizeOfC c).toNat (0 : Int)).set 0 7597137583116413295).set 1 w__5_1).set 3 1).set 4 (c.n0 + 1), 0, 0, 0, 0, false⟩ : Ar)) [1, 3, 4] [0, 1, 2] (by kernel_rfl) (by kernel_rfl) (by kernel_rfl) (by kernel_rfl) ⟨(by dsimp only; omega), (by refine ⟨(by simp), (by have := sizeOfC_ok hc; simp; omega), (by dsimp only; (repeat' first | exact rngW_rep _ | (refine rngW_set ?_ _ ?_)) <;> first | decide | omega | (simp only [Cfg.Ok] at hc; omega)), (by dsimp only; omega)⟩)⟩ ?_
      intro i1 J_14 hIJ_14 hJ_14
      have hx1 := hIJ_14
      have hn1 := hx1.2.1
      have hz1 := hx1.2.2.1
      refine go_exec (rs := [.tmp 2]) (by kernel_rfl) 4000 [.e 0, .z q11_3 2 [1, 3, 4, 47, 48]] (o := .obl (b_1 = b_1) (.stop [.o q11_3 2, .c q11_4, .c q11_5, .j J_14, .b 0, .c q11_2] [(1, vP b_1), (3, vP ra_2), (4, vI i1.1), (47, vI i1.1), (48, cfgV c)] [Ee1539 b_1 c, E3ba87 ra_2 i1.2 false 0, E671ef i1.2])) (by kernel_rfl) ?_
      refine ok_obl rfl ?_
      refine ok_stop ?_
      refine go_call (some 49) [] Tryz.call49 (ref_Blocks c (by first | assumption | omega | (simp only [InK] at *; omega))) (by kernel_rfl) ?_
      rintro v post ⟨rfl, rfl⟩
      refine go_exec (rs := [.tmp 2]) (by kernel_rfl) 4000 [.sp [50] [.z q11_6 0 [1, 3, 4]] [.z q11_7 0 [3, 5]]] (o := .br (decide (i1.1 < (c.n0 + c.n1))) (.stop [.c q11_6, .c q11_8, .b 1, .c q11_9, .j J_14, .b 0, .c q11_2] [(1, vP b_1), (3, vP ra_2), (4, vI i1.1)] [Ee1539 b_1 c, E3ba87 ra_2 i1.2 false 0, E671ef i1.2]) (.stop [.c q11_7, .b 2, .c q11_10] [(3, vP ra_2), (5, vI 0)] [Ee1539 b_1 c, E3ba87 ra_2 i1.2 false 0, E671ef i1.2])) (by kernel_rfl) ?_
      refine ok_br (fun h_15 => ?_) (fun h_15 => ?_)
      · replace h_15 := decT h_15
        refine ok_stop ?_
        refine go_quiet (tm' := [(1, vP b_1), (3, vP ra_2), (4, vI i1.1), (60, .bool ((clsOf c i1.1) == (clsOf c (i1.1 + 1))))]) (ps := [b_1 = b_1, b_1 = b_1, InK .i64 (i1.1 + 1)]) (cs := [(50, #[cfgV c, vI i1.1], vI (clsOf c i1.1)), (50, #[cfgV c, vI (i1.1 + 1)], vI (clsOf c (i1.1 + 1)))]) [(0, .h (.e 0)), (1, .h .w), (2, .q (vI (clsOf c i1.1))), (3, .h (.e 0)), (4, .h .w), (5, .h (.n)), (6, .q (vI (clsOf c (i1.1 + 1)))), (7, .h .w)] [1, 3, 4, 60] (by kernel_rfl) (by kernel_rfl) ⟨rfl, rfl, (by have hsz := sizeOfC_ok hc; simp only [Cfg.Ok, InK] at *; first | done | omega), trivial⟩ ⟨⟨Tryz.call50, quiet_of [] (ref_Class c i1.1 (by first | assumption | omega | (simp only [InK] at *; omega))) (by kernel_rfl) (by rintro v post ⟨rfl, rfl⟩; exact ⟨rfl, rfl⟩)⟩, ⟨Tryz.call50, quiet_of [] (ref_Class c (i1.1 + 1) (by first | assumption | omega | (simp only [InK] at *; omega))) (by kernel_rfl) (by rintro v post ⟨rfl, rfl⟩; exact ⟨rfl, rfl⟩)⟩, trivial⟩ ?_
        refine go_exec (rs := [.tmp 2]) (by kernel_rfl) 4000 [.sp [60] [.z q11_11 0 [1, 3, 4]] [.n, .z [] 0 [1, 3, 4]]] (o := .br ((clsOf c i1.1) == (clsOf c (i1.1 + 1))) (.stop [.c q11_11, .b 1, .c q11_9, .j J_14, .b 0, .c q11_2] [(1, vP b_1), (3, vP ra_2), (4, vI i1.1)] [Ee1539 b_1 c, E3ba87 ra_2 i1.2 false 0, E671ef i1.2]) (.obl (InK .i64 (i1.1 + 1)) (.stop [.j J_14, .b 0, .c q11_2] [(1, vP b_1), (3, vP ra_2), (4, vI (i1.1 + 1))] [Ee1539 b_1 c, E3ba87 ra_2 i1.2 false 0, E671ef i1.2]))) (by kernel_rfl) ?_
        refine ok_br (fun h_16 => ?_) (fun h_16 => ?_)
        · replace h_16 := beqT h_16
          refine ok_stop ?_
          refine go_tail_op (so := .obl (slAt i1.2.aw ((blockAt c i1.1).toNat) 1 = slAt i1.2.aw ((blockAt c i1.1).toNat) 1) (.obl ((blockAt c i1.1).toNat < i1.2.ws.length) (.ex fun x_17 : Int => .obl ([vU (i1.1 + 1)] = (encI .u64) x_17) (.ok .skip [Ee1539 b_1 c, E3ba87 ra_2 i1.2 false 0, E4b293 i1.2 (i1.2.ws.set ((blockAt c i1.1).toNat) x_17)])))) (dst := none) (ps := [ra_2 = ra_2, b_1 = b_1, InK .i64 (i1.1 + 1), InK .u64 (i1.1 + 1), i1.2.aw = i1.2.aw ∧ i1.2.n = i1.2.ws.length, (0 : Int) ≤ (blockAt c i1.1) ∧ (blockAt c i1.1) < ((i1.2.ws.length : Nat) : Int)]) (cs := [(51, #[cfgV c, vI i1.1], vI (blockAt c i1.1))]) [(0, .h .w), (1, .h .w), (2, .h .w), (3, .h (.e 1)), (4, .h (.e 0)), (5, .h .w), (6, .q (vI (blockAt c i1.1))), (7, .h .w), (8, .h (.n)), (9, .h (.n)), (10, .h (.s 2))] 11 [] (.j 2 ((blockAt c i1.1).toNat)) [1, 3, 4] (by kernel_rfl) (by kernel_rfl) ⟨rfl, rfl, (by have hsz := sizeOfC_ok hc; simp only [Cfg.Ok, InK] at *; first | done | omega), (by have hsz := sizeOfC_ok hc; simp only [Cfg.Ok, InK] at *; first | done | omega), ⟨rfl, (by first | rfl | omega | (simp; done) | (simp; omega))⟩, (by have := sizeOfC_ok hc; first | omega | (simp; omega) | (have hq := blockAt_ok hc (clsOf_pos (c := c) (b := i1.1) (by omega)); have h1 := hx1.2.1; have h2 := hx1.2.2.1; first | omega | (simp; omega))), trivial⟩ ⟨⟨Tryz.call51, quiet_of [] (ref_Block c i1.1 (by first | assumption | omega | (simp only [InK] at *; omega)) (by omega)) (by kernel_rfl) (by rintro v post ⟨rfl, rfl⟩; exact ⟨rfl, rfl⟩)⟩, trivial⟩ ?_
          refine sat_obl rfl ?_
          refine sat_obl (by have := sizeOfC_ok hc; first | omega | (simp; omega) | (have hq := blockAt_ok hc (clsOf_pos (c := c) (b := i1.1) (by omega)); have h1 := hx1.2.1; have h2 := hx1.2.2.1; first | omega | (simp; omega))) ?_
          refine sat_ex ((i1.1 + 1) : Int) ?_
          refine sat_obl rfl ?_
          refine sat_skip ?_
          refine tail_next (tm' := [(1, vP b_1), (3, vP ra_2), (4, vI i1.1)]) (ps2 := []) (by kernel_rfl) trivial ?_
          refine go_exec (rs := [.tmp 2]) (by kernel_rfl) 4000 [.n, .z [] 0 [1, 3, 4]] (o := .obl (InK .i64 (i1.1 + 1)) (.stop [.j J_14, .b 0, .c q11_2] [(1, vP b_1), (3, vP ra_2), (4, vI (i1.1 + 1))] [Ee1539 b_1 c, E3ba87 ra_2 i1.2 false 0, E4b293 i1.2 (i1.2.ws.set ((blockAt c i1.1).toNat) (i1.1 + 1))])) (by kernel_rfl) ?_
          refine ok_obl (by have hsz := sizeOfC_ok hc; simp only [Cfg.Ok, InK] at *; first | done | omega) ?_
          refine ok_stop ?_
          exact go_back hJ_14 ((i1.1 + 1), (⟨i1.2.aw, i1.2.cw, i1.2.n, i1.2.ws.set ((blockAt c i1.1).toNat) (i1.1 + 1), i1.2.steps, i1.2.lk, i1.2.lw, i1.2.lv, i1.2.lc⟩ : Ar)) [0, 1, 2] (by kernel_rfl) (by kernel_rfl) (by kernel_rfl) ⟨(by dsimp only; omega), (by first | exact hx1.2 | exact arW_set hx1.2 _ (by have hc2 := hc; simp only [Cfg.Ok] at hc2; omega))⟩ (by dsimp only; omega)
        · replace h_16 := beqF h_16
          refine ok_obl (by have hsz := sizeOfC_ok hc; simp only [Cfg.Ok, InK] at *; first | done | omega) ?_
          refine ok_stop ?_
          exact go_back hJ_14 ((i1.1 + 1), (⟨i1.2.aw, i1.2.cw, i1.2.n, i1.2.ws, i1.2.steps, i1.2.lk, i1.2.lw, i1.2.lv, i1.2.lc⟩ : Ar)) [0, 1, 2] (by kernel_rfl) (by kernel_rfl) (by kernel_rfl) ⟨(by dsimp only; omega), (by first | exact hx1.2 | exact arW_set hx1.2 _ (by have hc2 := hc; simp only [Cfg.Ok] at hc2; omega))⟩ (by dsimp only; omega)
      · replace h_15 := decF h_15
        refine ok_stop ?_
        refine go_loop (ι := Int × Ar) (fun i2 => [(3, vP ra_2), (5, vI i2.1)]) (fun i2 => [E3ba87 ra_2 i2.2 false 0, E671ef i2.2]) (fun i2 => (0 ≤ i2.1 ∧ i2.1 ≤ sizeOfC c) ∧ ArW c i2.2 i2.1) (fun i2 => (sizeOfC c - i2.1).toNat) (0, i1.2) [3, 5] [1, 2] (by kernel_rfl) (by kernel_rfl) (by kernel_rfl) (by kernel_rfl) ⟨(by have := sizeOfC_ok hc; dsimp only; omega), hx1.2⟩ ?_
        intro i2 J_18 hIJ_18 hJ_18
        have hx2 := hIJ_18
        have hn2 := hx2.2.1
        have hz2 := hx2.2.2.1
        have hs2 := hx2.2.2.2.2
        refine go_exec (rs := [.tmp 2]) (by kernel_rfl) 4000 [.e 0, .sp [78] [.e 0, .s 1, .j 1 i2.1.toNat, .sp [88] [.e 0, .n, .e 0, .e 0, .s 1, .j 1 i2.1.toNat, .e 0, .n, .z [] 0 [3, 5]] [.n, .z [] 0 [3, 5]]] []] (o := .obl (ra_2 = ra_2) (.br (decide (i2.1 < ((i2.2.n : Nat) : Int))) (.obl (ra_2 = ra_2) (.obl (i2.2.aw = i2.2.aw ∧ i2.2.n = i2.2.ws.length) (.obl ((0 : Int) ≤ i2.1 ∧ i2.1 < ((i2.2.ws.length : Nat) : Int)) (.obl (slAt i2.2.aw i2.1.toNat 1 = slAt i2.2.aw i2.1.toNat 1) (.obl (i2.1.toNat < i2.2.ws.length) (.br ((i2.2.ws.getD i2.1.toNat 0) != 0) (.obl (ra_2 = ra_2) (.obl (InK .i64 (i2.2.steps + 1)) (.obl (ra_2 = ra_2) (.obl (ra_2 = ra_2) (.obl (i2.2.aw = i2.2.aw ∧ i2.2.n = i2.2.ws.length) (.obl ((0 : Int) ≤ i2.1 ∧ i2.1 < ((i2.2.ws.length : Nat) : Int)) (.obl (slAt i2.2.aw i2.1.toNat 1 = slAt i2.2.aw i2.1.toNat 1) (.obl (i2.1.toNat < i2.2.ws.length) (.obl (ra_2 = ra_2) (.obl (InK .i64 (i2.1 + 1)) (.stop [.j J_18, .b 2, .c q11_10] [(3, vP ra_2), (5, vI (i2.1 + 1))] [Ea51e4 ra_2 i2.2 (i2.2.steps + 1) 2 i2.1 (i2.2.ws.getD i2.1.toNat 0) true false 0, E671ef i2.2]))))))))))) (.obl (InK .i64 (i2.1 + 1)) (.stop [.j J_18, .b 2, .c q11_10] [(3, vP ra_2), (5, vI (i2.1 + 1))] [E3ba87 ra_2 i2.2 false 0, E671ef i2.2])))))))) (.ret (vP ra_2) [E3ba87 ra_2 i2.2 false 0, E671ef i2.2]))) (by kernel_rfl) ?_
        refine ok_obl rfl ?_
        refine ok_br (fun h_19 => ?_) (fun h_19 => ?_)
        · replace h_19 := decT h_19
          refine ok_obl rfl ?_
          refine ok_obl ⟨rfl, (by first | rfl | omega | (simp; done) | (simp; omega))⟩ ?_
          refine ok_obl (by have := sizeOfC_ok hc; first | omega | (simp; omega) | (have hq := blockAt_ok hc (clsOf_pos (c := c) (b := i1.1) (by omega)); have h1 := hx1.2.1; have h2 := hx1.2.2.1; first | omega | (simp; omega))) ?_
          refine ok_obl rfl ?_
          refine ok_obl (by have := sizeOfC_ok hc; first | omega | (simp; omega) | (have hq := blockAt_ok hc (clsOf_pos (c := c) (b := i1.1) (by omega)); have h1 := hx1.2.1; have h2 := hx1.2.2.1; first | omega | (simp; omega))) ?_
          refine ok_br (fun h_20 => ?_) (fun h_20 => ?_)
          · replace h_20 := bneT h_20
            refine ok_obl rfl ?_
            refine ok_obl (by have hsz := sizeOfC_ok hc; simp only [Cfg.Ok, InK] at *; first | done | omega) ?_
            refine ok_obl rfl ?_
            refine ok_obl rfl ?_
            refine ok_obl ⟨rfl, (by first | rfl | omega | (simp; done) | (simp; omega))⟩ ?_
            refine ok_obl (by have := sizeOfC_ok hc; first | omega | (simp; omega) | (have hq := blockAt_ok hc (clsOf_pos (c := c) (b := i1.1) (by omega)); have h1 := hx1.2.1; have h2 := hx1.2.2.1; first | omega | (simp; omega))) ?_
            refine ok_obl rfl ?_
            refine ok_obl (by have := sizeOfC_ok hc; first | omega | (simp; omega) | (have hq := blockAt_ok hc (clsOf_pos (c := c) (b := i1.1) (by omega)); have h1 := hx1.2.1; have h2 := hx1.2.2.1; first | omega | (simp; omega))) ?_
            refine ok_obl rfl ?_
            refine ok_obl (by have hsz := sizeOfC_ok hc; simp only [Cfg.Ok, InK] at *; first | done | omega) ?_
            refine ok_stop ?_
            exact go_back hJ_18 ((i2.1 + 1), (⟨i2.2.aw, i2.2.cw, i2.2.n, i2.2.ws, (i2.2.steps + 1), 2, i2.1, (i2.2.ws.getD i2.1.toNat 0), true⟩ : Ar)) [0, 1] (by kernel_rfl) (by kernel_rfl) (by kernel_rfl) ⟨(by dsimp only; omega), (by have hq := hx2.2; exact ⟨hq.1, hq.2.1, hq.2.2.1, (by have hq4 := hq.2.2.2; first | omega | (dsimp only at *; omega))⟩)⟩ (by dsimp only; omega)
          · replace h_20 := bneF h_20
            refine ok_obl (by have hsz := sizeOfC_ok hc; simp only [Cfg.Ok, InK] at *; first | done | omega) ?_
            refine ok_stop ?_
            exact go_back hJ_18 ((i2.1 + 1), (⟨i2.2.aw, i2.2.cw, i2.2.n, i2.2.ws, i2.2.steps, i2.2.lk, i2.2.lw, i2.2.lv, i2.2.lc⟩ : Ar)) [0, 1] (by kernel_rfl) (by kernel_rfl) (by kernel_rfl) ⟨(by dsimp only; omega), (by have hq := hx2.2; exact ⟨hq.1, hq.2.1, hq.2.2.1, (by have hq4 := hq.2.2.2; first | omega | (dsimp only at *; omega))⟩)⟩ (by dsimp only; omega)
        · replace h_19 := decF h_19
          exact ret_ok (post := [E3ba87 ra_2 i2.2 false 0, E671ef i2.2]) [0, 1] (by kernel_rfl) ⟨ra_2, i2.2, rfl, rfl, (by have h1 := hx2; have := sizeOfC_ok hc; exact ⟨h1.2.1, h1.2.2.1, h1.2.2.2.1, (by have := h1.2.2.2.2; omega)⟩)⟩
    · replace h_12 := decF h_12
      refine ok_stop ?_
      refine go_loop (ι := Int × Ar) (fun i1 => [(1, vP b_1), (3, vP ra_2), (4, vI i1.1)]) (fun i1 => [Ee1539 b_1 c, E3ba87 ra_2 i1.2 false 0, E671ef i1.2]) (fun i1 => 1 ≤ i1.1 ∧ ArW c i1.2 0) (fun i1 => (c.n0 + c.n1 - i1.1).toNat) (1, (⟨aw_3, cw_4, (List.replicate (sizeOfC c).toNat (0 : Int)).length, (((List.replicate (sizeOfC c).toNat (0 : Int)).set 0 7597137583116413295).set 1 w__5_1).set 3 1, 0, 0, 0, 0, false⟩ : Ar)) [1, 3, 4] [0, 1, 2] (by kernel_rfl) (by kernel_rfl) (by kernel_rfl) (by kernel_rfl) ⟨(by dsimp only; omega), (by refine ⟨(by simp), (by have := sizeOfC_ok hc; simp; omega), (by dsimp only; (repeat' first | exact rngW_rep _ | (refine rngW_set ?_ _ ?_)) <;> first | decide | omega | (simp only [Cfg.Ok] at hc; omega)), (by dsimp only; omega)⟩)⟩ ?_
      intro i1 J_21 hIJ_21 hJ_21
      have hx1 := hIJ_21
      have hn1 := hx1.2.1
      have hz1 := hx1.2.2.1
      refine go_exec (rs := [.tmp 2]) (by kernel_rfl) 4000 [.e 0, .z q11_3 2 [1, 3, 4, 47, 48]] (o := .obl (b_1 = b_1) (.stop [.o q11_3 2, .c q11_4, .c q11_5, .j J_21, .b 0, .c q11_2] [(1, vP b_1), (3, vP ra_2), (4, vI i1.1), (47, vI i1.1), (48, cfgV c)] [Ee1539 b_1 c, E3ba87 ra_2 i1.2 false 0, E671ef i1.2])) (by kernel_rfl) ?_
      refine ok_obl rfl ?_
      refine ok_stop ?_
      refine go_call (some 49) [] Tryz.call49 (ref_Blocks c (by first | assumption | omega | (simp only [InK] at *; omega))) (by kernel_rfl) ?_
      rintro v post ⟨rfl, rfl⟩
      refine go_exec (rs := [.tmp 2]) (by kernel_rfl) 4000 [.sp [50] [.z q11_6 0 [1, 3, 4]] [.z q11_7 0 [3, 5]]] (o := .br (decide (i1.1 < (c.n0 + c.n1))) (.stop [.c q11_6, .c q11_8, .b 1, .c q11_9, .j J_21, .b 0, .c q11_2] [(1, vP b_1), (3, vP ra_2), (4, vI i1.1)] [Ee1539 b_1 c, E3ba87 ra_2 i1.2 false 0, E671ef i1.2]) (.stop [.c q11_7, .b 2, .c q11_10] [(3, vP ra_2), (5, vI 0)] [Ee1539 b_1 c, E3ba87 ra_2 i1.2 false 0, E671ef i1.2])) (by kernel_rfl) ?_
      refine ok_br (fun h_22 => ?_) (fun h_22 => ?_)
      · replace h_22 := decT h_22
        refine ok_stop ?_
        refine go_quiet (tm' := [(1, vP b_1), (3, vP ra_2), (4, vI i1.1), (60, .bool ((clsOf c i1.1) == (clsOf c (i1.1 + 1))))]) (ps := [b_1 = b_1, b_1 = b_1, InK .i64 (i1.1 + 1)]) (cs := [(50, #[cfgV c, vI i1.1], vI (clsOf c i1.1)), (50, #[cfgV c, vI (i1.1 + 1)], vI (clsOf c (i1.1 + 1)))]) [(0, .h (.e 0)), (1, .h .w), (2, .q (vI (clsOf c i1.1))), (3, .h (.e 0)), (4, .h .w), (5, .h (.n)), (6, .q (vI (clsOf c (i1.1 + 1)))), (7, .h .w)] [1, 3, 4, 60] (by kernel_rfl) (by kernel_rfl) ⟨rfl, rfl, (by have hsz := sizeOfC_ok hc; simp only [Cfg.Ok, InK] at *; first | done | omega), trivial⟩ ⟨⟨Tryz.call50, quiet_of [] (ref_Class c i1.1 (by first | assumption | omega | (simp only [InK] at *; omega))) (by kernel_rfl) (by rintro v post ⟨rfl, rfl⟩; exact ⟨rfl, rfl⟩)⟩, ⟨Tryz.call50, quiet_of [] (ref_Class c (i1.1 + 1) (by first | assumption | omega | (simp only [InK] at *; omega))) (by kernel_rfl) (by rintro v post ⟨rfl, rfl⟩; exact ⟨rfl, rfl⟩)⟩, trivial⟩ ?_
        refine go_exec (rs := [.tmp 2]) (by kernel_rfl) 4000 [.sp [60] [.z q11_11 0 [1, 3, 4]] [.n, .z [] 0 [1, 3, 4]]] (o := .br ((clsOf c i1.1) == (clsOf c (i1.1 + 1))) (.stop [.c q11_11, .b 1, .c q11_9, .j J_21, .b 0, .c q11_2] [(1, vP b_1), (3, vP ra_2), (4, vI i1.1)] [Ee1539 b_1 c, E3ba87 ra_2 i1.2 false 0, E671ef i1.2]) (.obl (InK .i64 (i1.1 + 1)) (.stop [.j J_21, .b 0, .c q11_2] [(1, vP b_1), (3, vP ra_2), (4, vI (i1.1 + 1))] [Ee1539 b_1 c, E3ba87 ra_2 i1.2 false 0, E671ef i1.2]))) (by kernel_rfl) ?_
        refine ok_br (fun h_23 => ?_) (fun h_23 => ?_)
        · replace h_23 := beqT h_23
          refine ok_stop ?_
          refine go_tail_op (so := .obl (slAt i1.2.aw ((blockAt c i1.1).toNat) 1 = slAt i1.2.aw ((blockAt c i1.1).toNat) 1) (.obl ((blockAt c i1.1).toNat < i1.2.ws.length) (.ex fun x_24 : Int => .obl ([vU (i1.1 + 1)] = (encI .u64) x_24) (.ok .skip [Ee1539 b_1 c, E3ba87 ra_2 i1.2 false 0, E4b293 i1.2 (i1.2.ws.set ((blockAt c i1.1).toNat) x_24)])))) (dst := none) (ps := [ra_2 = ra_2, b_1 = b_1, InK .i64 (i1.1 + 1), InK .u64 (i1.1 + 1), i1.2.aw = i1.2.aw ∧ i1.2.n = i1.2.ws.length, (0 : Int) ≤ (blockAt c i1.1) ∧ (blockAt c i1.1) < ((i1.2.ws.length : Nat) : Int)]) (cs := [(51, #[cfgV c, vI i1.1], vI (blockAt c i1.1))]) [(0, .h .w), (1, .h .w), (2, .h .w), (3, .h (.e 1)), (4, .h (.e 0)), (5, .h .w), (6, .q (vI (blockAt c i1.1))), (7, .h .w), (8, .h (.n)), (9, .h (.n)), (10, .h (.s 2))] 11 [] (.j 2 ((blockAt c i1.1).toNat)) [1, 3, 4] (by kernel_rfl) (by kernel_rfl) ⟨rfl, rfl, (by have hsz := sizeOfC_ok hc; simp only [Cfg.Ok, InK] at *; first | done | omega), (by have hsz := sizeOfC_ok hc; simp only [Cfg.Ok, InK] at *; first | done | omega), ⟨rfl, (by first | rfl | omega | (simp; done) | (simp; omega))⟩, (by have := sizeOfC_ok hc; first | omega | (simp; omega) | (have hq := blockAt_ok hc (clsOf_pos (c := c) (b := i1.1) (by omega)); have h1 := hx1.2.1; have h2 := hx1.2.2.1; first | omega | (simp; omega))), trivial⟩ ⟨⟨Tryz.call51, quiet_of [] (ref_Block c i1.1 (by first | assumption | omega | (simp only [InK] at *; omega)) (by omega)) (by kernel_rfl) (by rintro v post ⟨rfl, rfl⟩; exact ⟨rfl, rfl⟩)⟩, trivial⟩ ?_
          refine sat_obl rfl ?_
          refine sat_obl (by have := sizeOfC_ok hc; first | omega | (simp; omega) | (have hq := blockAt_ok hc (clsOf_pos (c := c) (b := i1.1) (by omega)); have h1 := hx1.2.1; have h2 := hx1.2.2.1; first | omega | (simp; omega))) ?_
          refine sat_ex ((i1.1 + 1) : Int) ?_
          refine sat_obl rfl ?_
          refine sat_skip ?_
          refine tail_next (tm' := [(1, vP b_1), (3, vP ra_2), (4, vI i1.1)]) (ps2 := []) (by kernel_rfl) trivial ?_
          refine go_exec (rs := [.tmp 2]) (by kernel_rfl) 4000 [.n, .z [] 0 [1, 3, 4]] (o := .obl (InK .i64 (i1.1 + 1)) (.stop [.j J_21, .b 0, .c q11_2] [(1, vP b_1), (3, vP ra_2), (4, vI (i1.1 + 1))] [Ee1539 b_1 c, E3ba87 ra_2 i1.2 false 0, E4b293 i1.2 (i1.2.ws.set ((blockAt c i1.1).toNat) (i1.1 + 1))])) (by kernel_rfl) ?_
          refine ok_obl (by have hsz := sizeOfC_ok hc; simp only [Cfg.Ok, InK] at *; first | done | omega) ?_
          refine ok_stop ?_
          exact go_back hJ_21 ((i1.1 + 1), (⟨i1.2.aw, i1.2.cw, i1.2.n, i1.2.ws.set ((blockAt c i1.1).toNat) (i1.1 + 1), i1.2.steps, i1.2.lk, i1.2.lw, i1.2.lv, i1.2.lc⟩ : Ar)) [0, 1, 2] (by kernel_rfl) (by kernel_rfl) (by kernel_rfl) ⟨(by dsimp only; omega), (by first | exact hx1.2 | exact arW_set hx1.2 _ (by have hc2 := hc; simp only [Cfg.Ok] at hc2; omega))⟩ (by dsimp only; omega)
        · replace h_23 := beqF h_23
          refine ok_obl (by have hsz := sizeOfC_ok hc; simp only [Cfg.Ok, InK] at *; first | done | omega) ?_
          refine ok_stop ?_
          exact go_back hJ_21 ((i1.1 + 1), (⟨i1.2.aw, i1.2.cw, i1.2.n, i1.2.ws, i1.2.steps, i1.2.lk, i1.2.lw, i1.2.lv, i1.2.lc⟩ : Ar)) [0, 1, 2] (by kernel_rfl) (by kernel_rfl) (by kernel_rfl) ⟨(by dsimp only; omega), (by first | exact hx1.2 | exact arW_set hx1.2 _ (by have hc2 := hc; simp only [Cfg.Ok] at hc2; omega))⟩ (by dsimp only; omega)
      · replace h_22 := decF h_22
        refine ok_stop ?_
        refine go_loop (ι := Int × Ar) (fun i2 => [(3, vP ra_2), (5, vI i2.1)]) (fun i2 => [E3ba87 ra_2 i2.2 false 0, E671ef i2.2]) (fun i2 => (0 ≤ i2.1 ∧ i2.1 ≤ sizeOfC c) ∧ ArW c i2.2 i2.1) (fun i2 => (sizeOfC c - i2.1).toNat) (0, i1.2) [3, 5] [1, 2] (by kernel_rfl) (by kernel_rfl) (by kernel_rfl) (by kernel_rfl) ⟨(by have := sizeOfC_ok hc; dsimp only; omega), hx1.2⟩ ?_
        intro i2 J_25 hIJ_25 hJ_25
        have hx2 := hIJ_25
        have hn2 := hx2.2.1
        have hz2 := hx2.2.2.1
        have hs2 := hx2.2.2.2.2
        refine go_exec (rs := [.tmp 2]) (by kernel_rfl) 4000 [.e 0, .sp [78] [.e 0, .s 1, .j 1 i2.1.toNat, .sp [88] [.e 0, .n, .e 0, .e 0, .s 1, .j 1 i2.1.toNat, .e 0, .n, .z [] 0 [3, 5]] [.n, .z [] 0 [3, 5]]] []] (o := .obl (ra_2 = ra_2) (.br (decide (i2.1 < ((i2.2.n : Nat) : Int))) (.obl (ra_2 = ra_2) (.obl (i2.2.aw = i2.2.aw ∧ i2.2.n = i2.2.ws.length) (.obl ((0 : Int) ≤ i2.1 ∧ i2.1 < ((i2.2.ws.length : Nat) : Int)) (.obl (slAt i2.2.aw i2.1.toNat 1 = slAt i2.2.aw i2.1.toNat 1) (.obl (i2.1.toNat < i2.2.ws.length) (.br ((i2.2.ws.getD i2.1.toNat 0) != 0) (.obl (ra_2 = ra_2) (.obl (InK .i64 (i2.2.steps + 1)) (.obl (ra_2 = ra_2) (.obl (ra_2 = ra_2) (.obl (i2.2.aw = i2.2.aw ∧ i2.2.n = i2.2.ws.length) (.obl ((0 : Int) ≤ i2.1 ∧ i2.1 < ((i2.2.ws.length : Nat) : Int)) (.obl (slAt i2.2.aw i2.1.toNat 1 = slAt i2.2.aw i2.1.toNat 1) (.obl (i2.1.toNat < i2.2.ws.length) (.obl (ra_2 = ra_2) (.obl (InK .i64 (i2.1 + 1)) (.stop [.j J_25, .b 2, .c q11_10] [(3, vP ra_2), (5, vI (i2.1 + 1))] [Ea51e4 ra_2 i2.2 (i2.2.steps + 1) 2 i2.1 (i2.2.ws.getD i2.1.toNat 0) true false 0, E671ef i2.2]))))))))))) (.obl (InK .i64 (i2.1 + 1)) (.stop [.j J_25, .b 2, .c q11_10] [(3, vP ra_2), (5, vI (i2.1 + 1))] [E3ba87 ra_2 i2.2 false 0, E671ef i2.2])))))))) (.ret (vP ra_2) [E3ba87 ra_2 i2.2 false 0, E671ef i2.2]))) (by kernel_rfl) ?_
        refine ok_obl rfl ?_
        refine ok_br (fun h_26 => ?_) (fun h_26 => ?_)
        · replace h_26 := decT h_26
          refine ok_obl rfl ?_
          refine ok_obl ⟨rfl, (by first | rfl | omega | (simp; done) | (simp; omega))⟩ ?_
          refine ok_obl (by have := sizeOfC_ok hc; first | omega | (simp; omega) | (have hq := blockAt_ok hc (clsOf_pos (c := c) (b := i1.1) (by omega)); have h1 := hx1.2.1; have h2 := hx1.2.2.1; first | omega | (simp; omega))) ?_
          refine ok_obl rfl ?_
          refine ok_obl (by have := sizeOfC_ok hc; first | omega | (simp; omega) | (have hq := blockAt_ok hc (clsOf_pos (c := c) (b := i1.1) (by omega)); have h1 := hx1.2.1; have h2 := hx1.2.2.1; first | omega | (simp; omega))) ?_
          refine ok_br (fun h_27 => ?_) (fun h_27 => ?_)
          · replace h_27 := bneT h_27
            refine ok_obl rfl ?_
            refine ok_obl (by have hsz := sizeOfC_ok hc; simp only [Cfg.Ok, InK] at *; first | done | omega) ?_
            refine ok_obl rfl ?_
            refine ok_obl rfl ?_
            refine ok_obl ⟨rfl, (by first | rfl | omega | (simp; done) | (simp; omega))⟩ ?_
            refine ok_obl (by have := sizeOfC_ok hc; first | omega | (simp; omega) | (have hq := blockAt_ok hc (clsOf_pos (c := c) (b := i1.1) (by omega)); have h1 := hx1.2.1; have h2 := hx1.2.2.1; first | omega | (simp; omega))) ?_
            refine ok_obl rfl ?_
            refine ok_obl (by have := sizeOfC_ok hc; first | omega | (simp; omega) | (have hq := blockAt_ok hc (clsOf_pos (c := c) (b := i1.1) (by omega)); have h1 := hx1.2.1; have h2 := hx1.2.2.1; first | omega | (simp; omega))) ?_
            refine ok_obl rfl ?_
            refine ok_obl (by have hsz := sizeOfC_ok hc; simp only [Cfg.Ok, InK] at *; first | done | omega) ?_
            refine ok_stop ?_
            exact go_back hJ_25 ((i2.1 + 1), (⟨i2.2.aw, i2.2.cw, i2.2.n, i2.2.ws, (i2.2.steps + 1), 2, i2.1, (i2.2.ws.getD i2.1.toNat 0), true⟩ : Ar)) [0, 1] (by kernel_rfl) (by kernel_rfl) (by kernel_rfl) ⟨(by dsimp only; omega), (by have hq := hx2.2; exact ⟨hq.1, hq.2.1, hq.2.2.1, (by have hq4 := hq.2.2.2; first | omega | (dsimp only at *; omega))⟩)⟩ (by dsimp only; omega)
          · replace h_27 := bneF h_27
            refine ok_obl (by have hsz := sizeOfC_ok hc; simp only [Cfg.Ok, InK] at *; first | done | omega) ?_
            refine ok_stop ?_
            exact go_back hJ_25 ((i2.1 + 1), (⟨i2.2.aw, i2.2.cw, i2.2.n, i2.2.ws, i2.2.steps, i2.2.lk, i2.2.lw, i2.2.lv, i2.2.lc⟩ : Ar)) [0, 1] (by kernel_rfl) (by kernel_rfl) (by kernel_rfl) ⟨(by dsimp only; omega), (by have hq := hx2.2; exact ⟨hq.1, hq.2.1, hq.2.2.1, (by have hq4 := hq.2.2.2; first | omega | (dsimp only at *; omega))⟩)⟩ (by dsimp only; omega)
        · replace h_26 := decF h_26
          exact ret_ok (post := [E3ba87 ra_2 i2.2 false 0, E671ef i2.2]) [0, 1] (by kernel_rfl) ⟨ra_2, i2.2, rfl, rfl, (by have h1 := hx2; have := sizeOfC_ok hc; exact ⟨h1.2.1, h1.2.2.1, h1.2.2.2.1, (by have := h1.2.2.2.2; omega)⟩)⟩
  · replace h_11 := decF h_11
    refine ok_obl rfl ?_
    refine ok_br (fun h_28 => ?_) (fun h_28 => ?_)
    · replace h_28 := decT h_28
      refine ok_stop ?_
      refine go_tail_op (so := .obl (slAt aw_3 4 1 = slAt aw_3 4 1) (.obl (4 < (((List.replicate (sizeOfC c).toNat (0 : Int)).set 0 7597137583116413295).set 1 w__5_1).length) (.ex fun x_29 : Int => .obl ([vU (c.n0 + 1)] = (encI .u64) x_29) (.ok .skip [Ee1539 b_1 c, Ea7ba4 ra_2 aw_3 ((List.replicate (sizeOfC c).toNat (0 : Int)).length) cw_4 0 0 0 0 false false 0, E7a681 aw_3 cw_4 ((((List.replicate (sizeOfC c).toNat (0 : Int)).set 0 7597137583116413295).set 1 w__5_1).set 4 x_29)])))) (dst := none) (ps := [ra_2 = ra_2, b_1 = b_1, InK .i64 (c.n0 + 1), InK .u64 (c.n0 + 1), aw_3 = aw_3 ∧ (List.replicate (sizeOfC c).toNat (0 : Int)).length = (((List.replicate (sizeOfC c).toNat (0 : Int)).set 0 7597137583116413295).set 1 w__5_1).length, (0 : Int) ≤ 4 ∧ 4 < (((((List.replicate (sizeOfC c).toNat (0 : Int)).set 0 7597137583116413295).set 1 w__5_1).length : Nat) : Int)]) (cs := []) [(0, .h .w), (1, .h .w), (2, .h .w), (3, .h (.e 1)), (4, .h .w), (5, .h (.w)), (6, .h .w), (7, .h (.e 0)), (8, .h (.n)), (9, .h (.n)), (10, .h (.s 2))] 11 [] (.j 2 4) [1, 3] (by kernel_rfl) (by kernel_rfl) ⟨rfl, rfl, (by have hsz := sizeOfC_ok hc; simp only [Cfg.Ok, InK] at *; first | done | omega), (by have hsz := sizeOfC_ok hc; simp only [Cfg.Ok, InK] at *; first | done | omega), ⟨rfl, (by first | rfl | omega | (simp; done) | (simp; omega))⟩, (by have := sizeOfC_ok hc; first | omega | (simp; omega) | (have hq := blockAt_ok hc (clsOf_pos (c := c) (b := i1.1) (by omega)); have h1 := hx1.2.1; have h2 := hx1.2.2.1; first | omega | (simp; omega))), trivial⟩ trivial ?_
      refine sat_obl rfl ?_
      refine sat_obl (by have := sizeOfC_ok hc; first | omega | (simp; omega) | (have hq := blockAt_ok hc (clsOf_pos (c := c) (b := i1.1) (by omega)); have h1 := hx1.2.1; have h2 := hx1.2.2.1; first | omega | (simp; omega))) ?_
      refine sat_ex ((c.n0 + 1) : Int) ?_
      refine sat_obl rfl ?_
      refine sat_skip ?_
      refine tail_next (tm' := [(1, vP b_1), (3, vP ra_2)]) (ps2 := []) (by kernel_rfl) trivial ?_
      refine go_exec (rs := [.tmp 2]) (by kernel_rfl) 4000 [.z q11_1 0 [1, 3, 4]] (o := .stop [.c q11_1, .b 0, .c q11_2] [(1, vP b_1), (3, vP ra_2), (4, vI 1)] [Ee1539 b_1 c, Ea7ba4 ra_2 aw_3 ((List.replicate (sizeOfC c).toNat (0 : Int)).length) cw_4 0 0 0 0 false false 0, E7a681 aw_3 cw_4 ((((List.replicate (sizeOfC c).toNat (0 : Int)).set 0 7597137583116413295).set 1 w__5_1).set 4 (c.n0 + 1))]) (by kernel_rfl) ?_
      refine ok_stop ?_
      refine go_loop (ι := Int × Ar) (fun i1 => [(1, vP b_1), (3, vP ra_2), (4, vI i1.1)]) (fun i1 => [Ee1539 b_1 c, E3ba87 ra_2 i1.2 false 0, E671ef i1.2]) (fun i1 => 1 ≤ i1.1 ∧ ArW c i1.2 0) (fun i1 => (c.n0 + c.n1 - i1.1).toNat) (1, (⟨aw_3, cw_4, (List.replicate (sizeOfC c).toNat (0 : Int)).length, (((List.replicate (sizeOfC c).toNat (0 : Int)).set 0 7597137583116413295).set 1 w__5_1).set 4 (c.n0 + 1), 0, 0, 0, 0, false⟩ : Ar)) [1, 3, 4] [0, 1, 2] (by kernel_rfl) (by kernel_rfl) (by kernel_rfl) (by kernel_rfl) ⟨(by dsimp only; omega), (by refine ⟨(by simp), (by have := sizeOfC_ok hc; simp; omega), (by dsimp only; (repeat' first | exact rngW_rep _ | (refine rngW_set ?_ _ ?_)) <;> first | decide | omega | (simp only [Cfg.Ok] at hc; omega)), (by dsimp only; omega)⟩)⟩ ?_
      intro i1 J_30 hIJ_30 hJ_30
      have hx1 := hIJ_30
      have hn1 := hx1.2.1
      have hz1 := hx1.2.2.1
      refine go_exec (rs := [.tmp 2]) (by kernel_rfl) 4000 [.e 0, .z q11_3 2 [1, 3, 4, 47, 48]] (o := .obl (b_1 = b_1) (.stop [.o q11_3 2, .c q11_4, .c q11_5, .j J_30, .b 0, .c q11_2] [(1, vP b_1), (3, vP ra_2), (4, vI i1.1), (47, vI i1.1), (48, cfgV c)] [Ee1539 b_1 c, E3ba87 ra_2 i1.2 false 0, E671ef i1.2])) (by kernel_rfl) ?_
      refine ok_obl rfl ?_
      refine ok_stop ?_
      refine go_call (some 49) [] Tryz.call49 (ref_Blocks c (by first | assumption | omega | (simp only [InK] at *; omega))) (by kernel_rfl) ?_
      rintro v post ⟨rfl, rfl⟩
      refine go_exec (rs := [.tmp 2]) (by kernel_rfl) 4000 [.sp [50] [.z q11_6 0 [1, 3, 4]] [.z q11_7 0 [3, 5]]] (o := .br (decide (i1.1 < (c.n0 + c.n1))) (.stop [.c q11_6, .c q11_8, .b 1, .c q11_9, .j J_30, .b 0, .c q11_2] [(1, vP b_1), (3, vP ra_2), (4, vI i1.1)] [Ee1539 b_1 c, E3ba87 ra_2 i1.2 false 0, E671ef i1.2]) (.stop [.c q11_7, .b 2, .c q11_10] [(3, vP ra_2), (5, vI 0)] [Ee1539 b_1 c, E3ba87 ra_2 i1.2 false 0, E671ef i1.2])) (by kernel_rfl) ?_
      refine ok_br (fun h_31 => ?_) (fun h_31 => ?_)
      · replace h_31 := decT h_31
        refine ok_stop ?_
        refine go_quiet (tm' := [(1, vP b_1), (3, vP ra_2), (4, vI i1.1), (60, .bool ((clsOf c i1.1) == (clsOf c (i1.1 + 1))))]) (ps := [b_1 = b_1, b_1 = b_1, InK .i64 (i1.1 + 1)]) (cs := [(50, #[cfgV c, vI i1.1], vI (clsOf c i1.1)), (50, #[cfgV c, vI (i1.1 + 1)], vI (clsOf c (i1.1 + 1)))]) [(0, .h (.e 0)), (1, .h .w), (2, .q (vI (clsOf c i1.1))), (3, .h (.e 0)), (4, .h .w), (5, .h (.n)), (6, .q (vI (clsOf c (i1.1 + 1)))), (7, .h .w)] [1, 3, 4, 60] (by kernel_rfl) (by kernel_rfl) ⟨rfl, rfl, (by have hsz := sizeOfC_ok hc; simp only [Cfg.Ok, InK] at *; first | done | omega), trivial⟩ ⟨⟨Tryz.call50, quiet_of [] (ref_Class c i1.1 (by first | assumption | omega | (simp only [InK] at *; omega))) (by kernel_rfl) (by rintro v post ⟨rfl, rfl⟩; exact ⟨rfl, rfl⟩)⟩, ⟨Tryz.call50, quiet_of [] (ref_Class c (i1.1 + 1) (by first | assumption | omega | (simp only [InK] at *; omega))) (by kernel_rfl) (by rintro v post ⟨rfl, rfl⟩; exact ⟨rfl, rfl⟩)⟩, trivial⟩ ?_
        refine go_exec (rs := [.tmp 2]) (by kernel_rfl) 4000 [.sp [60] [.z q11_11 0 [1, 3, 4]] [.n, .z [] 0 [1, 3, 4]]] (o := .br ((clsOf c i1.1) == (clsOf c (i1.1 + 1))) (.stop [.c q11_11, .b 1, .c q11_9, .j J_30, .b 0, .c q11_2] [(1, vP b_1), (3, vP ra_2), (4, vI i1.1)] [Ee1539 b_1 c, E3ba87 ra_2 i1.2 false 0, E671ef i1.2]) (.obl (InK .i64 (i1.1 + 1)) (.stop [.j J_30, .b 0, .c q11_2] [(1, vP b_1), (3, vP ra_2), (4, vI (i1.1 + 1))] [Ee1539 b_1 c, E3ba87 ra_2 i1.2 false 0, E671ef i1.2]))) (by kernel_rfl) ?_
        refine ok_br (fun h_32 => ?_) (fun h_32 => ?_)
        · replace h_32 := beqT h_32
          refine ok_stop ?_
          refine go_tail_op (so := .obl (slAt i1.2.aw ((blockAt c i1.1).toNat) 1 = slAt i1.2.aw ((blockAt c i1.1).toNat) 1) (.obl ((blockAt c i1.1).toNat < i1.2.ws.length) (.ex fun x_33 : Int => .obl ([vU (i1.1 + 1)] = (encI .u64) x_33) (.ok .skip [Ee1539 b_1 c, E3ba87 ra_2 i1.2 false 0, E4b293 i1.2 (i1.2.ws.set ((blockAt c i1.1).toNat) x_33)])))) (dst := none) (ps := [ra_2 = ra_2, b_1 = b_1, InK .i64 (i1.1 + 1), InK .u64 (i1.1 + 1), i1.2.aw = i1.2.aw ∧ i1.2.n = i1.2.ws.length, (0 : Int) ≤ (blockAt c i1.1) ∧ (blockAt c i1.1) < ((i1.2.ws.length : Nat) : Int)]) (cs := [(51, #[cfgV c, vI i1.1], vI (blockAt c i1.1))]) [(0, .h .w), (1, .h .w), (2, .h .w), (3, .h (.e 1)), (4, .h (.e 0)), (5, .h .w), (6, .q (vI (blockAt c i1.1))), (7, .h .w), (8, .h (.n)), (9, .h (.n)), (10, .h (.s 2))] 11 [] (.j 2 ((blockAt c i1.1).toNat)) [1, 3, 4] (by kernel_rfl) (by kernel_rfl) ⟨rfl, rfl, (by have hsz := sizeOfC_ok hc; simp only [Cfg.Ok, InK] at *; first | done | omega), (by have hsz := sizeOfC_ok hc; simp only [Cfg.Ok, InK] at *; first | done | omega), ⟨rfl, (by first | rfl | omega | (simp; done) | (simp; omega))⟩, (by have := sizeOfC_ok hc; first | omega | (simp; omega) | (have hq := blockAt_ok hc (clsOf_pos (c := c) (b := i1.1) (by omega)); have h1 := hx1.2.1; have h2 := hx1.2.2.1; first | omega | (simp; omega))), trivial⟩ ⟨⟨Tryz.call51, quiet_of [] (ref_Block c i1.1 (by first | assumption | omega | (simp only [InK] at *; omega)) (by omega)) (by kernel_rfl) (by rintro v post ⟨rfl, rfl⟩; exact ⟨rfl, rfl⟩)⟩, trivial⟩ ?_
          refine sat_obl rfl ?_
          refine sat_obl (by have := sizeOfC_ok hc; first | omega | (simp; omega) | (have hq := blockAt_ok hc (clsOf_pos (c := c) (b := i1.1) (by omega)); have h1 := hx1.2.1; have h2 := hx1.2.2.1; first | omega | (simp; omega))) ?_
          refine sat_ex ((i1.1 + 1) : Int) ?_
          refine sat_obl rfl ?_
          refine sat_skip ?_
          refine tail_next (tm' := [(1, vP b_1), (3, vP ra_2), (4, vI i1.1)]) (ps2 := []) (by kernel_rfl) trivial ?_
          refine go_exec (rs := [.tmp 2]) (by kernel_rfl) 4000 [.n, .z [] 0 [1, 3, 4]] (o := .obl (InK .i64 (i1.1 + 1)) (.stop [.j J_30, .b 0, .c q11_2] [(1, vP b_1), (3, vP ra_2), (4, vI (i1.1 + 1))] [Ee1539 b_1 c, E3ba87 ra_2 i1.2 false 0, E4b293 i1.2 (i1.2.ws.set ((blockAt c i1.1).toNat) (i1.1 + 1))])) (by kernel_rfl) ?_
          refine ok_obl (by have hsz := sizeOfC_ok hc; simp only [Cfg.Ok, InK] at *; first | done | omega) ?_
          refine ok_stop ?_
          exact go_back hJ_30 ((i1.1 + 1), (⟨i1.2.aw, i1.2.cw, i1.2.n, i1.2.ws.set ((blockAt c i1.1).toNat) (i1.1 + 1), i1.2.steps, i1.2.lk, i1.2.lw, i1.2.lv, i1.2.lc⟩ : Ar)) [0, 1, 2] (by kernel_rfl) (by kernel_rfl) (by kernel_rfl) ⟨(by dsimp only; omega), (by first | exact hx1.2 | exact arW_set hx1.2 _ (by have hc2 := hc; simp only [Cfg.Ok] at hc2; omega))⟩ (by dsimp only; omega)
        · replace h_32 := beqF h_32
          refine ok_obl (by have hsz := sizeOfC_ok hc; simp only [Cfg.Ok, InK] at *; first | done | omega) ?_
          refine ok_stop ?_
          exact go_back hJ_30 ((i1.1 + 1), (⟨i1.2.aw, i1.2.cw, i1.2.n, i1.2.ws, i1.2.steps, i1.2.lk, i1.2.lw, i1.2.lv, i1.2.lc⟩ : Ar)) [0, 1, 2] (by kernel_rfl) (by kernel_rfl) (by kernel_rfl) ⟨(by dsimp only; omega), (by first | exact hx1.2 | exact arW_set hx1.2 _ (by have hc2 := hc; simp only [Cfg.Ok] at hc2; omega))⟩ (by dsimp only; omega)
      · replace h_31 := decF h_31
        refine ok_stop ?_
        refine go_loop (ι := Int × Ar) (fun i2 => [(3, vP ra_2), (5, vI i2.1)]) (fun i2 => [E3ba87 ra_2 i2.2 false 0, E671ef i2.2]) (fun i2 => (0 ≤ i2.1 ∧ i2.1 ≤ sizeOfC c) ∧ ArW c i2.2 i2.1) (fun i2 => (sizeOfC c - i2.1).toNat) (0, i1.2) [3, 5] [1, 2] (by kernel_rfl) (by kernel_rfl) (by kernel_rfl) (by kernel_rfl) ⟨(by have := sizeOfC_ok hc; dsimp only; omega), hx1.2⟩ ?_
        intro i2 J_34 hIJ_34 hJ_34
        have hx2 := hIJ_34
        have hn2 := hx2.2.1
        have hz2 := hx2.2.2.1
        have hs2 := hx2.2.2.2.2
        refine go_exec (rs := [.tmp 2]) (by kernel_rfl) 4000 [.e 0, .sp [78] [.e 0, .s 1, .j 1 i2.1.toNat, .sp [88] [.e 0, .n, .e 0, .e 0, .s 1, .j 1 i2.1.toNat, .e 0, .n, .z [] 0 [3, 5]] [.n, .z [] 0 [3, 5]]] []] (o := .obl (ra_2 = ra_2) (.br (decide (i2.1 < ((i2.2.n : Nat) : Int))) (.obl (ra_2 = ra_2) (.obl (i2.2.aw = i2.2.aw ∧ i2.2.n = i2.2.ws.length) (.obl ((0 : Int) ≤ i2.1 ∧ i2.1 < ((i2.2.ws.length : Nat) : Int)) (.obl (slAt i2.2.aw i2.1.toNat 1 = slAt i2.2.aw i2.1.toNat 1) (.obl (i2.1.toNat < i2.2.ws.length) (.br ((i2.2.ws.getD i2.1.toNat 0) != 0) (.obl (ra_2 = ra_2) (.obl (InK .i64 (i2.2.steps + 1)) (.obl (ra_2 = ra_2) (.obl (ra_2 = ra_2) (.obl (i2.2.aw = i2.2.aw ∧ i2.2.n = i2.2.ws.length) (.obl ((0 : Int) ≤ i2.1 ∧ i2.1 < ((i2.2.ws.length : Nat) : Int)) (.obl (slAt i2.2.aw i2.1.toNat 1 = slAt i2.2.aw i2.1.toNat 1) (.obl (i2.1.toNat < i2.2.ws.length) (.obl (ra_2 = ra_2) (.obl (InK .i64 (i2.1 + 1)) (.stop [.j J_34, .b 2, .c q11_10] [(3, vP ra_2), (5, vI (i2.1 + 1))] [Ea51e4 ra_2 i2.2 (i2.2.steps + 1) 2 i2.1 (i2.2.ws.getD i2.1.toNat 0) true false 0, E671ef i2.2]))))))))))) (.obl (InK .i64 (i2.1 + 1)) (.stop [.j J_34, .b 2, .c q11_10] [(3, vP ra_2), (5, vI (i2.1 + 1))] [E3ba87 ra_2 i2.2 false 0, E671ef i2.2])))))))) (.ret (vP ra_2) [E3ba87 ra_2 i2.2 false 0, E671ef i2.2]))) (by kernel_rfl) ?_
        refine ok_obl rfl ?_
        refine ok_br (fun h_35 => ?_) (fun h_35 => ?_)
        · replace h_35 := decT h_35
          refine ok_obl rfl ?_
          refine ok_obl ⟨rfl, (by first | rfl | omega | (simp; done) | (simp; omega))⟩ ?_
          refine ok_obl (by have := sizeOfC_ok hc; first | omega | (simp; omega) | (have hq := blockAt_ok hc (clsOf_pos (c := c) (b := i1.1) (by omega)); have h1 := hx1.2.1; have h2 := hx1.2.2.1; first | omega | (simp; omega))) ?_
          refine ok_obl rfl ?_
          refine ok_obl (by have := sizeOfC_ok hc; first | omega | (simp; omega) | (have hq := blockAt_ok hc (clsOf_pos (c := c) (b := i1.1) (by omega)); have h1 := hx1.2.1; have h2 := hx1.2.2.1; first | omega | (simp; omega))) ?_
          refine ok_br (fun h_36 => ?_) (fun h_36 => ?_)
          · replace h_36 := bneT h_36
            refine ok_obl rfl ?_
            refine ok_obl (by have hsz := sizeOfC_ok hc; simp only [Cfg.Ok, InK] at *; first | done | omega) ?_
            refine ok_obl rfl ?_
            refine ok_obl rfl ?_
            refine ok_obl ⟨rfl, (by first | rfl | omega | (simp; done) | (simp; omega))⟩ ?_
            refine ok_obl (by have := sizeOfC_ok hc; first | omega | (simp; omega) | (have hq := blockAt_ok hc (clsOf_pos (c := c) (b := i1.1) (by omega)); have h1 := hx1.2.1; have h2 := hx1.2.2.1; first | omega | (simp; omega))) ?_
            refine ok_obl rfl ?_
            refine ok_obl (by have := sizeOfC_ok hc; first | omega | (simp; omega) | (have hq := blockAt_ok hc (clsOf_pos (c := c) (b := i1.1) (by omega)); have h1 := hx1.2.1; have h2 := hx1.2.2.1; first | omega | (simp; omega))) ?_
            refine ok_obl rfl ?_
            refine ok_obl (by have hsz := sizeOfC_ok hc; simp only [Cfg.Ok, InK] at *; first | done | omega) ?_
            refine ok_stop ?_
            exact go_back hJ_34 ((i2.1 + 1), (⟨i2.2.aw, i2.2.cw, i2.2.n, i2.2.ws, (i2.2.steps + 1), 2, i2.1, (i2.2.ws.getD i2.1.toNat 0), true⟩ : Ar)) [0, 1] (by kernel_rfl) (by kernel_rfl) (by kernel_rfl) ⟨(by dsimp only; omega), (by have hq := hx2.2; exact ⟨hq.1, hq.2.1, hq.2.2.1, (by have hq4 := hq.2.2.2; first | omega | (dsimp only at *; omega))⟩)⟩ (by dsimp only; omega)
          · replace h_36 := bneF h_36
            refine ok_obl (by have hsz := sizeOfC_ok hc; simp only [Cfg.Ok, InK] at *; first | done | omega) ?_
            refine ok_stop ?_
            exact go_back hJ_34 ((i2.1 + 1), (⟨i2.2.aw, i2.2.cw, i2.2.n, i2.2.ws, i2.2.steps, i2.2.lk, i2.2.lw, i2.2.lv, i2.2.lc⟩ : Ar)) [0, 1] (by kernel_rfl) (by kernel_rfl) (by kernel_rfl) ⟨(by dsimp only; omega), (by have hq := hx2.2; exact ⟨hq.1, hq.2.1, hq.2.2.1, (by have hq4 := hq.2.2.2; first | omega | (dsimp only at *; omega))⟩)⟩ (by dsimp only; omega)
        · replace h_35 := decF h_35
          exact ret_ok (post := [E3ba87 ra_2 i2.2 false 0, E671ef i2.2]) [0, 1] (by kernel_rfl) ⟨ra_2, i2.2, rfl, rfl, (by have h1 := hx2; have := sizeOfC_ok hc; exact ⟨h1.2.1, h1.2.2.1, h1.2.2.2.1, (by have := h1.2.2.2.2; omega)⟩)⟩
    · replace h_28 := decF h_28
      refine ok_stop ?_
      refine go_loop (ι := Int × Ar) (fun i1 => [(1, vP b_1), (3, vP ra_2), (4, vI i1.1)]) (fun i1 => [Ee1539 b_1 c, E3ba87 ra_2 i1.2 false 0, E671ef i1.2]) (fun i1 => 1 ≤ i1.1 ∧ ArW c i1.2 0) (fun i1 => (c.n0 + c.n1 - i1.1).toNat) (1, (⟨aw_3, cw_4, (List.replicate (sizeOfC c).toNat (0 : Int)).length, ((List.replicate (sizeOfC c).toNat (0 : Int)).set 0 7597137583116413295).set 1 w__5_1, 0, 0, 0, 0, false⟩ : Ar)) [1, 3, 4] [0, 1, 2] (by kernel_rfl) (by kernel_rfl) (by kernel_rfl) (by kernel_rfl) ⟨(by dsimp only; omega), (by refine ⟨(by simp), (by have := sizeOfC_ok hc; simp; omega), (by dsimp only; (repeat' first | exact rngW_rep _ | (refine rngW_set ?_ _ ?_)) <;> first | decide | omega | (simp only [Cfg.Ok] at hc; omega)), (by dsimp only; omega)⟩)⟩ ?_
      intro i1 J_37 hIJ_37 hJ_37
      have hx1 := hIJ_37
      have hn1 := hx1.2.1
      have hz1 := hx1.2.2.1
      refine go_exec (rs := [.tmp 2]) (by kernel_rfl) 4000 [.e 0, .z q11_3 2 [1, 3, 4, 47, 48]] (o := .obl (b_1 = b_1) (.stop [.o q11_3 2, .c q11_4, .c q11_5, .j J_37, .b 0, .c q11_2] [(1, vP b_1), (3, vP ra_2), (4, vI i1.1), (47, vI i1.1), (48, cfgV c)] [Ee1539 b_1 c, E3ba87 ra_2 i1.2 false 0, E671ef i1.2])) (by kernel_rfl) ?_
      refine ok_obl rfl ?_
      refine ok_stop ?_
      refine go_call (some 49) [] Tryz.call49 (ref_Blocks c (by first | assumption | omega | (simp only [InK] at *; omega))) (by kernel_rfl) ?_
      rintro v post ⟨rfl, rfl⟩
      refine go_exec (rs := [.tmp 2]) (by kernel_rfl) 4000 [.sp [50] [.z q11_6 0 [1, 3, 4]] [.z q11_7 0 [3, 5]]] (o := .br (decide (i1.1 < (c.n0 + c.n1))) (.stop [.c q11_6, .c q11_8, .b 1, .c q11_9, .j J_37, .b 0, .c q11_2] [(1, vP b_1), (3, vP ra_2), (4, vI i1.1)] [Ee1539 b_1 c, E3ba87 ra_2 i1.2 false 0, E671ef i1.2]) (.stop [.c q11_7, .b 2, .c q11_10] [(3, vP ra_2), (5, vI 0)] [Ee1539 b_1 c, E3ba87 ra_2 i1.2 false 0, E671ef i1.2])) (by kernel_rfl) ?_
      refine ok_br (fun h_38 => ?_) (fun h_38 => ?_)
      · replace h_38 := decT h_38
        refine ok_stop ?_
        refine go_quiet (tm' := [(1, vP b_1), (3, vP ra_2), (4, vI i1.1), (60, .bool ((clsOf c i1.1) == (clsOf c (i1.1 + 1))))]) (ps := [b_1 = b_1, b_1 = b_1, InK .i64 (i1.1 + 1)]) (cs := [(50, #[cfgV c, vI i1.1], vI (clsOf c i1.1)), (50, #[cfgV c, vI (i1.1 + 1)], vI (clsOf c (i1.1 + 1)))]) [(0, .h (.e 0)), (1, .h .w), (2, .q (vI (clsOf c i1.1))), (3, .h (.e 0)), (4, .h .w), (5, .h (.n)), (6, .q (vI (clsOf c (i1.1 + 1)))), (7, .h .w)] [1, 3, 4, 60] (by kernel_rfl) (by kernel_rfl) ⟨rfl, rfl, (by have hsz := sizeOfC_ok hc; simp only [Cfg.Ok, InK] at *; first | done | omega), trivial⟩ ⟨⟨Tryz.call50, quiet_of [] (ref_Class c i1.1 (by first | assumption | omega | (simp only [InK] at *; omega))) (by kernel_rfl) (by rintro v post ⟨rfl, rfl⟩; exact ⟨rfl, rfl⟩)⟩, ⟨Tryz.call50, quiet_of [] (ref_Class c (i1.1 + 1) (by first | assumption | omega | (simp only [InK] at *; omega))) (by kernel_rfl) (by rintro v post ⟨rfl, rfl⟩; exact ⟨rfl, rfl⟩)⟩, trivial⟩ ?_
        refine go_exec (rs := [.tmp 2]) (by kernel_rfl) 4000 [.sp [60] [.z q11_11 0 [1, 3, 4]] [.n, .z [] 0 [1, 3, 4]]] (o := .br ((clsOf c i1.1) == (clsOf c (i1.1 + 1))) (.stop [.c q11_11, .b 1, .c q11_9, .j J_37, .b 0, .c q11_2] [(1, vP b_1), (3, vP ra_2), (4, vI i1.1)] [Ee1539 b_1 c, E3ba87 ra_2 i1.2 false 0, E671ef i1.2]) (.obl (InK .i64 (i1.1 + 1)) (.stop [.j J_37, .b 0, .c q11_2] [(1, vP b_1), (3, vP ra_2), (4, vI (i1.1 + 1))] [Ee1539 b_1 c, E3ba87 ra_2 i1.2 false 0, E671ef i1.2]))) (by kernel_rfl) ?_
        refine ok_br (fun h_39 => ?_) (fun h_39 => ?_)
        · replace h_39 := beqT h_39
          refine ok_stop ?_
          refine go_tail_op (so := .obl (slAt i1.2.aw ((blockAt c i1.1).toNat) 1 = slAt i1.2.aw ((blockAt c i1.1).toNat) 1) (.obl ((blockAt c i1.1).toNat < i1.2.ws.length) (.ex fun x_40 : Int => .obl ([vU (i1.1 + 1)] = (encI .u64) x_40) (.ok .skip [Ee1539 b_1 c, E3ba87 ra_2 i1.2 false 0, E4b293 i1.2 (i1.2.ws.set ((blockAt c i1.1).toNat) x_40)])))) (dst := none) (ps := [ra_2 = ra_2, b_1 = b_1, InK .i64 (i1.1 + 1), InK .u64 (i1.1 + 1), i1.2.aw = i1.2.aw ∧ i1.2.n = i1.2.ws.length, (0 : Int) ≤ (blockAt c i1.1) ∧ (blockAt c i1.1) < ((i1.2.ws.length : Nat) : Int)]) (cs := [(51, #[cfgV c, vI i1.1], vI (blockAt c i1.1))]) [(0, .h .w), (1, .h .w), (2, .h .w), (3, .h (.e 1)), (4, .h (.e 0)), (5, .h .w), (6, .q (vI (blockAt c i1.1))), (7, .h .w), (8, .h (.n)), (9, .h (.n)), (10, .h (.s 2))] 11 [] (.j 2 ((blockAt c i1.1).toNat)) [1, 3, 4] (by kernel_rfl) (by kernel_rfl) ⟨rfl, rfl, (by have hsz := sizeOfC_ok hc; simp only [Cfg.Ok, InK] at *; first | done | omega), (by have hsz := sizeOfC_ok hc; simp only [Cfg.Ok, InK] at *; first | done | omega), ⟨rfl, (by first | rfl | omega | (simp; done) | (simp; omega))⟩, (by have := sizeOfC_ok hc; first | omega | (simp; omega) | (have hq := blockAt_ok hc (clsOf_pos (c := c) (b := i1.1) (by omega)); have h1 := hx1.2.1; have h2 := hx1.2.2.1; first | omega | (simp; omega))), trivial⟩ ⟨⟨Tryz.call51, quiet_of [] (ref_Block c i1.1 (by first | assumption | omega | (simp only [InK] at *; omega)) (by omega)) (by kernel_rfl) (by rintro v post ⟨rfl, rfl⟩; exact ⟨rfl, rfl⟩)⟩, trivial⟩ ?_
          refine sat_obl rfl ?_
          refine sat_obl (by have := sizeOfC_ok hc; first | omega | (simp; omega) | (have hq := blockAt_ok hc (clsOf_pos (c := c) (b := i1.1) (by omega)); have h1 := hx1.2.1; have h2 := hx1.2.2.1; first | omega | (simp; omega))) ?_
          refine sat_ex ((i1.1 + 1) : Int) ?_
          refine sat_obl rfl ?_
          refine sat_skip ?_
          refine tail_next (tm' := [(1, vP b_1), (3, vP ra_2), (4, vI i1.1)]) (ps2 := []) (by kernel_rfl) trivial ?_
          refine go_exec (rs := [.tmp 2]) (by kernel_rfl) 4000 [.n, .z [] 0 [1, 3, 4]] (o := .obl (InK .i64 (i1.1 + 1)) (.stop [.j J_37, .b 0, .c q11_2] [(1, vP b_1), (3, vP ra_2), (4, vI (i1.1 + 1))] [Ee1539 b_1 c, E3ba87 ra_2 i1.2 false 0, E4b293 i1.2 (i1.2.ws.set ((blockAt c i1.1).toNat) (i1.1 + 1))])) (by kernel_rfl) ?_
          refine ok_obl (by have hsz := sizeOfC_ok hc; simp only [Cfg.Ok, InK] at *; first | done | omega) ?_
          refine ok_stop ?_
          exact go_back hJ_37 ((i1.1 + 1), (⟨i1.2.aw, i1.2.cw, i1.2.n, i1.2.ws.set ((blockAt c i1.1).toNat) (i1.1 + 1), i1.2.steps, i1.2.lk, i1.2.lw, i1.2.lv, i1.2.lc⟩ : Ar)) [0, 1, 2] (by kernel_rfl) (by kernel_rfl) (by kernel_rfl) ⟨(by dsimp only; omega), (by first | exact hx1.2 | exact arW_set hx1.2 _ (by have hc2 := hc; simp only [Cfg.Ok] at hc2; omega))⟩ (by dsimp only; omega)
        · replace h_39 := beqF h_39
          refine ok_obl (by have hsz := sizeOfC_ok hc; simp only [Cfg.Ok, InK] at *; first | done | omega) ?_
          refine ok_stop ?_
          exact go_back hJ_37 ((i1.1 + 1), (⟨i1.2.aw, i1.2.cw, i1.2.n, i1.2.ws, i1.2.steps, i1.2.lk, i1.2.lw, i1.2.lv, i1.2.lc⟩ : Ar)) [0, 1, 2] (by kernel_rfl) (by kernel_rfl) (by kernel_rfl) ⟨(by dsimp only; omega), (by first | exact hx1.2 | exact arW_set hx1.2 _ (by have hc2 := hc; simp only [Cfg.Ok] at hc2; omega))⟩ (by dsimp only; omega)
      · replace h_38 := decF h_38
        refine ok_stop ?_
        refine go_loop (ι := Int × Ar) (fun i2 => [(3, vP ra_2), (5, vI i2.1)]) (fun i2 => [E3ba87 ra_2 i2.2 false 0, E671ef i2.2]) (fun i2 => (0 ≤ i2.1 ∧ i2.1 ≤ sizeOfC c) ∧ ArW c i2.2 i2.1) (fun i2 => (sizeOfC c - i2.1).toNat) (0, i1.2) [3, 5] [1, 2] (by kernel_rfl) (by kernel_rfl) (by kernel_rfl) (by kernel_rfl) ⟨(by have := sizeOfC_ok hc; dsimp only; omega), hx1.2⟩ ?_
        intro i2 J_41 hIJ_41 hJ_41
        have hx2 := hIJ_41
        have hn2 := hx2.2.1
        have hz2 := hx2.2.2.1
        have hs2 := hx2.2.2.2.2
        refine go_exec (rs := [.tmp 2]) (by kernel_rfl) 4000 [.e 0, .sp [78] [.e 0, .s 1, .j 1 i2.1.toNat, .sp [88] [.e 0, .n, .e 0, .e 0, .s 1, .j 1 i2.1.toNat, .e 0, .n, .z [] 0 [3, 5]] [.n, .z [] 0 [3, 5]]] []] (o := .obl (ra_2 = ra_2) (.br (decide (i2.1 < ((i2.2.n : Nat) : Int))) (.obl (ra_2 = ra_2) (.obl (i2.2.aw = i2.2.aw ∧ i2.2.n = i2.2.ws.length) (.obl ((0 : Int) ≤ i2.1 ∧ i2.1 < ((i2.2.ws.length : Nat) : Int)) (.obl (slAt i2.2.aw i2.1.toNat 1 = slAt i2.2.aw i2.1.toNat 1) (.obl (i2.1.toNat < i2.2.ws.length) (.br ((i2.2.ws.getD i2.1.toNat 0) != 0) (.obl (ra_2 = ra_2) (.obl (InK .i64 (i2.2.steps + 1)) (.obl (ra_2 = ra_2) (.obl (ra_2 = ra_2) (.obl (i2.2.aw = i2.2.aw ∧ i2.2.n = i2.2.ws.length) (.obl ((0 : Int) ≤ i2.1 ∧ i2.1 < ((i2.2.ws.length : Nat) : Int)) (.obl (slAt i2.2.aw i2.1.toNat 1 = slAt i2.2.aw i2.1.toNat 1) (.obl (i2.1.toNat < i2.2.ws.length) (.obl (ra_2 = ra_2) (.obl (InK .i64 (i2.1 + 1)) (.stop [.j J_41, .b 2, .c q11_10] [(3, vP ra_2), (5, vI (i2.1 + 1))] [Ea51e4 ra_2 i2.2 (i2.2.steps + 1) 2 i2.1 (i2.2.ws.getD i2.1.toNat 0) true false 0, E671ef i2.2]))))))))))) (.obl (InK .i64 (i2.1 + 1)) (.stop [.j J_41, .b 2, .c q11_10] [(3, vP ra_2), (5, vI (i2.1 + 1))] [E3ba87 ra_2 i2.2 false 0, E671ef i2.2])))))))) (.ret (vP ra_2) [E3ba87 ra_2 i2.2 false 0, E671ef i2.2]))) (by kernel_rfl) ?_
        refine ok_obl rfl ?_
        refine ok_br (fun h_42 => ?_) (fun h_42 => ?_)
        · replace h_42 := decT h_42
          refine ok_obl rfl ?_
          refine ok_obl ⟨rfl, (by first | rfl | omega | (simp; done) | (simp; omega))⟩ ?_
          refine ok_obl (by have := sizeOfC_ok hc; first | omega | (simp; omega) | (have hq := blockAt_ok hc (clsOf_pos (c := c) (b := i1.1) (by omega)); have h1 := hx1.2.1; have h2 := hx1.2.2.1; first | omega | (simp; omega))) ?_
          refine ok_obl rfl ?_
          refine ok_obl (by have := sizeOfC_ok hc; first | omega | (simp; omega) | (have hq := blockAt_ok hc (clsOf_pos (c := c) (b := i1.1) (by omega)); have h1 := hx1.2.1; have h2 := hx1.2.2.1; first | omega | (simp; omega))) ?_
          refine ok_br (fun h_43 => ?_) (fun h_43 => ?_)
          · replace h_43 := bneT h_43
            refine ok_obl rfl ?_
            refine ok_obl (by have hsz := sizeOfC_ok hc; simp only [Cfg.Ok, InK] at *; first | done | omega) ?_
            refine ok_obl rfl ?_
            refine ok_obl rfl ?_
            refine ok_obl ⟨rfl, (by first | rfl | omega | (simp; done) | (simp; omega))⟩ ?_
            refine ok_obl (by have := sizeOfC_ok hc; first | omega | (simp; omega) | (have hq := blockAt_ok hc (clsOf_pos (c := c) (b := i1.1) (by omega)); have h1 := hx1.2.1; have h2 := hx1.2.2.1; first | omega | (simp; omega))) ?_
            refine ok_obl rfl ?_
            refine ok_obl (by have := sizeOfC_ok hc; first | omega | (simp; omega) | (have hq := blockAt_ok hc (clsOf_pos (c := c) (b := i1.1) (by omega)); have h1 := hx1.2.1; have h2 := hx1.2.2.1; first | omega | (simp; omega))) ?_
            refine ok_obl rfl ?_
            refine ok_obl (by have hsz := sizeOfC_ok hc; simp only [Cfg.Ok, InK] at *; first | done | omega) ?_
            refine ok_stop ?_
            exact go_back hJ_41 ((i2.1 + 1), (⟨i2.2.aw, i2.2.cw, i2.2.n, i2.2.ws, (i2.2.steps + 1), 2, i2.1, (i2.2.ws.getD i2.1.toNat 0), true⟩ : Ar)) [0, 1] (by kernel_rfl) (by kernel_rfl) (by kernel_rfl) ⟨(by dsimp only; omega), (by have hq := hx2.2; exact ⟨hq.1, hq.2.1, hq.2.2.1, (by have hq4 := hq.2.2.2; first | omega | (dsimp only at *; omega))⟩)⟩ (by dsimp only; omega)
          · replace h_43 := bneF h_43
            refine ok_obl (by have hsz := sizeOfC_ok hc; simp only [Cfg.Ok, InK] at *; first | done | omega) ?_
            refine ok_stop ?_
            exact go_back hJ_41 ((i2.1 + 1), (⟨i2.2.aw, i2.2.cw, i2.2.n, i2.2.ws, i2.2.steps, i2.2.lk, i2.2.lw, i2.2.lv, i2.2.lc⟩ : Ar)) [0, 1] (by kernel_rfl) (by kernel_rfl) (by kernel_rfl) ⟨(by dsimp only; omega), (by have hq := hx2.2; exact ⟨hq.1, hq.2.1, hq.2.2.1, (by have hq4 := hq.2.2.2; first | omega | (dsimp only at *; omega))⟩)⟩ (by dsimp only; omega)
        · replace h_42 := decF h_42
          exact ret_ok (post := [E3ba87 ra_2 i2.2 false 0, E671ef i2.2]) [0, 1] (by kernel_rfl) ⟨ra_2, i2.2, rfl, rfl, (by have h1 := hx2; have := sizeOfC_ok hc; exact ⟨h1.2.1, h1.2.2.1, h1.2.2.2.1, (by have := h1.2.2.2.2; omega)⟩)⟩

end Go.Proofs.YtilaihbbollcnaaGreatDoor


namespace Go.Proofs.YtilaihbbollcnaaGreatDoor
open Go.Sx
abbrev E97ea4 (x0 : Nat) (x1 : Int) (x2 : Int) (x3 : Int) (x4 : Int) (x5 : Int) (x6 : Int) (x7 : Int) : Ent := .pts x0 [.int .i64 x1, .int .i64 x2, .int .i64 x3, .int .i64 x4, .int .i64 x5, .int .i64 x6, .int .i64 x7] 71
abbrev q12_0 : List Nat := [0, 0, 1, 0, 0, 1, 0, 1, 1, 1]
abbrev q12_1 : List Nat := [0, 1, 1, 1, 0, 0, 1, 0, 0, 1, 0, 1, 1, 1, 1]
abbrev q12_2 : List Nat := [1, 1, 0, 0, 1, 0, 1, 1, 1, 1]
abbrev q12_3 : List Nat := [0, 1, 0, 1, 1, 1, 1]
abbrev q12_4 : List Nat := [0, 1, 0, 1, 0, 0, 1, 0, 0, 1, 1, 1, 0, 0, 1, 0, 0, 1, 0, 1, 1, 1, 1]
abbrev q12_5 : List Nat := [1, 1, 0, 1, 0, 0, 1, 0, 0, 1, 1, 1, 0, 0, 1, 0, 0, 1, 0, 1, 1, 1, 1]
abbrev q12_6 : List Nat := [1, 1, 0, 0, 1, 1, 1, 0, 0, 1, 0, 0, 1, 0, 1, 1, 1, 1]
noncomputable def B28 : Code := (Tryz.f28.body).getD .skip

theorem law_arena (q : Qs)  :
    Ctr Tryz.prog 28 #[.agg #[vI q.slots, vI q.bits, vI q.others, vI q.m0, vI q.m1, vI q.m2, vI q.m3]] [] (fun v L => ∃ (ra : Nat) (A : Ar), v = vP ra ∧ L = [E3ba87 ra A false 0, E4b293 A (beginW (cfgN q.slots) q A.ws)] ∧ (ArW (cfgN q.slots) A 5000)) := by
  refine ctr_of (args := [.agg #[vI q.slots, vI q.bits, vI q.others, vI q.m0, vI q.m1, vI q.m2, vI q.m3]]) (fn := Tryz.f28) (body := B28) (nt := 81) Tryz.func28 (by kernel_rfl) (by kernel_rfl) ?_
  intro F
  have hc := cfgN_ok q.slots
  refine go_exec (rs := [.tmp 2]) (by kernel_rfl) 4000 [.e 0, .z [0, 1] 2 [1, 10]] (o := .new fun b_1 => .obl (b_1 = b_1) (.stop [.o [0, 1] 2, .c [1, 1]] [(1, vP b_1), (10, vI q.slots)] [E97ea4 b_1 q.slots q.bits q.others q.m0 q.m1 q.m2 q.m3])) (by kernel_rfl) ?_
  refine ok_new fun b_1 => ?_
  refine ok_obl rfl ?_
  refine ok_stop ?_
  refine go_call (some 11) [] Tryz.call27 (law_config q.slots) (by kernel_rfl) ?_
  rintro v post ⟨rfl, rfl⟩
  refine go_exec (rs := [.tmp 2]) (by kernel_rfl) 4000 [.e 1, .e 1, .z [0, 1, 1] 1 [1, 3, 12]] (o := .new fun b_3 => .obl (b_3 = b_3) (.obl (b_3 = b_3) (.stop [.o [0, 1, 1] 1, .c [1, 1, 1]] [(1, vP b_1), (3, vP b_3), (12, cfgV (cfgN q.slots))] [E97ea4 b_1 q.slots q.bits q.others q.m0 q.m1 q.m2 q.m3, Ee1539 b_3 (cfgN q.slots)]))) (by kernel_rfl) ?_
  refine ok_new fun b_3 => ?_
  refine ok_obl rfl ?_
  refine ok_obl rfl ?_
  refine ok_stop ?_
  refine go_call (some 13) [] Tryz.call8 (ref_Make (cfgN q.slots) hc) (by kernel_rfl) ?_
  rintro v post ⟨ra_4, A_5, rfl, rfl, hf_6⟩
  refine go_exec (rs := [.tmp 2]) (by kernel_rfl) 4000 [.z [0, 1, 0, 1, 1, 1] 0 [1, 3, 4, 5]] (o := .stop [.c [0, 1, 0, 1, 1, 1], .b 0, .c [1, 1, 1, 1]] [(1, vP b_1), (3, vP b_3), (4, vP ra_4), (5, vI 0)] [E97ea4 b_1 q.slots q.bits q.others q.m0 q.m1 q.m2 q.m3, Ee1539 b_3 (cfgN q.slots), E3ba87 ra_4 A_5 false 0, E671ef A_5]) (by kernel_rfl) ?_
  refine ok_stop ?_
  have hA := hf_6
  have hA1 : A_5.ws.length = A_5.n := hA.1
  have hA2 : (A_5.n : Int) = sizeOfC (cfgN q.slots) := hA.2.1
  have hcs : (cfgN q.slots).slots = 1 + bAnd .i64 q.slots 3 := rfl
  have h3 := and3 q.slots
  have hsz := sizeOfC_ok hc
  refine go_loop (ι := Int × List Int) (fun j => [(1, vP b_1), (3, vP b_3), (4, vP ra_4), (5, vI j.1)]) (fun j => [E97ea4 b_1 q.slots q.bits q.others q.m0 q.m1 q.m2 q.m3, Ee1539 b_3 (cfgN q.slots), E3ba87 ra_4 A_5 false 0, E4b293 A_5 j.2]) (fun j => slotsW (cfgN q.slots) q ((cfgN q.slots).slots - j.1).toNat j.1 j.2 = slotsW (cfgN q.slots) q (cfgN q.slots).slots.toNat 0 A_5.ws ∧ (0 ≤ j.1 ∧ j.1 ≤ (cfgN q.slots).slots) ∧ RngW j.2 ∧ j.2.length = A_5.n) (fun j => ((cfgN q.slots).slots - j.1).toNat) (0, A_5.ws) [1, 3, 4, 5] [0, 1, 2, 3] (by kernel_rfl) (by kernel_rfl) (by kernel_rfl) (by kernel_rfl) ⟨(by dsimp only; congr 1; omega), (by dsimp only; omega), hA.2.2.1, hA.1⟩ ?_
  intro j J_7 hIJ_7 hJ_7
  have hx := hIJ_7
  have hlen := hx.2.2.2
  refine go_exec (rs := [.tmp 2]) (by kernel_rfl) 4000 [.e 1, .sp [17] [.z q12_0 0 [1, 3, 4, 5]] [.u, .w, .e 2, .s 3, .j 3 3, .w, .z q12_1 0 [1, 3, 4, 6, 7, 8]]] (o := .obl (b_3 = b_3) (.br (decide (j.1 < ((cfgN q.slots).slots))) (.stop [.c q12_0, .b 1, .c [1, 1, 0, 0, 1, 0, 1, 1, 1], .j J_7, .b 0, .c [1, 1, 1, 1]] [(1, vP b_1), (3, vP b_3), (4, vP ra_4), (5, vI j.1)] [E97ea4 b_1 q.slots q.bits q.others q.m0 q.m1 q.m2 q.m3, Ee1539 b_3 (cfgN q.slots), E3ba87 ra_4 A_5 false 0, E4b293 A_5 j.2]) (.obl (ra_4 = ra_4) (.obl (A_5.aw = A_5.aw ∧ A_5.n = j.2.length) (.obl ((0 : Int) ≤ 3 ∧ 3 < ((j.2.length : Nat) : Int)) (.obl (slAt A_5.aw 3 1 = slAt A_5.aw 3 1) (.obl (3 < j.2.length) (.ex fun x_8 : Int => .obl ([vU 0] = (encI .u64) x_8) (.stop [.c q12_1, .b 4, .b 3, .c q12_2, .r q12_3, .b 2, .c [1, 1, 1, 1, 1]] [(1, vP b_1), (3, vP b_3), (4, vP ra_4), (6, vI 0), (7, vI 3), (8, vI 0)] [E97ea4 b_1 q.slots q.bits q.others q.m0 q.m1 q.m2 q.m3, Ee1539 b_3 (cfgN q.slots), E3ba87 ra_4 A_5 false 0, E4b293 A_5 (j.2.set 3 x_8)]))))))))) (by kernel_rfl) ?_
  refine ok_obl rfl ?_
  refine ok_br (fun h_9 => ?_) (fun h_9 => ?_)
  · replace h_9 := decT h_9
    refine ok_stop ?_
    rcases (show j.1 = 0 ∨ j.1 = 1 ∨ j.1 = 2 ∨ j.1 = 3 from (by omega)) with hk|hk|hk|hk
    · refine go_cast (tm' := [(1, vP b_1), (3, vP b_3), (4, vP ra_4), (5, vI 0)]) (L' := [E97ea4 b_1 q.slots q.bits q.others q.m0 q.m1 q.m2 q.m3, Ee1539 b_3 (cfgN q.slots), E3ba87 ra_4 A_5 false 0, E4b293 A_5 j.2]) (by rw [hk]) ?_
      refine go_tail_op (so := .obl (slAt A_5.aw ((slotAt (cfgN q.slots) 0).toNat) 1 = slAt A_5.aw ((slotAt (cfgN q.slots) 0).toNat) 1) (.obl ((slotAt (cfgN q.slots) 0).toNat < j.2.length) (.ex fun x_10 : Int => .obl ([vU (nameW q.m0)] = (encI .u64) x_10) (.ok .skip [E97ea4 b_1 q.slots q.bits q.others q.m0 q.m1 q.m2 q.m3, Ee1539 b_3 (cfgN q.slots), E3ba87 ra_4 A_5 false 0, E4b293 A_5 (j.2.set ((slotAt (cfgN q.slots) 0).toNat) x_10)])))) (dst := none) (ps := [ra_4 = ra_4, b_3 = b_3, b_1 = b_1, A_5.aw = A_5.aw ∧ A_5.n = j.2.length, (0 : Int) ≤ (slotAt (cfgN q.slots) 0) ∧ (slotAt (cfgN q.slots) 0) < ((j.2.length : Nat) : Int)]) (cs := [(63, #[cfgV (cfgN q.slots), vI 0], vI (slotAt (cfgN q.slots) 0)), (72, #[vI q.m0], vU (nameW q.m0))]) [(0, .h .w), (1, .h .w), (2, .h .w), (3, .h (.e 2)), (4, .h (.e 1)), (5, .h .w), (6, .q (vI (slotAt (cfgN q.slots) 0))), (7, .h .w), (8, .h .w), (9, .h (.w)), (10, .h (.e 0)), (11, .q (vU (nameW q.m0))), (12, .h (.s 3))] 13 [] (.j 3 ((slotAt (cfgN q.slots) 0).toNat)) [1, 3, 4, 5] (by kernel_rfl) (by kernel_rfl) ⟨rfl, rfl, rfl, ⟨rfl, (by first | rfl | omega | (simp; done) | (simp; omega))⟩, (by first | omega | (have hq := slotAt_ok hc (i := j.1) (by omega); rw [hk] at hq; first | omega | (simp; omega)) | (simp; done) | (simp; omega)), trivial⟩ ⟨⟨Tryz.call63, quiet_of [] (ref_Slot (cfgN q.slots) 0 (by first | assumption | omega | (simp only [InK] at *; omega)) (by simp only [InK]; omega)) (by kernel_rfl) (by rintro v post ⟨rfl, rfl⟩; exact ⟨rfl, rfl⟩)⟩, ⟨Tryz.call72, quiet_of [] (law_name q.m0) (by kernel_rfl) (by rintro v post ⟨rfl, rfl⟩; exact ⟨rfl, rfl⟩)⟩, trivial⟩ ?_
      refine sat_obl rfl ?_
      refine sat_obl (by first | omega | (have hq := slotAt_ok hc (i := j.1) (by omega); rw [hk] at hq; first | omega | (simp; omega)) | (simp; done) | (simp; omega)) ?_
      refine sat_ex ((nameW q.m0) : Int) ?_
      refine sat_obl rfl ?_
      refine sat_skip ?_
      refine tail_next (tm' := [(1, vP b_1), (3, vP b_3), (4, vP ra_4), (5, vI 0)]) (ps2 := []) (by kernel_rfl) trivial ?_
      refine go_exec (rs := [.tmp 2]) (by kernel_rfl) 4000 [.w, .z [] 0 [1, 3, 4, 5]] (o := .stop [.j J_7, .b 0, .c [1, 1, 1, 1]] [(1, vP b_1), (3, vP b_3), (4, vP ra_4), (5, vI 1)] [E97ea4 b_1 q.slots q.bits q.others q.m0 q.m1 q.m2 q.m3, Ee1539 b_3 (cfgN q.slots), E3ba87 ra_4 A_5 false 0, E4b293 A_5 (j.2.set ((slotAt (cfgN q.slots) 0).toNat) (nameW q.m0))]) (by kernel_rfl) ?_
      refine ok_stop ?_
      exact go_back hJ_7 (1, j.2.set ((slotAt (cfgN q.slots) 0).toNat) (nameW q.m0)) [0, 1, 2, 3] (by kernel_rfl) (by kernel_rfl) (by kernel_rfl) ⟨(by dsimp only; rw [← hx.1, slotsW_next (c := cfgN q.slots) (q := q) (i := j.1) (W := j.2) (by omega), hk]; rfl), (by dsimp only; omega), (by dsimp only; exact rngW_set hx.2.2.1 _ (nameW_rng _)), (by dsimp only; rw [List.length_set]; exact hx.2.2.2)⟩ (by dsimp only; omega)
    · refine go_cast (tm' := [(1, vP b_1), (3, vP b_3), (4, vP ra_4), (5, vI 1)]) (L' := [E97ea4 b_1 q.slots q.bits q.others q.m0 q.m1 q.m2 q.m3, Ee1539 b_3 (cfgN q.slots), E3ba87 ra_4 A_5 false 0, E4b293 A_5 j.2]) (by rw [hk]) ?_
      refine go_tail_op (so := .obl (slAt A_5.aw ((slotAt (cfgN q.slots) 1).toNat) 1 = slAt A_5.aw ((slotAt (cfgN q.slots) 1).toNat) 1) (.obl ((slotAt (cfgN q.slots) 1).toNat < j.2.length) (.ex fun x_11 : Int => .obl ([vU (nameW q.m1)] = (encI .u64) x_11) (.ok .skip [E97ea4 b_1 q.slots q.bits q.others q.m0 q.m1 q.m2 q.m3, Ee1539 b_3 (cfgN q.slots), E3ba87 ra_4 A_5 false 0, E4b293 A_5 (j.2.set ((slotAt (cfgN q.slots) 1).toNat) x_11)])))) (dst := none) (ps := [ra_4 = ra_4, b_3 = b_3, b_1 = b_1, A_5.aw = A_5.aw ∧ A_5.n = j.2.length, (0 : Int) ≤ (slotAt (cfgN q.slots) 1) ∧ (slotAt (cfgN q.slots) 1) < ((j.2.length : Nat) : Int)]) (cs := [(63, #[cfgV (cfgN q.slots), vI 1], vI (slotAt (cfgN q.slots) 1)), (72, #[vI q.m1], vU (nameW q.m1))]) [(0, .h .w), (1, .h .w), (2, .h .w), (3, .h (.e 2)), (4, .h (.e 1)), (5, .h .w), (6, .q (vI (slotAt (cfgN q.slots) 1))), (7, .h .w), (8, .h .w), (9, .h (.w)), (10, .h (.e 0)), (11, .q (vU (nameW q.m1))), (12, .h (.s 3))] 13 [] (.j 3 ((slotAt (cfgN q.slots) 1).toNat)) [1, 3, 4, 5] (by kernel_rfl) (by kernel_rfl) ⟨rfl, rfl, rfl, ⟨rfl, (by first | rfl | omega | (simp; done) | (simp; omega))⟩, (by first | omega | (have hq := slotAt_ok hc (i := j.1) (by omega); rw [hk] at hq; first | omega | (simp; omega)) | (simp; done) | (simp; omega)), trivial⟩ ⟨⟨Tryz.call63, quiet_of [] (ref_Slot (cfgN q.slots) 1 (by first | assumption | omega | (simp only [InK] at *; omega)) (by simp only [InK]; omega)) (by kernel_rfl) (by rintro v post ⟨rfl, rfl⟩; exact ⟨rfl, rfl⟩)⟩, ⟨Tryz.call72, quiet_of [] (law_name q.m1) (by kernel_rfl) (by rintro v post ⟨rfl, rfl⟩; exact ⟨rfl, rfl⟩)⟩, trivial⟩ ?_
      refine sat_obl rfl ?_
      refine sat_obl (by first | omega | (have hq := slotAt_ok hc (i := j.1) (by omega); rw [hk] at hq; first | omega | (simp; omega)) | (simp; done) | (simp; omega)) ?_
      refine sat_ex ((nameW q.m1) : Int) ?_
      refine sat_obl rfl ?_
      refine sat_skip ?_
      refine tail_next (tm' := [(1, vP b_1), (3, vP b_3), (4, vP ra_4), (5, vI 1)]) (ps2 := []) (by kernel_rfl) trivial ?_
      refine go_exec (rs := [.tmp 2]) (by kernel_rfl) 4000 [.w, .z [] 0 [1, 3, 4, 5]] (o := .stop [.j J_7, .b 0, .c [1, 1, 1, 1]] [(1, vP b_1), (3, vP b_3), (4, vP ra_4), (5, vI 2)] [E97ea4 b_1 q.slots q.bits q.others q.m0 q.m1 q.m2 q.m3, Ee1539 b_3 (cfgN q.slots), E3ba87 ra_4 A_5 false 0, E4b293 A_5 (j.2.set ((slotAt (cfgN q.slots) 1).toNat) (nameW q.m1))]) (by kernel_rfl) ?_
      refine ok_stop ?_
      exact go_back hJ_7 (2, j.2.set ((slotAt (cfgN q.slots) 1).toNat) (nameW q.m1)) [0, 1, 2, 3] (by kernel_rfl) (by kernel_rfl) (by kernel_rfl) ⟨(by dsimp only; rw [← hx.1, slotsW_next (c := cfgN q.slots) (q := q) (i := j.1) (W := j.2) (by omega), hk]; rfl), (by dsimp only; omega), (by dsimp only; exact rngW_set hx.2.2.1 _ (nameW_rng _)), (by dsimp only; rw [List.length_set]; exact hx.2.2.2)⟩ (by dsimp only; omega)
    · refine go_cast (tm' := [(1, vP b_1), (3, vP b_3), (4, vP ra_4), (5, vI 2)]) (L' := [E97ea4 b_1 q.slots q.bits q.others q.m0 q.m1 q.m2 q.m3, Ee1539 b_3 (cfgN q.slots), E3ba87 ra_4 A_5 false 0, E4b293 A_5 j.2]) (by rw [hk]) ?_
      refine go_tail_op (so := .obl (slAt A_5.aw ((slotAt (cfgN q.slots) 2).toNat) 1 = slAt A_5.aw ((slotAt (cfgN q.slots) 2).toNat) 1) (.obl ((slotAt (cfgN q.slots) 2).toNat < j.2.length) (.ex fun x_12 : Int => .obl ([vU (nameW q.m2)] = (encI .u64) x_12) (.ok .skip [E97ea4 b_1 q.slots q.bits q.others q.m0 q.m1 q.m2 q.m3, Ee1539 b_3 (cfgN q.slots), E3ba87 ra_4 A_5 false 0, E4b293 A_5 (j.2.set ((slotAt (cfgN q.slots) 2).toNat) x_12)])))) (dst := none) (ps := [ra_4 = ra_4, b_3 = b_3, b_1 = b_1, A_5.aw = A_5.aw ∧ A_5.n = j.2.length, (0 : Int) ≤ (slotAt (cfgN q.slots) 2) ∧ (slotAt (cfgN q.slots) 2) < ((j.2.length : Nat) : Int)]) (cs := [(63, #[cfgV (cfgN q.slots), vI 2], vI (slotAt (cfgN q.slots) 2)), (72, #[vI q.m2], vU (nameW q.m2))]) [(0, .h .w), (1, .h .w), (2, .h .w), (3, .h (.e 2)), (4, .h (.e 1)), (5, .h .w), (6, .q (vI (slotAt (cfgN q.slots) 2))), (7, .h .w), (8, .h .w), (9, .h (.w)), (10, .h (.e 0)), (11, .q (vU (nameW q.m2))), (12, .h (.s 3))] 13 [] (.j 3 ((slotAt (cfgN q.slots) 2).toNat)) [1, 3, 4, 5] (by kernel_rfl) (by kernel_rfl) ⟨rfl, rfl, rfl, ⟨rfl, (by first | rfl | omega | (simp; done) | (simp; omega))⟩, (by first | omega | (have hq := slotAt_ok hc (i := j.1) (by omega); rw [hk] at hq; first | omega | (simp; omega)) | (simp; done) | (simp; omega)), trivial⟩ ⟨⟨Tryz.call63, quiet_of [] (ref_Slot (cfgN q.slots) 2 (by first | assumption | omega | (simp only [InK] at *; omega)) (by simp only [InK]; omega)) (by kernel_rfl) (by rintro v post ⟨rfl, rfl⟩; exact ⟨rfl, rfl⟩)⟩, ⟨Tryz.call72, quiet_of [] (law_name q.m2) (by kernel_rfl) (by rintro v post ⟨rfl, rfl⟩; exact ⟨rfl, rfl⟩)⟩, trivial⟩ ?_
      refine sat_obl rfl ?_
      refine sat_obl (by first | omega | (have hq := slotAt_ok hc (i := j.1) (by omega); rw [hk] at hq; first | omega | (simp; omega)) | (simp; done) | (simp; omega)) ?_
      refine sat_ex ((nameW q.m2) : Int) ?_
      refine sat_obl rfl ?_
      refine sat_skip ?_
      refine tail_next (tm' := [(1, vP b_1), (3, vP b_3), (4, vP ra_4), (5, vI 2)]) (ps2 := []) (by kernel_rfl) trivial ?_
      refine go_exec (rs := [.tmp 2]) (by kernel_rfl) 4000 [.w, .z [] 0 [1, 3, 4, 5]] (o := .stop [.j J_7, .b 0, .c [1, 1, 1, 1]] [(1, vP b_1), (3, vP b_3), (4, vP ra_4), (5, vI 3)] [E97ea4 b_1 q.slots q.bits q.others q.m0 q.m1 q.m2 q.m3, Ee1539 b_3 (cfgN q.slots), E3ba87 ra_4 A_5 false 0, E4b293 A_5 (j.2.set ((slotAt (cfgN q.slots) 2).toNat) (nameW q.m2))]) (by kernel_rfl) ?_
      refine ok_stop ?_
      exact go_back hJ_7 (3, j.2.set ((slotAt (cfgN q.slots) 2).toNat) (nameW q.m2)) [0, 1, 2, 3] (by kernel_rfl) (by kernel_rfl) (by kernel_rfl) ⟨(by dsimp only; rw [← hx.1, slotsW_next (c := cfgN q.slots) (q := q) (i := j.1) (W := j.2) (by omega), hk]; rfl), (by dsimp only; omega), (by dsimp only; exact rngW_set hx.2.2.1 _ (nameW_rng _)), (by dsimp only; rw [List.length_set]; exact hx.2.2.2)⟩ (by dsimp only; omega)
    · refine go_cast (tm' := [(1, vP b_1), (3, vP b_3), (4, vP ra_4), (5, vI 3)]) (L' := [E97ea4 b_1 q.slots q.bits q.others q.m0 q.m1 q.m2 q.m3, Ee1539 b_3 (cfgN q.slots), E3ba87 ra_4 A_5 false 0, E4b293 A_5 j.2]) (by rw [hk]) ?_
      refine go_tail_op (so := .obl (slAt A_5.aw ((slotAt (cfgN q.slots) 3).toNat) 1 = slAt A_5.aw ((slotAt (cfgN q.slots) 3).toNat) 1) (.obl ((slotAt (cfgN q.slots) 3).toNat < j.2.length) (.ex fun x_13 : Int => .obl ([vU (nameW q.m3)] = (encI .u64) x_13) (.ok .skip [E97ea4 b_1 q.slots q.bits q.others q.m0 q.m1 q.m2 q.m3, Ee1539 b_3 (cfgN q.slots), E3ba87 ra_4 A_5 false 0, E4b293 A_5 (j.2.set ((slotAt (cfgN q.slots) 3).toNat) x_13)])))) (dst := none) (ps := [ra_4 = ra_4, b_3 = b_3, b_1 = b_1, A_5.aw = A_5.aw ∧ A_5.n = j.2.length, (0 : Int) ≤ (slotAt (cfgN q.slots) 3) ∧ (slotAt (cfgN q.slots) 3) < ((j.2.length : Nat) : Int)]) (cs := [(63, #[cfgV (cfgN q.slots), vI 3], vI (slotAt (cfgN q.slots) 3)), (72, #[vI q.m3], vU (nameW q.m3))]) [(0, .h .w), (1, .h .w), (2, .h .w), (3, .h (.e 2)), (4, .h (.e 1)), (5, .h .w), (6, .q (vI (slotAt (cfgN q.slots) 3))), (7, .h .w), (8, .h .w), (9, .h (.w)), (10, .h (.e 0)), (11, .q (vU (nameW q.m3))), (12, .h (.s 3))] 13 [] (.j 3 ((slotAt (cfgN q.slots) 3).toNat)) [1, 3, 4, 5] (by kernel_rfl) (by kernel_rfl) ⟨rfl, rfl, rfl, ⟨rfl, (by first | rfl | omega | (simp; done) | (simp; omega))⟩, (by first | omega | (have hq := slotAt_ok hc (i := j.1) (by omega); rw [hk] at hq; first | omega | (simp; omega)) | (simp; done) | (simp; omega)), trivial⟩ ⟨⟨Tryz.call63, quiet_of [] (ref_Slot (cfgN q.slots) 3 (by first | assumption | omega | (simp only [InK] at *; omega)) (by simp only [InK]; omega)) (by kernel_rfl) (by rintro v post ⟨rfl, rfl⟩; exact ⟨rfl, rfl⟩)⟩, ⟨Tryz.call72, quiet_of [] (law_name q.m3) (by kernel_rfl) (by rintro v post ⟨rfl, rfl⟩; exact ⟨rfl, rfl⟩)⟩, trivial⟩ ?_
      refine sat_obl rfl ?_
      refine sat_obl (by first | omega | (have hq := slotAt_ok hc (i := j.1) (by omega); rw [hk] at hq; first | omega | (simp; omega)) | (simp; done) | (simp; omega)) ?_
      refine sat_ex ((nameW q.m3) : Int) ?_
      refine sat_obl rfl ?_
      refine sat_skip ?_
      refine tail_next (tm' := [(1, vP b_1), (3, vP b_3), (4, vP ra_4), (5, vI 3)]) (ps2 := []) (by kernel_rfl) trivial ?_
      refine go_exec (rs := [.tmp 2]) (by kernel_rfl) 4000 [.w, .z [] 0 [1, 3, 4, 5]] (o := .stop [.j J_7, .b 0, .c [1, 1, 1, 1]] [(1, vP b_1), (3, vP b_3), (4, vP ra_4), (5, vI 4)] [E97ea4 b_1 q.slots q.bits q.others q.m0 q.m1 q.m2 q.m3, Ee1539 b_3 (cfgN q.slots), E3ba87 ra_4 A_5 false 0, E4b293 A_5 (j.2.set ((slotAt (cfgN q.slots) 3).toNat) (nameW q.m3))]) (by kernel_rfl) ?_
      refine ok_stop ?_
      exact go_back hJ_7 (4, j.2.set ((slotAt (cfgN q.slots) 3).toNat) (nameW q.m3)) [0, 1, 2, 3] (by kernel_rfl) (by kernel_rfl) (by kernel_rfl) ⟨(by dsimp only; rw [← hx.1, slotsW_next (c := cfgN q.slots) (q := q) (i := j.1) (W := j.2) (by omega), hk]; rfl), (by dsimp only; omega), (by dsimp only; exact rngW_set hx.2.2.1 _ (nameW_rng _)), (by dsimp only; rw [List.length_set]; exact hx.2.2.2)⟩ (by dsimp only; omega)
  · replace h_9 := decF h_9
    refine ok_obl rfl ?_
    refine ok_obl ⟨rfl, (by first | rfl | omega | (simp; done) | (simp; omega))⟩ ?_
    refine ok_obl (by first | omega | (have hq := slotAt_ok hc (i := j.1) (by omega); rw [hk] at hq; first | omega | (simp; omega)) | (simp; done) | (simp; omega)) ?_
    refine ok_obl rfl ?_
    refine ok_obl (by first | omega | (have hq := slotAt_ok hc (i := j.1) (by omega); rw [hk] at hq; first | omega | (simp; omega)) | (simp; done) | (simp; omega)) ?_
    refine ok_ex (0 : Int) ?_
    refine ok_obl rfl ?_
    refine ok_stop ?_
    refine go_loop (ι := LkI) (fun l0 => [(1, vP b_1), (3, vP b_3), (4, vP ra_4), (6, vI 0), (7, vI l0.at_), (8, vI l0.i)]) (fun l0 => [E97ea4 b_1 q.slots q.bits q.others q.m0 q.m1 q.m2 q.m3, Ee1539 b_3 (cfgN q.slots), E3ba87 ra_4 A_5 false 0, E4b293 A_5 l0.W]) (fun l0 => linkW (cfgN q.slots) q.bits (3 - l0.i).toNat l0.i l0.at_ l0.W = linkW (cfgN q.slots) q.bits 3 0 3 ((slotsW (cfgN q.slots) q (cfgN q.slots).slots.toNat 0 A_5.ws).set 3 0) ∧ (0 ≤ l0.i ∧ l0.i ≤ 3) ∧ (0 ≤ l0.at_ ∧ l0.at_ < (A_5.n : Int)) ∧ RngW l0.W ∧ l0.W.length = A_5.n) (fun l0 => (3 - l0.i).toNat) ⟨0, 3, j.2.set 3 0⟩ [1, 3, 4, 6, 7, 8] [0, 1, 2, 3] (by kernel_rfl) (by kernel_rfl) (by kernel_rfl) (by kernel_rfl) ⟨(by dsimp only; rw [← hx.1, slotsW_end (c := cfgN q.slots) (q := q) (i := j.1) (W := j.2) (by omega)]; rfl), (by dsimp only; omega), (by dsimp only; omega), (rngW_set hx.2.2.1 _ (by omega)), (by dsimp only; simp; omega)⟩ ?_
    intro l0 J_14 hIJ_14 hJ_14
    have hy0 := hIJ_14
    have hlen0 := hy0.2.2.2.2
    refine go_exec (rs := [.tmp 2]) (by kernel_rfl) 4000 [.w, .w, .sp [51] [.e 0, .n, .n, .sp [60] [.e 2, .n, .n, .s 3, .j 3 l0.at_.toNat, .e 1, .n, .z q12_4 3 [1, 3, 4, 6, 8, 70, 72]] [.n, .z [] 0 [1, 3, 4, 6, 7, 8]]] [.w, .u, .w, .e 2, .s 3, .j 3 4, .w, .z q12_1 0 [1, 3, 4, 6, 7, 8]]] (o := .br (decide (l0.i < 3)) (.obl (b_1 = b_1) (.obl (InK .u64 l0.i) (.obl ((0 : Int) ≤ l0.i) (.br ((bAnd .i64 (bShr .i64 q.bits l0.i) 1) == 0) (.obl (ra_4 = ra_4) (.obl (InK .i64 (l0.i + 1)) (.obl (InK .u64 (l0.i + 1)) (.obl (A_5.aw = A_5.aw ∧ A_5.n = l0.W.length) (.obl ((0 : Int) ≤ l0.at_ ∧ l0.at_ < ((l0.W.length : Nat) : Int)) (.obl (slAt A_5.aw l0.at_.toNat 1 = slAt A_5.aw l0.at_.toNat 1) (.obl (l0.at_.toNat < l0.W.length) (.ex fun x_15 : Int => .obl ([vU (l0.i + 1)] = (encI .u64) x_15) (.obl (b_3 = b_3) (.obl (InK .i64 (l0.i + 1)) (.stop [.o q12_4 3, .c q12_5, .b 5, .c q12_6, .j J_14, .b 4, .b 3, .c q12_2, .r q12_3, .b 2, .c [1, 1, 1, 1, 1]] [(1, vP b_1), (3, vP b_3), (4, vP ra_4), (6, vI 0), (8, vI l0.i), (70, cfgV (cfgN q.slots)), (72, vI (l0.i + 1))] [E97ea4 b_1 q.slots q.bits q.others q.m0 q.m1 q.m2 q.m3, Ee1539 b_3 (cfgN q.slots), E3ba87 ra_4 A_5 false 0, E4b293 A_5 (l0.W.set l0.at_.toNat x_15)]))))))))))) (.obl (InK .i64 (l0.i + 1)) (.stop [.j J_14, .b 4, .b 3, .c q12_2, .r q12_3, .b 2, .c [1, 1, 1, 1, 1]] [(1, vP b_1), (3, vP b_3), (4, vP ra_4), (6, vI 0), (7, vI l0.at_), (8, vI (l0.i + 1))] [E97ea4 b_1 q.slots q.bits q.others q.m0 q.m1 q.m2 q.m3, Ee1539 b_3 (cfgN q.slots), E3ba87 ra_4 A_5 false 0, E4b293 A_5 l0.W])))))) (.obl (ra_4 = ra_4) (.obl (A_5.aw = A_5.aw ∧ A_5.n = l0.W.length) (.obl ((0 : Int) ≤ 4 ∧ 4 < ((l0.W.length : Nat) : Int)) (.obl (slAt A_5.aw 4 1 = slAt A_5.aw 4 1) (.obl (4 < l0.W.length) (.ex fun x_16 : Int => .obl ([vU 0] = (encI .u64) x_16) (.stop [.c q12_1, .b 4, .b 3, .c q12_2, .r q12_3, .b 2, .c [1, 1, 1, 1, 1]] [(1, vP b_1), (3, vP b_3), (4, vP ra_4), (6, vI 1), (7, vI 4), (8, vI 3)] [E97ea4 b_1 q.slots q.bits q.others q.m0 q.m1 q.m2 q.m3, Ee1539 b_3 (cfgN q.slots), E3ba87 ra_4 A_5 false 0, E4b293 A_5 (l0.W.set 4 x_16)])))))))) (by kernel_rfl) ?_
    refine ok_br (fun h_17 => ?_) (fun h_17 => ?_)
    · replace h_17 := decT h_17
      refine ok_obl rfl ?_
      refine ok_obl (by simp only [InK]; omega) ?_
      refine ok_obl (by first | omega | (simp; done) | (simp; omega)) ?_
      refine ok_br (fun h_18 => ?_) (fun h_18 => ?_)
      · replace h_18 := beqT h_18
        refine ok_obl rfl ?_
        refine ok_obl (by simp only [InK]; omega) ?_
        refine ok_obl (by simp only [InK]; omega) ?_
        refine ok_obl ⟨rfl, (by first | rfl | omega | (simp; done) | (simp; omega))⟩ ?_
        refine ok_obl (by first | omega | (have hq := slotAt_ok hc (i := j.1) (by omega); rw [hk] at hq; first | omega | (simp; omega)) | (simp; done) | (simp; omega)) ?_
        refine ok_obl rfl ?_
        refine ok_obl (by first | omega | (have hq := slotAt_ok hc (i := j.1) (by omega); rw [hk] at hq; first | omega | (simp; omega)) | (simp; done) | (simp; omega)) ?_
        refine ok_ex ((l0.i + 1) : Int) ?_
        refine ok_obl rfl ?_
        refine ok_obl rfl ?_
        refine ok_obl (by simp only [InK]; omega) ?_
        refine ok_stop ?_
        refine go_call (some 73) [] Tryz.call51 (ref_Block (cfgN q.slots) (l0.i + 1) (by first | assumption | omega | (simp only [InK] at *; omega)) (by show 1 ≤ _ ∧ _ ≤ 3 + 3; omega)) (by kernel_rfl) ?_
        rintro v post ⟨rfl, rfl⟩
        refine go_exec (rs := [.tmp 2]) (by kernel_rfl) 4000 [.e 2, .s 3, .j 3 ((blockAt (cfgN q.slots) (l0.i + 1)).toNat), .n, .z [] 0 [1, 3, 4, 6, 7, 8]] (o := .obl (ra_4 = ra_4) (.obl (A_5.aw = A_5.aw ∧ A_5.n = (l0.W.set l0.at_.toNat (l0.i + 1)).length) (.obl ((0 : Int) ≤ (blockAt (cfgN q.slots) (l0.i + 1)) ∧ (blockAt (cfgN q.slots) (l0.i + 1)) < (((l0.W.set l0.at_.toNat (l0.i + 1)).length : Nat) : Int)) (.obl (slAt A_5.aw ((blockAt (cfgN q.slots) (l0.i + 1)).toNat) 1 = slAt A_5.aw ((blockAt (cfgN q.slots) (l0.i + 1)).toNat) 1) (.obl ((blockAt (cfgN q.slots) (l0.i + 1)).toNat < (l0.W.set l0.at_.toNat (l0.i + 1)).length) (.ex fun x_19 : Int => .obl ([vU 0] = (encI .u64) x_19) (.obl (InK .i64 (l0.i + 1)) (.stop [.j J_14, .b 4, .b 3, .c q12_2, .r q12_3, .b 2, .c [1, 1, 1, 1, 1]] [(1, vP b_1), (3, vP b_3), (4, vP ra_4), (6, vI 0), (7, vI (blockAt (cfgN q.slots) (l0.i + 1))), (8, vI (l0.i + 1))] [E97ea4 b_1 q.slots q.bits q.others q.m0 q.m1 q.m2 q.m3, Ee1539 b_3 (cfgN q.slots), E3ba87 ra_4 A_5 false 0, E4b293 A_5 ((l0.W.set l0.at_.toNat (l0.i + 1)).set ((blockAt (cfgN q.slots) (l0.i + 1)).toNat) x_19)])))))))) (by kernel_rfl) ?_
        refine ok_obl rfl ?_
        refine ok_obl ⟨rfl, (by first | rfl | omega | (simp; done) | (simp; omega))⟩ ?_
        refine ok_obl (by have hq := blockAt_ok hc (clsOf_pos (c := cfgN q.slots) (b := l0.i + 1) (by show 1 ≤ _ ∧ _ ≤ 3 + 3; omega)); first | omega | (simp; omega)) ?_
        refine ok_obl rfl ?_
        refine ok_obl (by have hq := blockAt_ok hc (clsOf_pos (c := cfgN q.slots) (b := l0.i + 1) (by show 1 ≤ _ ∧ _ ≤ 3 + 3; omega)); first | omega | (simp; omega)) ?_
        refine ok_ex (0 : Int) ?_
        refine ok_obl rfl ?_
        refine ok_obl (by simp only [InK]; omega) ?_
        refine ok_stop ?_
        exact go_back hJ_14 (⟨(l0.i + 1), blockAt (cfgN q.slots) (l0.i + 1), (l0.W.set l0.at_.toNat (l0.i + 1)).set ((blockAt (cfgN q.slots) (l0.i + 1)).toNat) 0⟩ : LkI) [0, 1, 2, 3] (by kernel_rfl) (by kernel_rfl) (by kernel_rfl) (by first | exact ⟨(by dsimp only; rw [← hy0.1, linkW_yes (c := cfgN q.slots) (bits := q.bits) (e := 3) (i := l0.i) (at_ := l0.at_) (W := l0.W) (by omega) (by assumption)]), (by dsimp only; omega), (by dsimp only; have := blockAt_ok hc (clsOf_pos (c := cfgN q.slots) (b := l0.i + 1) (by show 1 ≤ l0.i + 1 ∧ l0.i + 1 ≤ 3 + 3; omega)); omega), rngW_set (rngW_set hy0.2.2.2.1 _ (by omega)) _ (by omega), (by dsimp only; simp; omega)⟩ | exact ⟨(by dsimp only; rw [← hy0.1, linkW_no (c := cfgN q.slots) (bits := q.bits) (e := 3) (i := l0.i) (at_ := l0.at_) (W := l0.W) (by omega) (by assumption)]), (by dsimp only; omega), hy0.2.2.1, hy0.2.2.2.1, hy0.2.2.2.2⟩) (by dsimp only; omega)
      · replace h_18 := beqF h_18
        refine ok_obl (by simp only [InK]; omega) ?_
        refine ok_stop ?_
        exact go_back hJ_14 (⟨(l0.i + 1), l0.at_, l0.W⟩ : LkI) [0, 1, 2, 3] (by kernel_rfl) (by kernel_rfl) (by kernel_rfl) (by first | exact ⟨(by dsimp only; rw [← hy0.1, linkW_yes (c := cfgN q.slots) (bits := q.bits) (e := 3) (i := l0.i) (at_ := l0.at_) (W := l0.W) (by omega) (by assumption)]), (by dsimp only; omega), (by dsimp only; have := blockAt_ok hc (clsOf_pos (c := cfgN q.slots) (b := l0.i + 1) (by show 1 ≤ l0.i + 1 ∧ l0.i + 1 ≤ 3 + 3; omega)); omega), rngW_set (rngW_set hy0.2.2.2.1 _ (by omega)) _ (by omega), (by dsimp only; simp; omega)⟩ | exact ⟨(by dsimp only; rw [← hy0.1, linkW_no (c := cfgN q.slots) (bits := q.bits) (e := 3) (i := l0.i) (at_ := l0.at_) (W := l0.W) (by omega) (by assumption)]), (by dsimp only; omega), hy0.2.2.1, hy0.2.2.2.1, hy0.2.2.2.2⟩) (by dsimp only; omega)
    · replace h_17 := decF h_17
      refine ok_obl rfl ?_
      refine ok_obl ⟨rfl, (by first | rfl | omega | (simp; done) | (simp; omega))⟩ ?_
      refine ok_obl (by first | omega | (have hq := slotAt_ok hc (i := j.1) (by omega); rw [hk] at hq; first | omega | (simp; omega)) | (simp; done) | (simp; omega)) ?_
      refine ok_obl rfl ?_
      refine ok_obl (by first | omega | (have hq := slotAt_ok hc (i := j.1) (by omega); rw [hk] at hq; first | omega | (simp; omega)) | (simp; done) | (simp; omega)) ?_
      refine ok_ex (0 : Int) ?_
      refine ok_obl rfl ?_
      refine ok_stop ?_
      refine go_loop (ι := LkI) (fun l1 => [(1, vP b_1), (3, vP b_3), (4, vP ra_4), (6, vI 1), (7, vI l1.at_), (8, vI l1.i)]) (fun l1 => [E97ea4 b_1 q.slots q.bits q.others q.m0 q.m1 q.m2 q.m3, Ee1539 b_3 (cfgN q.slots), E3ba87 ra_4 A_5 false 0, E4b293 A_5 l1.W]) (fun l1 => linkW (cfgN q.slots) q.bits (6 - l1.i).toNat l1.i l1.at_ l1.W = linkW (cfgN q.slots) q.bits 3 3 4 ((linkW (cfgN q.slots) q.bits 3 0 3 ((slotsW (cfgN q.slots) q (cfgN q.slots).slots.toNat 0 A_5.ws).set 3 0)).set 4 0) ∧ (3 ≤ l1.i ∧ l1.i ≤ 6) ∧ (0 ≤ l1.at_ ∧ l1.at_ < (A_5.n : Int)) ∧ RngW l1.W ∧ l1.W.length = A_5.n) (fun l1 => (6 - l1.i).toNat) ⟨3, 4, l0.W.set 4 0⟩ [1, 3, 4, 6, 7, 8] [0, 1, 2, 3] (by kernel_rfl) (by kernel_rfl) (by kernel_rfl) (by kernel_rfl) ⟨(by dsimp only; rw [← hy0.1, linkW_end (c := cfgN q.slots) (bits := q.bits) (e := 3) (i := l0.i) (at_ := l0.at_) (W := l0.W) (by omega)]; rfl), (by dsimp only; omega), (by dsimp only; omega), (rngW_set hy0.2.2.2.1 _ (by omega)), (by dsimp only; simp; omega)⟩ ?_
      intro l1 J_20 hIJ_20 hJ_20
      have hy1 := hIJ_20
      have hlen1 := hy1.2.2.2.2
      refine go_exec (rs := [.tmp 2]) (by kernel_rfl) 4000 [.w, .w, .sp [51] [.e 0, .n, .n, .sp [60] [.e 2, .n, .n, .s 3, .j 3 l1.at_.toNat, .e 1, .n, .z q12_4 3 [1, 3, 4, 6, 8, 70, 72]] [.n, .z [] 0 [1, 3, 4, 6, 7, 8]]] [.w, .u]] (o := .br (decide (l1.i < 6)) (.obl (b_1 = b_1) (.obl (InK .u64 l1.i) (.obl ((0 : Int) ≤ l1.i) (.br ((bAnd .i64 (bShr .i64 q.bits l1.i) 1) == 0) (.obl (ra_4 = ra_4) (.obl (InK .i64 (l1.i + 1)) (.obl (InK .u64 (l1.i + 1)) (.obl (A_5.aw = A_5.aw ∧ A_5.n = l1.W.length) (.obl ((0 : Int) ≤ l1.at_ ∧ l1.at_ < ((l1.W.length : Nat) : Int)) (.obl (slAt A_5.aw l1.at_.toNat 1 = slAt A_5.aw l1.at_.toNat 1) (.obl (l1.at_.toNat < l1.W.length) (.ex fun x_21 : Int => .obl ([vU (l1.i + 1)] = (encI .u64) x_21) (.obl (b_3 = b_3) (.obl (InK .i64 (l1.i + 1)) (.stop [.o q12_4 3, .c q12_5, .b 5, .c q12_6, .j J_20, .b 4, .b 3, .c q12_2, .r q12_3, .b 2, .c [1, 1, 1, 1, 1]] [(1, vP b_1), (3, vP b_3), (4, vP ra_4), (6, vI 1), (8, vI l1.i), (70, cfgV (cfgN q.slots)), (72, vI (l1.i + 1))] [E97ea4 b_1 q.slots q.bits q.others q.m0 q.m1 q.m2 q.m3, Ee1539 b_3 (cfgN q.slots), E3ba87 ra_4 A_5 false 0, E4b293 A_5 (l1.W.set l1.at_.toNat x_21)]))))))))))) (.obl (InK .i64 (l1.i + 1)) (.stop [.j J_20, .b 4, .b 3, .c q12_2, .r q12_3, .b 2, .c [1, 1, 1, 1, 1]] [(1, vP b_1), (3, vP b_3), (4, vP ra_4), (6, vI 1), (7, vI l1.at_), (8, vI (l1.i + 1))] [E97ea4 b_1 q.slots q.bits q.others q.m0 q.m1 q.m2 q.m3, Ee1539 b_3 (cfgN q.slots), E3ba87 ra_4 A_5 false 0, E4b293 A_5 l1.W])))))) (.ret (vP ra_4) [E97ea4 b_1 q.slots q.bits q.others q.m0 q.m1 q.m2 q.m3, Ee1539 b_3 (cfgN q.slots), E3ba87 ra_4 A_5 false 0, E4b293 A_5 l1.W])) (by kernel_rfl) ?_
      refine ok_br (fun h_22 => ?_) (fun h_22 => ?_)
      · replace h_22 := decT h_22
        refine ok_obl rfl ?_
        refine ok_obl (by simp only [InK]; omega) ?_
        refine ok_obl (by first | omega | (simp; done) | (simp; omega)) ?_
        refine ok_br (fun h_23 => ?_) (fun h_23 => ?_)
        · replace h_23 := beqT h_23
          refine ok_obl rfl ?_
          refine ok_obl (by simp only [InK]; omega) ?_
          refine ok_obl (by simp only [InK]; omega) ?_
          refine ok_obl ⟨rfl, (by first | rfl | omega | (simp; done) | (simp; omega))⟩ ?_
          refine ok_obl (by first | omega | (have hq := slotAt_ok hc (i := j.1) (by omega); rw [hk] at hq; first | omega | (simp; omega)) | (simp; done) | (simp; omega)) ?_
          refine ok_obl rfl ?_
          refine ok_obl (by first | omega | (have hq := slotAt_ok hc (i := j.1) (by omega); rw [hk] at hq; first | omega | (simp; omega)) | (simp; done) | (simp; omega)) ?_
          refine ok_ex ((l1.i + 1) : Int) ?_
          refine ok_obl rfl ?_
          refine ok_obl rfl ?_
          refine ok_obl (by simp only [InK]; omega) ?_
          refine ok_stop ?_
          refine go_call (some 73) [] Tryz.call51 (ref_Block (cfgN q.slots) (l1.i + 1) (by first | assumption | omega | (simp only [InK] at *; omega)) (by show 1 ≤ _ ∧ _ ≤ 3 + 3; omega)) (by kernel_rfl) ?_
          rintro v post ⟨rfl, rfl⟩
          refine go_exec (rs := [.tmp 2]) (by kernel_rfl) 4000 [.e 2, .s 3, .j 3 ((blockAt (cfgN q.slots) (l1.i + 1)).toNat), .n, .z [] 0 [1, 3, 4, 6, 7, 8]] (o := .obl (ra_4 = ra_4) (.obl (A_5.aw = A_5.aw ∧ A_5.n = (l1.W.set l1.at_.toNat (l1.i + 1)).length) (.obl ((0 : Int) ≤ (blockAt (cfgN q.slots) (l1.i + 1)) ∧ (blockAt (cfgN q.slots) (l1.i + 1)) < (((l1.W.set l1.at_.toNat (l1.i + 1)).length : Nat) : Int)) (.obl (slAt A_5.aw ((blockAt (cfgN q.slots) (l1.i + 1)).toNat) 1 = slAt A_5.aw ((blockAt (cfgN q.slots) (l1.i + 1)).toNat) 1) (.obl ((blockAt (cfgN q.slots) (l1.i + 1)).toNat < (l1.W.set l1.at_.toNat (l1.i + 1)).length) (.ex fun x_24 : Int => .obl ([vU 0] = (encI .u64) x_24) (.obl (InK .i64 (l1.i + 1)) (.stop [.j J_20, .b 4, .b 3, .c q12_2, .r q12_3, .b 2, .c [1, 1, 1, 1, 1]] [(1, vP b_1), (3, vP b_3), (4, vP ra_4), (6, vI 1), (7, vI (blockAt (cfgN q.slots) (l1.i + 1))), (8, vI (l1.i + 1))] [E97ea4 b_1 q.slots q.bits q.others q.m0 q.m1 q.m2 q.m3, Ee1539 b_3 (cfgN q.slots), E3ba87 ra_4 A_5 false 0, E4b293 A_5 ((l1.W.set l1.at_.toNat (l1.i + 1)).set ((blockAt (cfgN q.slots) (l1.i + 1)).toNat) x_24)])))))))) (by kernel_rfl) ?_
          refine ok_obl rfl ?_
          refine ok_obl ⟨rfl, (by first | rfl | omega | (simp; done) | (simp; omega))⟩ ?_
          refine ok_obl (by have hq := blockAt_ok hc (clsOf_pos (c := cfgN q.slots) (b := l1.i + 1) (by show 1 ≤ _ ∧ _ ≤ 3 + 3; omega)); first | omega | (simp; omega)) ?_
          refine ok_obl rfl ?_
          refine ok_obl (by have hq := blockAt_ok hc (clsOf_pos (c := cfgN q.slots) (b := l1.i + 1) (by show 1 ≤ _ ∧ _ ≤ 3 + 3; omega)); first | omega | (simp; omega)) ?_
          refine ok_ex (0 : Int) ?_
          refine ok_obl rfl ?_
          refine ok_obl (by simp only [InK]; omega) ?_
          refine ok_stop ?_
          exact go_back hJ_20 (⟨(l1.i + 1), blockAt (cfgN q.slots) (l1.i + 1), (l1.W.set l1.at_.toNat (l1.i + 1)).set ((blockAt (cfgN q.slots) (l1.i + 1)).toNat) 0⟩ : LkI) [0, 1, 2, 3] (by kernel_rfl) (by kernel_rfl) (by kernel_rfl) (by first | exact ⟨(by dsimp only; rw [← hy1.1, linkW_yes (c := cfgN q.slots) (bits := q.bits) (e := 6) (i := l1.i) (at_ := l1.at_) (W := l1.W) (by omega) (by assumption)]), (by dsimp only; omega), (by dsimp only; have := blockAt_ok hc (clsOf_pos (c := cfgN q.slots) (b := l1.i + 1) (by show 1 ≤ l1.i + 1 ∧ l1.i + 1 ≤ 3 + 3; omega)); omega), rngW_set (rngW_set hy1.2.2.2.1 _ (by omega)) _ (by omega), (by dsimp only; simp; omega)⟩ | exact ⟨(by dsimp only; rw [← hy1.1, linkW_no (c := cfgN q.slots) (bits := q.bits) (e := 6) (i := l1.i) (at_ := l1.at_) (W := l1.W) (by omega) (by assumption)]), (by dsimp only; omega), hy1.2.2.1, hy1.2.2.2.1, hy1.2.2.2.2⟩) (by dsimp only; omega)
        · replace h_23 := beqF h_23
          refine ok_obl (by simp only [InK]; omega) ?_
          refine ok_stop ?_
          exact go_back hJ_20 (⟨(l1.i + 1), l1.at_, l1.W⟩ : LkI) [0, 1, 2, 3] (by kernel_rfl) (by kernel_rfl) (by kernel_rfl) (by first | exact ⟨(by dsimp only; rw [← hy1.1, linkW_yes (c := cfgN q.slots) (bits := q.bits) (e := 6) (i := l1.i) (at_ := l1.at_) (W := l1.W) (by omega) (by assumption)]), (by dsimp only; omega), (by dsimp only; have := blockAt_ok hc (clsOf_pos (c := cfgN q.slots) (b := l1.i + 1) (by show 1 ≤ l1.i + 1 ∧ l1.i + 1 ≤ 3 + 3; omega)); omega), rngW_set (rngW_set hy1.2.2.2.1 _ (by omega)) _ (by omega), (by dsimp only; simp; omega)⟩ | exact ⟨(by dsimp only; rw [← hy1.1, linkW_no (c := cfgN q.slots) (bits := q.bits) (e := 6) (i := l1.i) (at_ := l1.at_) (W := l1.W) (by omega) (by assumption)]), (by dsimp only; omega), hy1.2.2.1, hy1.2.2.2.1, hy1.2.2.2.2⟩) (by dsimp only; omega)
      · replace h_22 := decF h_22
        have eW : beginW (cfgN q.slots) q A_5.ws = l1.W := by
          unfold beginW; rw [← linkW_end (c := cfgN q.slots) (bits := q.bits) (e := 6) (i := l1.i) (at_ := l1.at_) (W := l1.W) (by omega)]; exact hy1.1.symm
        exact ret_ok (post := [E3ba87 ra_4 A_5 false 0, E4b293 A_5 l1.W]) [2, 3] (by kernel_rfl) ⟨ra_4, A_5, rfl, (by rw [eW]), hA⟩

end Go.Proofs.YtilaihbbollcnaaGreatDoor


/- Walks: what functions of the program and of the document compute, part 3 of those on which GuardNil rests. -/
import Derived.Test.YtilaihbbollcnaaDoorRtB

set_option linter.unusedVariables false
set_option linter.unusedSimpArgs false

namespace Go.Proofs.YtilaihbbollcnaaDoor
open Go.Sx
abbrev Ea4737 (x0 : Nat) (x1 : Int) (x2 : Int) (x3 : Int) (x4 : Int) (x5 : Int) (x6 : Int) (x7 : Int) (x8 : Int) (x9 : Int) (x10 : Int) (x11 : Int) (x12 : Int) (x13 : Int) (x14 : Value) (x15 : Int) (x16 : Int) (x17 : Int) (x18 : Int) : Ent := .pts x0 [.int .i64 x1, .int .i64 x2, .int .i64 x3, .int .i64 x4, .int .i64 x5, .int .i64 x6, .int .i64 x7, .int .i64 x8, .int .i64 x9, .int .i64 x10, .int .i64 x11, .int .i64 x12, .int .i64 x13, x14, .int .u64 x15, .int .i64 x16, .int .i64 x17, .int .i64 x18, .nilIface] 78
abbrev E7516a (x0 : Nat) (x1 : Int) (x2 : Int) (x3 : Int) (x4 : Int) : Ent := .pts x0 [.int .i64 x1, .int .i64 x2, .int .i64 x3, .int .i64 x4] 52

theorem plan_place0 (i m : Int) (f_ : Value)  :
    Ctr Tryd.prog 36 #[.agg #[vI 0, vI 0, vI 0, vI 0, vI 0, vI 0, vI 0, vI 0, vI 0], vI i, vI m, f_] [] (Ret (vI (-1)) []) := by
  refine ctr_of (args := [.agg #[vI 0, vI 0, vI 0, vI 0, vI 0, vI 0, vI 0, vI 0, vI 0], vI i, vI m, f_]) (fn := Tryd.f36) (body := B36) (nt := 23) Tryd.func36 (by kernel_rfl) (by kernel_rfl) ?_
  intro F
  refine go_exec (rs := [.tmp 8]) (by kernel_rfl) 4000 [.e 0, .z [0, 0, 1] 1 [1, 2, 3, 9]] (o := .new fun b_1 => .obl (b_1 = b_1) (.stop [.o [0, 0, 1] 1, .c [1, 0, 1], .c [1, 1]] [(1, vI i), (2, vI m), (3, f_), (9, .agg #[vI 0, vI 0, vI 0, vI 0, vI 0, vI 0, vI 0, vI 0, vI 0])] [E33767 b_1 0 0 0 0 0 0 0 0 0])) (by kernel_rfl) ?_
  refine ok_new fun b_1 => ?_
  refine ok_obl rfl ?_
  refine ok_stop ?_
  refine go_call (some 10) [] Tryd.call46 (plan_right0) (by kernel_rfl) ?_
  rintro v post ⟨rfl, rfl⟩
  refine go_exec (rs := [.tmp 8]) (by kernel_rfl) 4000 [] (o := .ret (vI (-1)) [E33767 b_1 0 0 0 0 0 0 0 0 0]) (by kernel_rfl) ?_
  exact ret_ok (post := []) [] (by kernel_rfl) ⟨rfl, (by kernel_rfl)⟩


theorem plan_Slot_zero (i : Int)  :
    Ctr Tryd.prog 20 #[.agg #[vI 0, vI 0, vI 0, vI 0, vI 0, vI 0, vI 0, vI 0, vI 0], vI i] [] (Ret (vI (-1)) []) := by
  refine ctr_of (args := [.agg #[vI 0, vI 0, vI 0, vI 0, vI 0, vI 0, vI 0, vI 0, vI 0], vI i]) (fn := Tryd.f20) (body := B20) (nt := 11) Tryd.func20 (by kernel_rfl) (by kernel_rfl) ?_
  intro F
  refine go_exec (rs := [.tmp 4]) (by kernel_rfl) 4000 [.e 0, .e 1, .e 0, .z [0, 1] 5 [5, 6, 8, 9]] (o := .new fun b_1 => .new fun b_2 => .obl (b_1 = b_1) (.obl (b_2 = b_2) (.obl (b_1 = b_1) (.stop [.o [0, 1] 5, .c [1, 1]] [(5, .agg #[vI 0, vI 0, vI 0, vI 0, vI 0, vI 0, vI 0, vI 0, vI 0]), (6, vI i), (8, vI 0), (9, .func (.func 44) #[] #[vP b_2])] [E33767 b_1 0 0 0 0 0 0 0 0 0, .pts b_2 [vI i] 3])))) (by kernel_rfl) ?_
  refine ok_new fun b_1 => ?_
  refine ok_new fun b_2 => ?_
  refine ok_obl rfl ?_
  refine ok_obl rfl ?_
  refine ok_obl rfl ?_
  refine ok_stop ?_
  refine go_call (some 10) [] Tryd.call36 (plan_place0 i 0 (.func (.func 44) #[] #[vP b_2])) (by kernel_rfl) ?_
  rintro v post ⟨rfl, rfl⟩
  refine go_exec (rs := [.tmp 4]) (by kernel_rfl) 4000 [] (o := .ret (vI (-1)) [E33767 b_1 0 0 0 0 0 0 0 0 0, .pts b_2 [vI i] 3]) (by kernel_rfl) ?_
  exact ret_ok (post := []) [] (by kernel_rfl) ⟨rfl, (by kernel_rfl)⟩


theorem plan_Control_zero (i : Int)  :
    Ctr Tryd.prog 11 #[.agg #[vI 0, vI 0, vI 0, vI 0, vI 0, vI 0, vI 0, vI 0, vI 0], vI i] [] (Ret (vI (-1)) []) := by
  refine ctr_of (args := [.agg #[vI 0, vI 0, vI 0, vI 0, vI 0, vI 0, vI 0, vI 0, vI 0], vI i]) (fn := Tryd.f11) (body := B11) (nt := 11) Tryd.func11 (by kernel_rfl) (by kernel_rfl) ?_
  intro F
  refine go_exec (rs := [.tmp 4]) (by kernel_rfl) 4000 [.e 0, .e 1, .e 0, .z [0, 1] 5 [5, 6, 8, 9]] (o := .new fun b_1 => .new fun b_2 => .obl (b_1 = b_1) (.obl (b_2 = b_2) (.obl (b_1 = b_1) (.stop [.o [0, 1] 5, .c [1, 1]] [(5, .agg #[vI 0, vI 0, vI 0, vI 0, vI 0, vI 0, vI 0, vI 0, vI 0]), (6, vI i), (8, vI 0), (9, .func (.func 37) #[] #[vP b_1, vP b_2])] [E33767 b_1 0 0 0 0 0 0 0 0 0, .pts b_2 [vI i] 3])))) (by kernel_rfl) ?_
  refine ok_new fun b_1 => ?_
  refine ok_new fun b_2 => ?_
  refine ok_obl rfl ?_
  refine ok_obl rfl ?_
  refine ok_obl rfl ?_
  refine ok_stop ?_
  refine go_call (some 10) [] Tryd.call36 (plan_place0 i 0 (.func (.func 37) #[] #[vP b_1, vP b_2])) (by kernel_rfl) ?_
  rintro v post ⟨rfl, rfl⟩
  refine go_exec (rs := [.tmp 4]) (by kernel_rfl) 4000 [] (o := .ret (vI (-1)) [E33767 b_1 0 0 0 0 0 0 0 0 0, .pts b_2 [vI i] 3]) (by kernel_rfl) ?_
  exact ret_ok (post := []) [] (by kernel_rfl) ⟨rfl, (by kernel_rfl)⟩


theorem guard_New0   :
    Ctr Tryd.prog 13 #[.agg #[vI 0, vI 0, vI 0, vI 0, vI 0, vI 0, vI 0, vI 0, vI 0], vI 0, vI 0, vI 0, vI 0] [] (Ret (.pointer none) []) := by
  refine ctr_of (args := [.agg #[vI 0, vI 0, vI 0, vI 0, vI 0, vI 0, vI 0, vI 0, vI 0], vI 0, vI 0, vI 0, vI 0]) (fn := Tryd.f13) (body := B13) (nt := 46) Tryd.func13 (by kernel_rfl) (by kernel_rfl) ?_
  intro F
  refine go_exec (rs := [.tmp 10]) (by kernel_rfl) 4000 [.z [0, 1] 0 [1, 2, 3, 4, 5]] (o := .new fun b_1 => .stop [.c [0, 1], .c [1, 1]] [(1, vI 0), (2, vI 0), (3, vI 0), (4, vI 0), (5, vP b_1)] [E33767 b_1 0 0 0 0 0 0 0 0 0]) (by kernel_rfl) ?_
  refine ok_new fun b_1 => ?_
  refine ok_stop ?_
  refine go_tail_op (so := .new fun b_2 => .ok (.value (vP b_2)) [E33767 b_1 0 0 0 0 0 0 0 0 0, Ea4737 b_2 0 0 0 0 0 0 0 0 0 0 0 (-1) (-1) (.nilFunc) 0 0 0 0]) (dst := (some 22)) (ps := [b_1 = b_1, b_1 = b_1, b_1 = b_1]) (cs := [(20, #[.agg #[vI 0, vI 0, vI 0, vI 0, vI 0, vI 0, vI 0, vI 0, vI 0], vI 0], vI (-1)), (11, #[.agg #[vI 0, vI 0, vI 0, vI 0, vI 0, vI 0, vI 0, vI 0, vI 0], vI 0], vI (-1))]) [(0, .h (.e 0)), (1, .h .w), (2, .h .w), (3, .h (.e 0)), (4, .h .w), (5, .q (vI (-1))), (6, .h (.e 0)), (7, .h .w), (8, .q (vI (-1))), (9, .h .w)] 10 [(11, .h .w)] .w [1, 5, 11] (by kernel_rfl) (by kernel_rfl) ⟨rfl, rfl, rfl, trivial⟩ ⟨⟨Tryd.call20, quiet_of [] (plan_Slot_zero 0) (by kernel_rfl) (by rintro v post ⟨rfl, rfl⟩; exact ⟨rfl, rfl⟩)⟩, ⟨Tryd.call11, quiet_of [] (plan_Control_zero 0) (by kernel_rfl) (by rintro v post ⟨rfl, rfl⟩; exact ⟨rfl, rfl⟩)⟩, trivial⟩ ?_
  refine sat_new fun b_2 => ?_
  refine sat_value ?_
  refine tail_next (tm' := [(1, vI 0), (5, vP b_1), (11, vP b_2)]) (ps2 := []) (by kernel_rfl) trivial ?_
  refine go_exec (rs := [.tmp 10]) (by kernel_rfl) 4000 [.z [0, 0, 1, 1] 0 [1, 5, 11]] (o := .stop [.c [0, 0, 1, 1], .c [1, 0, 1, 1], .c [1, 1, 1]] [(1, vI 0), (5, vP b_1), (11, vP b_2)] [E33767 b_1 0 0 0 0 0 0 0 0 0, Ea4737 b_2 0 0 0 0 0 0 0 0 0 0 0 (-1) (-1) (.nilFunc) 0 0 0 0]) (by kernel_rfl) ?_
  refine ok_stop ?_
  refine go_quiet (tm' := [(11, vP b_2), (39, .bool true)]) (ps := [b_2 = b_2, b_2 = b_2]) (cs := []) [(0, .h .w), (1, .h .w), (2, .h .w), (3, .h (.e 1)), (4, .h .w), (5, .h .w), (6, .h .w), (7, .h (.e 1)), (8, .h .w), (9, .h .w), (10, .h .w), (11, .h .w), (12, .h .w), (13, .h .w), (14, .h .w), (15, .h .w), (16, .h .w)] [11, 39] (by kernel_rfl) (by kernel_rfl) ⟨rfl, rfl, trivial⟩ trivial ?_
  refine go_exec (rs := [.tmp 10]) (by kernel_rfl) 4000 [] (o := .ret (.pointer none) [E33767 b_1 0 0 0 0 0 0 0 0 0, Ea4737 b_2 0 0 0 0 0 0 0 0 0 0 0 (-1) (-1) (.nilFunc) 0 0 0 0]) (by kernel_rfl) ?_
  exact ret_ok (post := []) [] (by kernel_rfl) ⟨rfl, (by kernel_rfl)⟩


theorem guard_NewBadA (c : Cfg) (cl sl tp ep : Int) (hc : c.Ok) (hm : bMin (bMin (slotAt c sl) (ctlAt c tp)) cl < 0) :
    Ctr Tryd.prog 13 #[cfgV c, vI cl, vI sl, vI tp, vI ep] [] (Ret (.pointer none) []) := by
  refine ctr_of (args := [cfgV c, vI cl, vI sl, vI tp, vI ep]) (fn := Tryd.f13) (body := B13) (nt := 46) Tryd.func13 (by kernel_rfl) (by kernel_rfl) ?_
  intro F
  refine go_exec (rs := [.tmp 10]) (by kernel_rfl) 4000 [.z [0, 1] 0 [1, 2, 3, 4, 5]] (o := .new fun b_1 => .stop [.c [0, 1], .c [1, 1]] [(1, vI cl), (2, vI sl), (3, vI tp), (4, vI ep), (5, vP b_1)] [Ee1539 b_1 c]) (by kernel_rfl) ?_
  refine ok_new fun b_1 => ?_
  refine ok_stop ?_
  refine go_tail_op (so := .new fun b_2 => .ok (.value (vP b_2)) [Ee1539 b_1 c, E52fd0 b_2 c cl ep (slotAt c sl) (ctlAt c tp) (.nilFunc) 0 0 0 0]) (dst := (some 22)) (ps := [b_1 = b_1, b_1 = b_1, b_1 = b_1]) (cs := [(20, #[cfgV c, vI sl], vI (slotAt c sl)), (11, #[cfgV c, vI tp], vI (ctlAt c tp))]) [(0, .h (.e 0)), (1, .h .w), (2, .h .w), (3, .h (.e 0)), (4, .h .w), (5, .q (vI (slotAt c sl))), (6, .h (.e 0)), (7, .h .w), (8, .q (vI (ctlAt c tp))), (9, .h .w)] 10 [(11, .h .w)] .w [1, 5, 11] (by kernel_rfl) (by kernel_rfl) ⟨rfl, rfl, rfl, trivial⟩ ⟨⟨Tryd.call20, quiet_of [] (plan_Slot c sl (by first | assumption | omega | (simp only [InK] at *; omega))) (by kernel_rfl) (by rintro v post ⟨rfl, rfl⟩; exact ⟨rfl, rfl⟩)⟩, ⟨Tryd.call11, quiet_of [] (plan_Control c tp (by first | assumption | omega | (simp only [InK] at *; omega))) (by kernel_rfl) (by rintro v post ⟨rfl, rfl⟩; exact ⟨rfl, rfl⟩)⟩, trivial⟩ ?_
  refine sat_new fun b_2 => ?_
  refine sat_value ?_
  refine tail_next (tm' := [(1, vI cl), (5, vP b_1), (11, vP b_2)]) (ps2 := []) (by kernel_rfl) trivial ?_
  refine go_exec (rs := [.tmp 10]) (by kernel_rfl) 4000 [.z [0, 0, 1, 1] 0 [1, 5, 11]] (o := .stop [.c [0, 0, 1, 1], .c [1, 0, 1, 1], .c [1, 1, 1]] [(1, vI cl), (5, vP b_1), (11, vP b_2)] [Ee1539 b_1 c, E52fd0 b_2 c cl ep (slotAt c sl) (ctlAt c tp) (.nilFunc) 0 0 0 0]) (by kernel_rfl) ?_
  refine ok_stop ?_
  refine go_quiet (tm' := [(11, vP b_2), (39, .bool true)]) (ps := [b_2 = b_2, b_2 = b_2, (decide ((bMin (bMin (slotAt c sl) (ctlAt c tp)) cl) < 0)) = true]) (cs := []) [(0, .h .w), (1, .h .w), (2, .h .w), (3, .h (.e 1)), (4, .h .w), (5, .h .w), (6, .h .w), (7, .h (.e 1)), (8, .h .w), (9, .h .w), (10, .h (.t true)), (11, .h .w), (12, .h .w), (13, .h .w), (14, .h .w), (15, .h .w), (16, .h .w)] [11, 39] (by kernel_rfl) (by kernel_rfl) ⟨rfl, rfl, (decide_eq_true hm), trivial⟩ trivial ?_
  refine go_exec (rs := [.tmp 10]) (by kernel_rfl) 4000 [] (o := .ret (.pointer none) [Ee1539 b_1 c, E52fd0 b_2 c cl ep (slotAt c sl) (ctlAt c tp) (.nilFunc) 0 0 0 0]) (by kernel_rfl) ?_
  exact ret_ok (post := []) [] (by kernel_rfl) ⟨rfl, (by kernel_rfl)⟩


theorem guard_NewBadB (c : Cfg) (cl sl tp ep : Int) (hc : c.Ok) (hm : ¬ bMin (bMin (slotAt c sl) (ctlAt c tp)) cl < 0) (hb : cl ≥ c.clients) :
    Ctr Tryd.prog 13 #[cfgV c, vI cl, vI sl, vI tp, vI ep] [] (Ret (.pointer none) []) := by
  refine ctr_of (args := [cfgV c, vI cl, vI sl, vI tp, vI ep]) (fn := Tryd.f13) (body := B13) (nt := 46) Tryd.func13 (by kernel_rfl) (by kernel_rfl) ?_
  intro F
  refine go_exec (rs := [.tmp 10]) (by kernel_rfl) 4000 [.z [0, 1] 0 [1, 2, 3, 4, 5]] (o := .new fun b_1 => .stop [.c [0, 1], .c [1, 1]] [(1, vI cl), (2, vI sl), (3, vI tp), (4, vI ep), (5, vP b_1)] [Ee1539 b_1 c]) (by kernel_rfl) ?_
  refine ok_new fun b_1 => ?_
  refine ok_stop ?_
  refine go_tail_op (so := .new fun b_2 => .ok (.value (vP b_2)) [Ee1539 b_1 c, E52fd0 b_2 c cl ep (slotAt c sl) (ctlAt c tp) (.nilFunc) 0 0 0 0]) (dst := (some 22)) (ps := [b_1 = b_1, b_1 = b_1, b_1 = b_1]) (cs := [(20, #[cfgV c, vI sl], vI (slotAt c sl)), (11, #[cfgV c, vI tp], vI (ctlAt c tp))]) [(0, .h (.e 0)), (1, .h .w), (2, .h .w), (3, .h (.e 0)), (4, .h .w), (5, .q (vI (slotAt c sl))), (6, .h (.e 0)), (7, .h .w), (8, .q (vI (ctlAt c tp))), (9, .h .w)] 10 [(11, .h .w)] .w [1, 5, 11] (by kernel_rfl) (by kernel_rfl) ⟨rfl, rfl, rfl, trivial⟩ ⟨⟨Tryd.call20, quiet_of [] (plan_Slot c sl (by first | assumption | omega | (simp only [InK] at *; omega))) (by kernel_rfl) (by rintro v post ⟨rfl, rfl⟩; exact ⟨rfl, rfl⟩)⟩, ⟨Tryd.call11, quiet_of [] (plan_Control c tp (by first | assumption | omega | (simp only [InK] at *; omega))) (by kernel_rfl) (by rintro v post ⟨rfl, rfl⟩; exact ⟨rfl, rfl⟩)⟩, trivial⟩ ?_
  refine sat_new fun b_2 => ?_
  refine sat_value ?_
  refine tail_next (tm' := [(1, vI cl), (5, vP b_1), (11, vP b_2)]) (ps2 := []) (by kernel_rfl) trivial ?_
  refine go_exec (rs := [.tmp 10]) (by kernel_rfl) 4000 [.z [0, 0, 1, 1] 0 [1, 5, 11]] (o := .stop [.c [0, 0, 1, 1], .c [1, 0, 1, 1], .c [1, 1, 1]] [(1, vI cl), (5, vP b_1), (11, vP b_2)] [Ee1539 b_1 c, E52fd0 b_2 c cl ep (slotAt c sl) (ctlAt c tp) (.nilFunc) 0 0 0 0]) (by kernel_rfl) ?_
  refine ok_stop ?_
  refine go_quiet (tm' := [(11, vP b_2), (39, .bool true)]) (ps := [b_2 = b_2, b_2 = b_2, (decide ((bMin (bMin (slotAt c sl) (ctlAt c tp)) cl) < 0)) = false, b_1 = b_1, (decide (cl ≥ c.clients)) = true]) (cs := []) [(0, .h .w), (1, .h .w), (2, .h .w), (3, .h (.e 1)), (4, .h .w), (5, .h .w), (6, .h .w), (7, .h (.e 1)), (8, .h .w), (9, .h .w), (10, .h (.t false)), (11, .h .w), (12, .h .w), (13, .h .w), (14, .h (.e 0)), (15, .h (.t true)), (16, .h .w)] [11, 39] (by kernel_rfl) (by kernel_rfl) ⟨rfl, rfl, (decide_eq_false hm), rfl, (decide_eq_true hb), trivial⟩ trivial ?_
  refine go_exec (rs := [.tmp 10]) (by kernel_rfl) 4000 [] (o := .ret (.pointer none) [Ee1539 b_1 c, E52fd0 b_2 c cl ep (slotAt c sl) (ctlAt c tp) (.nilFunc) 0 0 0 0]) (by kernel_rfl) ?_
  exact ret_ok (post := []) [] (by kernel_rfl) ⟨rfl, (by kernel_rfl)⟩


theorem gStep_nil   :
    Ctr Tryd.prog 15 #[.pointer none, .pointer none] [] (Ret (.bool true) []) := by
  refine ctr_of (args := [.pointer none, .pointer none]) (fn := Tryd.f15) (body := B15) (nt := 16) Tryd.func15 (by kernel_rfl) (by kernel_rfl) ?_
  intro F
  refine go_exec (rs := [.tmp 4]) (by kernel_rfl) 4000 [.z [0, 0, 1] 1 [0, 1, 5]] (o := .stop [.o [0, 0, 1] 1, .c [1, 0, 1], .c [1, 1]] [(0, .pointer none), (1, .pointer none), (5, .pointer none)] []) (by kernel_rfl) ?_
  refine ok_stop ?_
  refine go_call (some 6) [] Tryd.call14 (gDone_nil) (by kernel_rfl) ?_
  rintro v post ⟨rfl, rfl⟩
  refine go_exec (rs := [.tmp 4]) (by kernel_rfl) 4000 [.z [0, 1, 1] 1 [14]] (o := .stop [.o [0, 1, 1] 1, .c [1, 1, 1]] [(14, .pointer none)] []) (by kernel_rfl) ?_
  refine ok_stop ?_
  refine go_call (some 15) [] Tryd.call14 (gDone_nil) (by kernel_rfl) ?_
  rintro v post ⟨rfl, rfl⟩
  refine go_exec (rs := [.tmp 4]) (by kernel_rfl) 4000 [] (o := .ret (.bool true) []) (by kernel_rfl) ?_
  exact ret_ok (post := []) [] (by kernel_rfl) ⟨rfl, (by kernel_rfl)⟩

noncomputable def B4 : Code := (Tryd.f4.body).getD .skip

set_option maxHeartbeats 4000000 in
theorem law_gnil (o_ : Obj) (q0 q1 q2 q3 : Int) (ho : IsH o_) :
    Ctr Tryd.prog 4 #[.agg #[vI q0, vI q1, vI q2, vI q3]] [.raw 0 o_] (Ret (.bool true) [.raw 0 o_]) := by
  refine ctr_of (args := [.agg #[vI q0, vI q1, vI q2, vI q3]]) (fn := Tryd.f4) (body := B4) (nt := 87) Tryd.func4 (by kernel_rfl) (by kernel_rfl) ?_
  intro F
  have hc := cfgR_ok 3
  refine go_exec (rs := [.tmp 2]) (by kernel_rfl) 4000 [.z [0, 1, 1] 0 [1, 3]] (o := .new fun b_1 => .stop [.o [0, 1, 1] 0, .c [1, 1, 1]] [(1, vP b_1), (3, .pointer none)] [.raw 0 o_, E7516a b_1 q0 q1 q2 q3]) (by kernel_rfl) ?_
  refine ok_new fun b_1 => ?_
  refine ok_stop ?_
  refine go_call (some 9) [] Tryd.call8 (law14_config 3) (by kernel_rfl) ?_
  rintro v post ⟨rfl, rfl⟩
  refine go_exec (rs := [.tmp 2]) (by kernel_rfl) 4000 [.e 2, .z [0, 1, 1, 1] 1 [1, 3, 4, 11]] (o := .new fun b_3 => .obl (b_3 = b_3) (.stop [.o [0, 1, 1, 1] 1, .c [1, 1, 1, 1]] [(1, vP b_1), (3, .pointer none), (4, vP b_3), (11, .pointer none)] [.raw 0 o_, E7516a b_1 q0 q1 q2 q3, Ee1539 b_3 (cfgR 3)])) (by kernel_rfl) ?_
  refine ok_new fun b_3 => ?_
  refine ok_obl rfl ?_
  refine ok_stop ?_
  refine go_call (some 12) [] Tryd.call16 (gTold_nil) (by kernel_rfl) ?_
  rintro v post ⟨rfl, rfl⟩
  refine go_exec (rs := [.tmp 2]) (by kernel_rfl) 4000 [.z [0, 1, 1, 1, 1] 0 [1, 3, 4, 5, 6]] (o := .stop [.o [0, 1, 1, 1, 1] 0, .c [1, 1, 1, 1, 1]] [(1, vP b_1), (3, .pointer none), (4, vP b_3), (5, vI 0), (6, .iface 49 (vI 1))] [.raw 0 o_, E7516a b_1 q0 q1 q2 q3, Ee1539 b_3 (cfgR 3)]) (by kernel_rfl) ?_
  refine ok_stop ?_
  by_cases h1 : q0 ≥ 0
  · skip
    by_cases h2 : q0 < 2
    · skip
      by_cases h3 : q1 ≥ 0
      · skip
        by_cases h4 : q1 < 2
        · skip
          by_cases h5 : q2 ≥ 0
          · skip
            by_cases h6 : q2 < 2
            · skip
              refine go_exec (rs := [.tmp 2]) (by kernel_rfl) 4000 [.e 2, .w, .e 1, .w, .e 1, .w, .e 1, .w, .e 1, .z [0, 1, 1, 1, 1] 9 [1, 3, 5, 6, 15, 17, 19, 21, 23]] (o := .obl (b_3 = b_3) (.obl (b_1 = b_1) (.obl (b_1 = b_1) (.obl (b_1 = b_1) (.obl (b_1 = b_1) (.stop [.o [0, 1, 1, 1, 1] 9, .c [1, 1, 1, 1, 1]] [(1, vP b_1), (3, .pointer none), (5, vI 0), (6, .iface 49 (vI 1)), (15, cfgV (cfgR 3)), (17, vI q0), (19, vI q1), (21, vI q2), (23, vI q3)] [.raw 0 o_, E7516a b_1 q0 q1 q2 q3, Ee1539 b_3 (cfgR 3)])))))) (by kernel_rfl) ?_
              refine ok_obl rfl ?_
              refine ok_obl rfl ?_
              refine ok_obl rfl ?_
              refine ok_obl rfl ?_
              refine ok_obl rfl ?_
              refine ok_stop ?_
              refine go_call (some 24) [] Tryd.call13 (guard_New (cfgR 3) q0 q1 q2 q3 hc ⟨h1, h2⟩ ⟨h3, h4⟩ ⟨h5, h6⟩) (by kernel_rfl) ?_
              rintro v post ⟨g_4, rfl, rfl⟩
              refine go_exec (rs := [.tmp 2]) (by kernel_rfl) 4000 [.w, .e 1, .sp [28, 27] [.w, .e 1, .sp [33, 31, 32] [.w, .e 1, .sp [38, 36, 37] [.w, .e 1, .sp [43, 41, 42] [.w, .e 1, .sp [48, 46, 47] [.w, .e 1, .z [0, 1, 1, 1, 1, 1, 1] 0 [3, 5, 6, 7, 8]] [.dead]] [.dead]] [.dead]] [.dead]] [.dead]] (o := .obl (b_1 = b_1) (.obl ((decide (q0 ≥ 0)) = (decide (q0 ≥ 0))) (.br (decide (q0 ≥ 0)) (.obl (b_1 = b_1) (.obl ((decide (q0 < 2)) = (decide (q0 < 2))) (.obl ((decide (q0 < 2)) = (decide (q0 < 2))) (.br (decide (q0 < 2)) (.obl (b_1 = b_1) (.obl ((decide (q1 ≥ 0)) = (decide (q1 ≥ 0))) (.obl ((decide (q1 ≥ 0)) = (decide (q1 ≥ 0))) (.br (decide (q1 ≥ 0)) (.obl (b_1 = b_1) (.obl ((decide (q1 < 2)) = (decide (q1 < 2))) (.obl ((decide (q1 < 2)) = (decide (q1 < 2))) (.br (decide (q1 < 2)) (.obl (b_1 = b_1) (.obl ((decide (q2 ≥ 0)) = (decide (q2 ≥ 0))) (.obl ((decide (q2 ≥ 0)) = (decide (q2 ≥ 0))) (.br (decide (q2 ≥ 0)) (.obl (b_1 = b_1) (.stop [.o [0, 1, 1, 1, 1, 1, 1] 0, .c [1, 1, 1, 1, 1, 1, 1]] [(3, .pointer none), (5, vI 0), (6, .iface 49 (vI 1)), (7, vP g_4), (8, .bool (decide (q2 < 2)))] [.raw 0 o_, E7516a b_1 q0 q1 q2 q3, Ee1539 b_3 (cfgR 3), Ee565f g_4 (cfgR 3) ((newGu (cfgR 3) q0 q1 q2 q3).client) ((newGu (cfgR 3) q0 q1 q2 q3).epoch) ((newGu (cfgR 3) q0 q1 q2 q3).slot) ((newGu (cfgR 3) q0 q1 q2 q3).word) (nxG g_4 (newGu (cfgR 3) q0 q1 q2 q3).ph) ((newGu (cfgR 3) q0 q1 q2 q3).seen) ((newGu (cfgR 3) q0 q1 q2 q3).block) ((newGu (cfgR 3) q0 q1 q2 q3).failed) ((newGu (cfgR 3) q0 q1 q2 q3).commit) (errV (newGu (cfgR 3) q0 q1 q2 q3).code)])) (.bad))))) (.bad))))) (.bad))))) (.bad))))) (.bad)))) (by kernel_rfl) ?_
              refine ok_obl rfl ?_
              refine ok_obl rfl ?_
              refine ok_br (fun _ => ?_) (fun h => absurd (show (decide (q0 ≥ 0)) = true from (decide_eq_true h1)) (by rw [h]; simp))
              refine ok_obl rfl ?_
              refine ok_obl rfl ?_
              refine ok_obl rfl ?_
              refine ok_br (fun _ => ?_) (fun h => absurd (show (decide (q0 < 2)) = true from (decide_eq_true h2)) (by rw [h]; simp))
              refine ok_obl rfl ?_
              refine ok_obl rfl ?_
              refine ok_obl rfl ?_
              refine ok_br (fun _ => ?_) (fun h => absurd (show (decide (q1 ≥ 0)) = true from (decide_eq_true h3)) (by rw [h]; simp))
              refine ok_obl rfl ?_
              refine ok_obl rfl ?_
              refine ok_obl rfl ?_
              refine ok_br (fun _ => ?_) (fun h => absurd (show (decide (q1 < 2)) = true from (decide_eq_true h4)) (by rw [h]; simp))
              refine ok_obl rfl ?_
              refine ok_obl rfl ?_
              refine ok_obl rfl ?_
              refine ok_br (fun _ => ?_) (fun h => absurd (show (decide (q2 ≥ 0)) = true from (decide_eq_true h5)) (by rw [h]; simp))
              refine ok_obl rfl ?_
              refine ok_stop ?_
              refine go_call (some 53) [0] Tryd.call7 (law14_awake o_ ho) (by kernel_rfl) ?_
              rintro v post ⟨rfl, rfl⟩
              refine go_exec (rs := [.tmp 2]) (by kernel_rfl) 4000 [.z [0, 1, 1, 1, 1, 1, 1] 3 [3, 5, 6, 7, 8, 54, 55]] (o := .stop [.o [0, 1, 1, 1, 1, 1, 1] 3, .c [1, 1, 1, 1, 1, 1, 1]] [(3, .pointer none), (5, vI 0), (6, .iface 49 (vI 1)), (7, vP g_4), (8, .bool (decide (q2 < 2))), (54, .bool true), (55, .pointer none)] [E7516a b_1 q0 q1 q2 q3, Ee1539 b_3 (cfgR 3), Ee565f g_4 (cfgR 3) ((newGu (cfgR 3) q0 q1 q2 q3).client) ((newGu (cfgR 3) q0 q1 q2 q3).epoch) ((newGu (cfgR 3) q0 q1 q2 q3).slot) ((newGu (cfgR 3) q0 q1 q2 q3).word) (nxG g_4 (newGu (cfgR 3) q0 q1 q2 q3).ph) ((newGu (cfgR 3) q0 q1 q2 q3).seen) ((newGu (cfgR 3) q0 q1 q2 q3).block) ((newGu (cfgR 3) q0 q1 q2 q3).failed) ((newGu (cfgR 3) q0 q1 q2 q3).commit) (errV (newGu (cfgR 3) q0 q1 q2 q3).code), .raw 0 o_]) (by kernel_rfl) ?_
              refine ok_stop ?_
              refine go_call (some 56) [] Tryd.call15 (gStep_nil) (by kernel_rfl) ?_
              rintro v post ⟨rfl, rfl⟩
              refine go_exec (rs := [.tmp 2]) (by kernel_rfl) 4000 [.z [0, 1, 1, 1, 1, 1, 1] 7 [3, 5, 6, 7, 8, 58, 59]] (o := .stop [.o [0, 1, 1, 1, 1, 1, 1] 7, .c [1, 1, 1, 1, 1, 1, 1]] [(3, .pointer none), (5, vI 0), (6, .iface 49 (vI 1)), (7, vP g_4), (8, .bool (decide (q2 < 2))), (58, .bool true), (59, .pointer none)] [E7516a b_1 q0 q1 q2 q3, Ee1539 b_3 (cfgR 3), Ee565f g_4 (cfgR 3) ((newGu (cfgR 3) q0 q1 q2 q3).client) ((newGu (cfgR 3) q0 q1 q2 q3).epoch) ((newGu (cfgR 3) q0 q1 q2 q3).slot) ((newGu (cfgR 3) q0 q1 q2 q3).word) (nxG g_4 (newGu (cfgR 3) q0 q1 q2 q3).ph) ((newGu (cfgR 3) q0 q1 q2 q3).seen) ((newGu (cfgR 3) q0 q1 q2 q3).block) ((newGu (cfgR 3) q0 q1 q2 q3).failed) ((newGu (cfgR 3) q0 q1 q2 q3).commit) (errV (newGu (cfgR 3) q0 q1 q2 q3).code), .raw 0 o_]) (by kernel_rfl) ?_
              refine ok_stop ?_
              refine go_call (some 60) [] Tryd.call14 (gDone_nil) (by kernel_rfl) ?_
              rintro v post ⟨rfl, rfl⟩
              refine go_exec (rs := [.tmp 2]) (by kernel_rfl) 4000 [.z [0, 1, 1, 1, 1, 1, 1] 15 [3, 7, 8, 66, 67]] (o := .stop [.o [0, 1, 1, 1, 1, 1, 1] 15, .c [1, 1, 1, 1, 1, 1, 1]] [(3, .pointer none), (7, vP g_4), (8, .bool (decide (q2 < 2))), (66, .bool true), (67, .iface 49 (vI 1))] [E7516a b_1 q0 q1 q2 q3, Ee1539 b_3 (cfgR 3), Ee565f g_4 (cfgR 3) ((newGu (cfgR 3) q0 q1 q2 q3).client) ((newGu (cfgR 3) q0 q1 q2 q3).epoch) ((newGu (cfgR 3) q0 q1 q2 q3).slot) ((newGu (cfgR 3) q0 q1 q2 q3).word) (nxG g_4 (newGu (cfgR 3) q0 q1 q2 q3).ph) ((newGu (cfgR 3) q0 q1 q2 q3).seen) ((newGu (cfgR 3) q0 q1 q2 q3).block) ((newGu (cfgR 3) q0 q1 q2 q3).failed) ((newGu (cfgR 3) q0 q1 q2 q3).commit) (errV (newGu (cfgR 3) q0 q1 q2 q3).code), .raw 0 o_]) (by kernel_rfl) ?_
              refine ok_stop ?_
              refine go_call (some 68) [3] Tryd.call17 (cause_TopE o_ 1 ho) (by kernel_rfl) ?_
              rintro v post ⟨rfl, rfl⟩
              refine go_exec (rs := [.tmp 2]) (by kernel_rfl) 4000 [.z [0, 1, 1, 1, 1, 1, 1] 20 [7, 8, 71, 72]] (o := .stop [.o [0, 1, 1, 1, 1, 1, 1] 20, .c [1, 1, 1, 1, 1, 1, 1]] [(7, vP g_4), (8, .bool (decide (q2 < 2))), (71, .bool true), (72, .pointer none)] [E7516a b_1 q0 q1 q2 q3, Ee1539 b_3 (cfgR 3), Ee565f g_4 (cfgR 3) ((newGu (cfgR 3) q0 q1 q2 q3).client) ((newGu (cfgR 3) q0 q1 q2 q3).epoch) ((newGu (cfgR 3) q0 q1 q2 q3).slot) ((newGu (cfgR 3) q0 q1 q2 q3).word) (nxG g_4 (newGu (cfgR 3) q0 q1 q2 q3).ph) ((newGu (cfgR 3) q0 q1 q2 q3).seen) ((newGu (cfgR 3) q0 q1 q2 q3).block) ((newGu (cfgR 3) q0 q1 q2 q3).failed) ((newGu (cfgR 3) q0 q1 q2 q3).commit) (errV (newGu (cfgR 3) q0 q1 q2 q3).code), .raw 0 o_]) (by kernel_rfl) ?_
              refine ok_stop ?_
              refine go_call (some 73) [] Tryd.call18 (gCommit_nil) (by kernel_rfl) ?_
              rintro v post ⟨rfl, rfl⟩
              refine go_exec (rs := [.tmp 2]) (by kernel_rfl) 4000 [.sp [82, 80, 81] [.z [0, 1, 1, 1, 1, 1, 1] 31 [82, 83]] [.dead]] (o := .obl ((true == (decide (q2 < 2))) = (true == (decide (q2 < 2)))) (.obl ((true == (decide (q2 < 2))) = (true == (decide (q2 < 2)))) (.br (true == (decide (q2 < 2))) (.stop [.o [0, 1, 1, 1, 1, 1, 1] 31, .c [1, 1, 1, 1, 1, 1, 1]] [(82, .bool true), (83, .agg #[vI 0, vI 0, vI 0, vI 0, vI 0, vI 0, vI 0, vI 0, vI 0])] [E7516a b_1 q0 q1 q2 q3, Ee1539 b_3 (cfgR 3), Ee565f g_4 (cfgR 3) ((newGu (cfgR 3) q0 q1 q2 q3).client) ((newGu (cfgR 3) q0 q1 q2 q3).epoch) ((newGu (cfgR 3) q0 q1 q2 q3).slot) ((newGu (cfgR 3) q0 q1 q2 q3).word) (nxG g_4 (newGu (cfgR 3) q0 q1 q2 q3).ph) ((newGu (cfgR 3) q0 q1 q2 q3).seen) ((newGu (cfgR 3) q0 q1 q2 q3).block) ((newGu (cfgR 3) q0 q1 q2 q3).failed) ((newGu (cfgR 3) q0 q1 q2 q3).commit) (errV (newGu (cfgR 3) q0 q1 q2 q3).code), .raw 0 o_]) (.bad)))) (by kernel_rfl) ?_
              refine ok_obl rfl ?_
              refine ok_obl rfl ?_
              refine ok_br (fun _ => ?_) (fun h => absurd (show (true == (decide (q2 < 2))) = true from (by rw [show (decide (q2 < 2)) = true from (decide_eq_true h6)]; rfl)) (by rw [h]; simp))
              refine ok_stop ?_
              refine go_call (some 84) [] Tryd.call13 (guard_New0) (by kernel_rfl) ?_
              rintro v post ⟨rfl, rfl⟩
              refine go_exec (rs := [.tmp 2]) (by kernel_rfl) 4000 [] (o := .ret (.bool true) [E7516a b_1 q0 q1 q2 q3, Ee1539 b_3 (cfgR 3), Ee565f g_4 (cfgR 3) ((newGu (cfgR 3) q0 q1 q2 q3).client) ((newGu (cfgR 3) q0 q1 q2 q3).epoch) ((newGu (cfgR 3) q0 q1 q2 q3).slot) ((newGu (cfgR 3) q0 q1 q2 q3).word) (nxG g_4 (newGu (cfgR 3) q0 q1 q2 q3).ph) ((newGu (cfgR 3) q0 q1 q2 q3).seen) ((newGu (cfgR 3) q0 q1 q2 q3).block) ((newGu (cfgR 3) q0 q1 q2 q3).failed) ((newGu (cfgR 3) q0 q1 q2 q3).commit) (errV (newGu (cfgR 3) q0 q1 q2 q3).code), .raw 0 o_]) (by kernel_rfl) ?_
              exact ret_ok (post := [.raw 0 o_]) [3] (by kernel_rfl) ⟨rfl, (by kernel_rfl)⟩
            · have hm : bMin (bMin (slotAt (cfgR 3) q1) (ctlAt (cfgR 3) q2)) q0 < 0 := by
                have hs : ctlAt (cfgR 3) q2 = -1 := by unfold ctlAt; rw [if_neg (by show ¬ (0 ≤ q2 ∧ q2 < 2); omega)]
                rw [hs]; unfold bMin; (repeat' split) <;> omega
              refine go_exec (rs := [.tmp 2]) (by kernel_rfl) 4000 [.e 2, .w, .e 1, .w, .e 1, .w, .e 1, .w, .e 1, .z [0, 1, 1, 1, 1] 9 [1, 3, 5, 6, 15, 17, 19, 21, 23]] (o := .obl (b_3 = b_3) (.obl (b_1 = b_1) (.obl (b_1 = b_1) (.obl (b_1 = b_1) (.obl (b_1 = b_1) (.stop [.o [0, 1, 1, 1, 1] 9, .c [1, 1, 1, 1, 1]] [(1, vP b_1), (3, .pointer none), (5, vI 0), (6, .iface 49 (vI 1)), (15, cfgV (cfgR 3)), (17, vI q0), (19, vI q1), (21, vI q2), (23, vI q3)] [.raw 0 o_, E7516a b_1 q0 q1 q2 q3, Ee1539 b_3 (cfgR 3)])))))) (by kernel_rfl) ?_
              refine ok_obl rfl ?_
              refine ok_obl rfl ?_
              refine ok_obl rfl ?_
              refine ok_obl rfl ?_
              refine ok_obl rfl ?_
              refine ok_stop ?_
              refine go_call (some 24) [] Tryd.call13 (guard_NewBadA (cfgR 3) q0 q1 q2 q3 hc hm) (by kernel_rfl) ?_
              rintro v post ⟨rfl, rfl⟩
              refine go_exec (rs := [.tmp 2]) (by kernel_rfl) 4000 [.w, .e 1, .sp [28, 27] [.w, .e 1, .sp [33, 31, 32] [.w, .e 1, .sp [38, 36, 37] [.w, .e 1, .sp [43, 41, 42] [.w, .e 1, .sp [48, 46, 47] [.w, .e 1, .z [0, 1, 1, 1, 1, 1, 1] 0 [3, 5, 6, 7, 8]] [.dead]] [.dead]] [.dead]] [.dead]] [.dead]] (o := .obl (b_1 = b_1) (.obl ((decide (q0 ≥ 0)) = (decide (q0 ≥ 0))) (.br (decide (q0 ≥ 0)) (.obl (b_1 = b_1) (.obl ((decide (q0 < 2)) = (decide (q0 < 2))) (.obl ((decide (q0 < 2)) = (decide (q0 < 2))) (.br (decide (q0 < 2)) (.obl (b_1 = b_1) (.obl ((decide (q1 ≥ 0)) = (decide (q1 ≥ 0))) (.obl ((decide (q1 ≥ 0)) = (decide (q1 ≥ 0))) (.br (decide (q1 ≥ 0)) (.obl (b_1 = b_1) (.obl ((decide (q1 < 2)) = (decide (q1 < 2))) (.obl ((decide (q1 < 2)) = (decide (q1 < 2))) (.br (decide (q1 < 2)) (.obl (b_1 = b_1) (.obl ((decide (q2 ≥ 0)) = (decide (q2 ≥ 0))) (.obl ((decide (q2 ≥ 0)) = (decide (q2 ≥ 0))) (.br (decide (q2 ≥ 0)) (.obl (b_1 = b_1) (.stop [.o [0, 1, 1, 1, 1, 1, 1] 0, .c [1, 1, 1, 1, 1, 1, 1]] [(3, .pointer none), (5, vI 0), (6, .iface 49 (vI 1)), (7, .pointer none), (8, .bool (decide (q2 < 2)))] [.raw 0 o_, E7516a b_1 q0 q1 q2 q3, Ee1539 b_3 (cfgR 3)])) (.bad))))) (.bad))))) (.bad))))) (.bad))))) (.bad)))) (by kernel_rfl) ?_
              refine ok_obl rfl ?_
              refine ok_obl rfl ?_
              refine ok_br (fun _ => ?_) (fun h => absurd (show (decide (q0 ≥ 0)) = true from (decide_eq_true h1)) (by rw [h]; simp))
              refine ok_obl rfl ?_
              refine ok_obl rfl ?_
              refine ok_obl rfl ?_
              refine ok_br (fun _ => ?_) (fun h => absurd (show (decide (q0 < 2)) = true from (decide_eq_true h2)) (by rw [h]; simp))
              refine ok_obl rfl ?_
              refine ok_obl rfl ?_
              refine ok_obl rfl ?_
              refine ok_br (fun _ => ?_) (fun h => absurd (show (decide (q1 ≥ 0)) = true from (decide_eq_true h3)) (by rw [h]; simp))
              refine ok_obl rfl ?_
              refine ok_obl rfl ?_
              refine ok_obl rfl ?_
              refine ok_br (fun _ => ?_) (fun h => absurd (show (decide (q1 < 2)) = true from (decide_eq_true h4)) (by rw [h]; simp))
              refine ok_obl rfl ?_
              refine ok_obl rfl ?_
              refine ok_obl rfl ?_
              refine ok_br (fun _ => ?_) (fun h => absurd (show (decide (q2 ≥ 0)) = true from (decide_eq_true h5)) (by rw [h]; simp))
              refine ok_obl rfl ?_
              refine ok_stop ?_
              refine go_call (some 53) [0] Tryd.call7 (law14_awake o_ ho) (by kernel_rfl) ?_
              rintro v post ⟨rfl, rfl⟩
              refine go_exec (rs := [.tmp 2]) (by kernel_rfl) 4000 [.z [0, 1, 1, 1, 1, 1, 1] 3 [3, 5, 6, 7, 8, 54, 55]] (o := .stop [.o [0, 1, 1, 1, 1, 1, 1] 3, .c [1, 1, 1, 1, 1, 1, 1]] [(3, .pointer none), (5, vI 0), (6, .iface 49 (vI 1)), (7, .pointer none), (8, .bool (decide (q2 < 2))), (54, .bool true), (55, .pointer none)] [E7516a b_1 q0 q1 q2 q3, Ee1539 b_3 (cfgR 3), .raw 0 o_]) (by kernel_rfl) ?_
              refine ok_stop ?_
              refine go_call (some 56) [] Tryd.call15 (gStep_nil) (by kernel_rfl) ?_
              rintro v post ⟨rfl, rfl⟩
              refine go_exec (rs := [.tmp 2]) (by kernel_rfl) 4000 [.z [0, 1, 1, 1, 1, 1, 1] 7 [3, 5, 6, 7, 8, 58, 59]] (o := .stop [.o [0, 1, 1, 1, 1, 1, 1] 7, .c [1, 1, 1, 1, 1, 1, 1]] [(3, .pointer none), (5, vI 0), (6, .iface 49 (vI 1)), (7, .pointer none), (8, .bool (decide (q2 < 2))), (58, .bool true), (59, .pointer none)] [E7516a b_1 q0 q1 q2 q3, Ee1539 b_3 (cfgR 3), .raw 0 o_]) (by kernel_rfl) ?_
              refine ok_stop ?_
              refine go_call (some 60) [] Tryd.call14 (gDone_nil) (by kernel_rfl) ?_
              rintro v post ⟨rfl, rfl⟩
              refine go_exec (rs := [.tmp 2]) (by kernel_rfl) 4000 [.z [0, 1, 1, 1, 1, 1, 1] 15 [3, 7, 8, 66, 67]] (o := .stop [.o [0, 1, 1, 1, 1, 1, 1] 15, .c [1, 1, 1, 1, 1, 1, 1]] [(3, .pointer none), (7, .pointer none), (8, .bool (decide (q2 < 2))), (66, .bool true), (67, .iface 49 (vI 1))] [E7516a b_1 q0 q1 q2 q3, Ee1539 b_3 (cfgR 3), .raw 0 o_]) (by kernel_rfl) ?_
              refine ok_stop ?_
              refine go_call (some 68) [2] Tryd.call17 (cause_TopE o_ 1 ho) (by kernel_rfl) ?_
              rintro v post ⟨rfl, rfl⟩
              refine go_exec (rs := [.tmp 2]) (by kernel_rfl) 4000 [.z [0, 1, 1, 1, 1, 1, 1] 20 [7, 8, 71, 72]] (o := .stop [.o [0, 1, 1, 1, 1, 1, 1] 20, .c [1, 1, 1, 1, 1, 1, 1]] [(7, .pointer none), (8, .bool (decide (q2 < 2))), (71, .bool true), (72, .pointer none)] [E7516a b_1 q0 q1 q2 q3, Ee1539 b_3 (cfgR 3), .raw 0 o_]) (by kernel_rfl) ?_
              refine ok_stop ?_
              refine go_call (some 73) [] Tryd.call18 (gCommit_nil) (by kernel_rfl) ?_
              rintro v post ⟨rfl, rfl⟩
              refine go_exec (rs := [.tmp 2]) (by kernel_rfl) 4000 [.sp [82, 80, 81] [.z [0, 1, 1, 1, 1, 1, 1] 31 [82, 83]] [.dead]] (o := .obl ((false == (decide (q2 < 2))) = (false == (decide (q2 < 2)))) (.obl ((false == (decide (q2 < 2))) = (false == (decide (q2 < 2)))) (.br (false == (decide (q2 < 2))) (.stop [.o [0, 1, 1, 1, 1, 1, 1] 31, .c [1, 1, 1, 1, 1, 1, 1]] [(82, .bool true), (83, .agg #[vI 0, vI 0, vI 0, vI 0, vI 0, vI 0, vI 0, vI 0, vI 0])] [E7516a b_1 q0 q1 q2 q3, Ee1539 b_3 (cfgR 3), .raw 0 o_]) (.bad)))) (by kernel_rfl) ?_
              refine ok_obl rfl ?_
              refine ok_obl rfl ?_
              refine ok_br (fun _ => ?_) (fun h => absurd (show (false == (decide (q2 < 2))) = true from (by rw [show (decide (q2 < 2)) = false from (decide_eq_false h6)]; rfl)) (by rw [h]; simp))
              refine ok_stop ?_
              refine go_call (some 84) [] Tryd.call13 (guard_New0) (by kernel_rfl) ?_
              rintro v post ⟨rfl, rfl⟩
              refine go_exec (rs := [.tmp 2]) (by kernel_rfl) 4000 [] (o := .ret (.bool true) [E7516a b_1 q0 q1 q2 q3, Ee1539 b_3 (cfgR 3), .raw 0 o_]) (by kernel_rfl) ?_
              exact ret_ok (post := [.raw 0 o_]) [2] (by kernel_rfl) ⟨rfl, (by kernel_rfl)⟩
          · have hm : bMin (bMin (slotAt (cfgR 3) q1) (ctlAt (cfgR 3) q2)) q0 < 0 := by
              have hs : ctlAt (cfgR 3) q2 = -1 := by unfold ctlAt; rw [if_neg (by omega)]
              rw [hs]; unfold bMin; (repeat' split) <;> omega
            refine go_exec (rs := [.tmp 2]) (by kernel_rfl) 4000 [.e 2, .w, .e 1, .w, .e 1, .w, .e 1, .w, .e 1, .z [0, 1, 1, 1, 1] 9 [1, 3, 5, 6, 15, 17, 19, 21, 23]] (o := .obl (b_3 = b_3) (.obl (b_1 = b_1) (.obl (b_1 = b_1) (.obl (b_1 = b_1) (.obl (b_1 = b_1) (.stop [.o [0, 1, 1, 1, 1] 9, .c [1, 1, 1, 1, 1]] [(1, vP b_1), (3, .pointer none), (5, vI 0), (6, .iface 49 (vI 1)), (15, cfgV (cfgR 3)), (17, vI q0), (19, vI q1), (21, vI q2), (23, vI q3)] [.raw 0 o_, E7516a b_1 q0 q1 q2 q3, Ee1539 b_3 (cfgR 3)])))))) (by kernel_rfl) ?_
            refine ok_obl rfl ?_
            refine ok_obl rfl ?_
            refine ok_obl rfl ?_
            refine ok_obl rfl ?_
            refine ok_obl rfl ?_
            refine ok_stop ?_
            refine go_call (some 24) [] Tryd.call13 (guard_NewBadA (cfgR 3) q0 q1 q2 q3 hc hm) (by kernel_rfl) ?_
            rintro v post ⟨rfl, rfl⟩
            refine go_exec (rs := [.tmp 2]) (by kernel_rfl) 4000 [.w, .e 1, .sp [28, 27] [.w, .e 1, .sp [33, 31, 32] [.w, .e 1, .sp [38, 36, 37] [.w, .e 1, .sp [43, 41, 42] [.w, .e 1, .sp [48, 46, 47] [.dead] [.z [0, 1, 1, 1, 1, 1, 1] 0 [3, 5, 6, 7, 8]]] [.dead]] [.dead]] [.dead]] [.dead]] (o := .obl (b_1 = b_1) (.obl ((decide (q0 ≥ 0)) = (decide (q0 ≥ 0))) (.br (decide (q0 ≥ 0)) (.obl (b_1 = b_1) (.obl ((decide (q0 < 2)) = (decide (q0 < 2))) (.obl ((decide (q0 < 2)) = (decide (q0 < 2))) (.br (decide (q0 < 2)) (.obl (b_1 = b_1) (.obl ((decide (q1 ≥ 0)) = (decide (q1 ≥ 0))) (.obl ((decide (q1 ≥ 0)) = (decide (q1 ≥ 0))) (.br (decide (q1 ≥ 0)) (.obl (b_1 = b_1) (.obl ((decide (q1 < 2)) = (decide (q1 < 2))) (.obl ((decide (q1 < 2)) = (decide (q1 < 2))) (.br (decide (q1 < 2)) (.obl (b_1 = b_1) (.obl ((decide (q2 ≥ 0)) = (decide (q2 ≥ 0))) (.obl ((decide (q2 ≥ 0)) = (decide (q2 ≥ 0))) (.br (decide (q2 ≥ 0)) (.bad) (.stop [.o [0, 1, 1, 1, 1, 1, 1] 0, .c [1, 1, 1, 1, 1, 1, 1]] [(3, .pointer none), (5, vI 0), (6, .iface 49 (vI 1)), (7, .pointer none), (8, .bool false)] [.raw 0 o_, E7516a b_1 q0 q1 q2 q3, Ee1539 b_3 (cfgR 3)]))))) (.bad))))) (.bad))))) (.bad))))) (.bad)))) (by kernel_rfl) ?_
            refine ok_obl rfl ?_
            refine ok_obl rfl ?_
            refine ok_br (fun _ => ?_) (fun h => absurd (show (decide (q0 ≥ 0)) = true from (decide_eq_true h1)) (by rw [h]; simp))
            refine ok_obl rfl ?_
            refine ok_obl rfl ?_
            refine ok_obl rfl ?_
            refine ok_br (fun _ => ?_) (fun h => absurd (show (decide (q0 < 2)) = true from (decide_eq_true h2)) (by rw [h]; simp))
            refine ok_obl rfl ?_
            refine ok_obl rfl ?_
            refine ok_obl rfl ?_
            refine ok_br (fun _ => ?_) (fun h => absurd (show (decide (q1 ≥ 0)) = true from (decide_eq_true h3)) (by rw [h]; simp))
            refine ok_obl rfl ?_
            refine ok_obl rfl ?_
            refine ok_obl rfl ?_
            refine ok_br (fun _ => ?_) (fun h => absurd (show (decide (q1 < 2)) = true from (decide_eq_true h4)) (by rw [h]; simp))
            refine ok_obl rfl ?_
            refine ok_obl rfl ?_
            refine ok_obl rfl ?_
            refine ok_br (fun h => absurd (show (decide (q2 ≥ 0)) = false from (decide_eq_false h5)) (by rw [h]; simp)) (fun _ => ?_)
            refine ok_stop ?_
            refine go_call (some 53) [0] Tryd.call7 (law14_awake o_ ho) (by kernel_rfl) ?_
            rintro v post ⟨rfl, rfl⟩
            refine go_exec (rs := [.tmp 2]) (by kernel_rfl) 4000 [.z [0, 1, 1, 1, 1, 1, 1] 3 [3, 5, 6, 7, 8, 54, 55]] (o := .stop [.o [0, 1, 1, 1, 1, 1, 1] 3, .c [1, 1, 1, 1, 1, 1, 1]] [(3, .pointer none), (5, vI 0), (6, .iface 49 (vI 1)), (7, .pointer none), (8, .bool false), (54, .bool true), (55, .pointer none)] [E7516a b_1 q0 q1 q2 q3, Ee1539 b_3 (cfgR 3), .raw 0 o_]) (by kernel_rfl) ?_
            refine ok_stop ?_
            refine go_call (some 56) [] Tryd.call15 (gStep_nil) (by kernel_rfl) ?_
            rintro v post ⟨rfl, rfl⟩
            refine go_exec (rs := [.tmp 2]) (by kernel_rfl) 4000 [.z [0, 1, 1, 1, 1, 1, 1] 7 [3, 5, 6, 7, 8, 58, 59]] (o := .stop [.o [0, 1, 1, 1, 1, 1, 1] 7, .c [1, 1, 1, 1, 1, 1, 1]] [(3, .pointer none), (5, vI 0), (6, .iface 49 (vI 1)), (7, .pointer none), (8, .bool false), (58, .bool true), (59, .pointer none)] [E7516a b_1 q0 q1 q2 q3, Ee1539 b_3 (cfgR 3), .raw 0 o_]) (by kernel_rfl) ?_
            refine ok_stop ?_
            refine go_call (some 60) [] Tryd.call14 (gDone_nil) (by kernel_rfl) ?_
            rintro v post ⟨rfl, rfl⟩
            refine go_exec (rs := [.tmp 2]) (by kernel_rfl) 4000 [.z [0, 1, 1, 1, 1, 1, 1] 15 [3, 7, 8, 66, 67]] (o := .stop [.o [0, 1, 1, 1, 1, 1, 1] 15, .c [1, 1, 1, 1, 1, 1, 1]] [(3, .pointer none), (7, .pointer none), (8, .bool false), (66, .bool true), (67, .iface 49 (vI 1))] [E7516a b_1 q0 q1 q2 q3, Ee1539 b_3 (cfgR 3), .raw 0 o_]) (by kernel_rfl) ?_
            refine ok_stop ?_
            refine go_call (some 68) [2] Tryd.call17 (cause_TopE o_ 1 ho) (by kernel_rfl) ?_
            rintro v post ⟨rfl, rfl⟩
            refine go_exec (rs := [.tmp 2]) (by kernel_rfl) 4000 [.z [0, 1, 1, 1, 1, 1, 1] 20 [7, 8, 71, 72]] (o := .stop [.o [0, 1, 1, 1, 1, 1, 1] 20, .c [1, 1, 1, 1, 1, 1, 1]] [(7, .pointer none), (8, .bool false), (71, .bool true), (72, .pointer none)] [E7516a b_1 q0 q1 q2 q3, Ee1539 b_3 (cfgR 3), .raw 0 o_]) (by kernel_rfl) ?_
            refine ok_stop ?_
            refine go_call (some 73) [] Tryd.call18 (gCommit_nil) (by kernel_rfl) ?_
            rintro v post ⟨rfl, rfl⟩
            refine go_exec (rs := [.tmp 2]) (by kernel_rfl) 4000 [.z [0, 1, 1, 1, 1, 1, 1] 31 [82, 83]] (o := .stop [.o [0, 1, 1, 1, 1, 1, 1] 31, .c [1, 1, 1, 1, 1, 1, 1]] [(82, .bool true), (83, .agg #[vI 0, vI 0, vI 0, vI 0, vI 0, vI 0, vI 0, vI 0, vI 0])] [E7516a b_1 q0 q1 q2 q3, Ee1539 b_3 (cfgR 3), .raw 0 o_]) (by kernel_rfl) ?_
            refine ok_stop ?_
            refine go_call (some 84) [] Tryd.call13 (guard_New0) (by kernel_rfl) ?_
            rintro v post ⟨rfl, rfl⟩
            refine go_exec (rs := [.tmp 2]) (by kernel_rfl) 4000 [] (o := .ret (.bool true) [E7516a b_1 q0 q1 q2 q3, Ee1539 b_3 (cfgR 3), .raw 0 o_]) (by kernel_rfl) ?_
            exact ret_ok (post := [.raw 0 o_]) [2] (by kernel_rfl) ⟨rfl, (by kernel_rfl)⟩
        · have hm : bMin (bMin (slotAt (cfgR 3) q1) (ctlAt (cfgR 3) q2)) q0 < 0 := by
            have hs : slotAt (cfgR 3) q1 = -1 := by unfold slotAt; rw [if_neg (by show ¬ (0 ≤ q1 ∧ q1 < 2); omega)]
            rw [hs]; unfold bMin; (repeat' split) <;> omega
          refine go_exec (rs := [.tmp 2]) (by kernel_rfl) 4000 [.e 2, .w, .e 1, .w, .e 1, .w, .e 1, .w, .e 1, .z [0, 1, 1, 1, 1] 9 [1, 3, 5, 6, 15, 17, 19, 21, 23]] (o := .obl (b_3 = b_3) (.obl (b_1 = b_1) (.obl (b_1 = b_1) (.obl (b_1 = b_1) (.obl (b_1 = b_1) (.stop [.o [0, 1, 1, 1, 1] 9, .c [1, 1, 1, 1, 1]] [(1, vP b_1), (3, .pointer none), (5, vI 0), (6, .iface 49 (vI 1)), (15, cfgV (cfgR 3)), (17, vI q0), (19, vI q1), (21, vI q2), (23, vI q3)] [.raw 0 o_, E7516a b_1 q0 q1 q2 q3, Ee1539 b_3 (cfgR 3)])))))) (by kernel_rfl) ?_
          refine ok_obl rfl ?_
          refine ok_obl rfl ?_
          refine ok_obl rfl ?_
          refine ok_obl rfl ?_
          refine ok_obl rfl ?_
          refine ok_stop ?_
          refine go_call (some 24) [] Tryd.call13 (guard_NewBadA (cfgR 3) q0 q1 q2 q3 hc hm) (by kernel_rfl) ?_
          rintro v post ⟨rfl, rfl⟩
          refine go_exec (rs := [.tmp 2]) (by kernel_rfl) 4000 [.w, .e 1, .sp [28, 27] [.w, .e 1, .sp [33, 31, 32] [.w, .e 1, .sp [38, 36, 37] [.w, .e 1, .sp [43, 41, 42] [.dead] [.z [0, 1, 1, 1, 1, 1, 1] 0 [3, 5, 6, 7, 8]]] [.dead]] [.dead]] [.dead]] (o := .obl (b_1 = b_1) (.obl ((decide (q0 ≥ 0)) = (decide (q0 ≥ 0))) (.br (decide (q0 ≥ 0)) (.obl (b_1 = b_1) (.obl ((decide (q0 < 2)) = (decide (q0 < 2))) (.obl ((decide (q0 < 2)) = (decide (q0 < 2))) (.br (decide (q0 < 2)) (.obl (b_1 = b_1) (.obl ((decide (q1 ≥ 0)) = (decide (q1 ≥ 0))) (.obl ((decide (q1 ≥ 0)) = (decide (q1 ≥ 0))) (.br (decide (q1 ≥ 0)) (.obl (b_1 = b_1) (.obl ((decide (q1 < 2)) = (decide (q1 < 2))) (.obl ((decide (q1 < 2)) = (decide (q1 < 2))) (.br (decide (q1 < 2)) (.bad) (.stop [.o [0, 1, 1, 1, 1, 1, 1] 0, .c [1, 1, 1, 1, 1, 1, 1]] [(3, .pointer none), (5, vI 0), (6, .iface 49 (vI 1)), (7, .pointer none), (8, .bool false)] [.raw 0 o_, E7516a b_1 q0 q1 q2 q3, Ee1539 b_3 (cfgR 3)]))))) (.bad))))) (.bad))))) (.bad)))) (by kernel_rfl) ?_
          refine ok_obl rfl ?_
          refine ok_obl rfl ?_
          refine ok_br (fun _ => ?_) (fun h => absurd (show (decide (q0 ≥ 0)) = true from (decide_eq_true h1)) (by rw [h]; simp))
          refine ok_obl rfl ?_
          refine ok_obl rfl ?_
          refine ok_obl rfl ?_
          refine ok_br (fun _ => ?_) (fun h => absurd (show (decide (q0 < 2)) = true from (decide_eq_true h2)) (by rw [h]; simp))
          refine ok_obl rfl ?_
          refine ok_obl rfl ?_
          refine ok_obl rfl ?_
          refine ok_br (fun _ => ?_) (fun h => absurd (show (decide (q1 ≥ 0)) = true from (decide_eq_true h3)) (by rw [h]; simp))
          refine ok_obl rfl ?_
          refine ok_obl rfl ?_
          refine ok_obl rfl ?_
          refine ok_br (fun h => absurd (show (decide (q1 < 2)) = false from (decide_eq_false h4)) (by rw [h]; simp)) (fun _ => ?_)
          refine ok_stop ?_
          refine go_call (some 53) [0] Tryd.call7 (law14_awake o_ ho) (by kernel_rfl) ?_
          rintro v post ⟨rfl, rfl⟩
          refine go_exec (rs := [.tmp 2]) (by kernel_rfl) 4000 [.z [0, 1, 1, 1, 1, 1, 1] 3 [3, 5, 6, 7, 8, 54, 55]] (o := .stop [.o [0, 1, 1, 1, 1, 1, 1] 3, .c [1, 1, 1, 1, 1, 1, 1]] [(3, .pointer none), (5, vI 0), (6, .iface 49 (vI 1)), (7, .pointer none), (8, .bool false), (54, .bool true), (55, .pointer none)] [E7516a b_1 q0 q1 q2 q3, Ee1539 b_3 (cfgR 3), .raw 0 o_]) (by kernel_rfl) ?_
          refine ok_stop ?_
          refine go_call (some 56) [] Tryd.call15 (gStep_nil) (by kernel_rfl) ?_
          rintro v post ⟨rfl, rfl⟩
          refine go_exec (rs := [.tmp 2]) (by kernel_rfl) 4000 [.z [0, 1, 1, 1, 1, 1, 1] 7 [3, 5, 6, 7, 8, 58, 59]] (o := .stop [.o [0, 1, 1, 1, 1, 1, 1] 7, .c [1, 1, 1, 1, 1, 1, 1]] [(3, .pointer none), (5, vI 0), (6, .iface 49 (vI 1)), (7, .pointer none), (8, .bool false), (58, .bool true), (59, .pointer none)] [E7516a b_1 q0 q1 q2 q3, Ee1539 b_3 (cfgR 3), .raw 0 o_]) (by kernel_rfl) ?_
          refine ok_stop ?_
          refine go_call (some 60) [] Tryd.call14 (gDone_nil) (by kernel_rfl) ?_
          rintro v post ⟨rfl, rfl⟩
          refine go_exec (rs := [.tmp 2]) (by kernel_rfl) 4000 [.z [0, 1, 1, 1, 1, 1, 1] 15 [3, 7, 8, 66, 67]] (o := .stop [.o [0, 1, 1, 1, 1, 1, 1] 15, .c [1, 1, 1, 1, 1, 1, 1]] [(3, .pointer none), (7, .pointer none), (8, .bool false), (66, .bool true), (67, .iface 49 (vI 1))] [E7516a b_1 q0 q1 q2 q3, Ee1539 b_3 (cfgR 3), .raw 0 o_]) (by kernel_rfl) ?_
          refine ok_stop ?_
          refine go_call (some 68) [2] Tryd.call17 (cause_TopE o_ 1 ho) (by kernel_rfl) ?_
          rintro v post ⟨rfl, rfl⟩
          refine go_exec (rs := [.tmp 2]) (by kernel_rfl) 4000 [.z [0, 1, 1, 1, 1, 1, 1] 20 [7, 8, 71, 72]] (o := .stop [.o [0, 1, 1, 1, 1, 1, 1] 20, .c [1, 1, 1, 1, 1, 1, 1]] [(7, .pointer none), (8, .bool false), (71, .bool true), (72, .pointer none)] [E7516a b_1 q0 q1 q2 q3, Ee1539 b_3 (cfgR 3), .raw 0 o_]) (by kernel_rfl) ?_
          refine ok_stop ?_
          refine go_call (some 73) [] Tryd.call18 (gCommit_nil) (by kernel_rfl) ?_
          rintro v post ⟨rfl, rfl⟩
          refine go_exec (rs := [.tmp 2]) (by kernel_rfl) 4000 [.z [0, 1, 1, 1, 1, 1, 1] 31 [82, 83]] (o := .stop [.o [0, 1, 1, 1, 1, 1, 1] 31, .c [1, 1, 1, 1, 1, 1, 1]] [(82, .bool true), (83, .agg #[vI 0, vI 0, vI 0, vI 0, vI 0, vI 0, vI 0, vI 0, vI 0])] [E7516a b_1 q0 q1 q2 q3, Ee1539 b_3 (cfgR 3), .raw 0 o_]) (by kernel_rfl) ?_
          refine ok_stop ?_
          refine go_call (some 84) [] Tryd.call13 (guard_New0) (by kernel_rfl) ?_
          rintro v post ⟨rfl, rfl⟩
          refine go_exec (rs := [.tmp 2]) (by kernel_rfl) 4000 [] (o := .ret (.bool true) [E7516a b_1 q0 q1 q2 q3, Ee1539 b_3 (cfgR 3), .raw 0 o_]) (by kernel_rfl) ?_
          exact ret_ok (post := [.raw 0 o_]) [2] (by kernel_rfl) ⟨rfl, (by kernel_rfl)⟩
      · have hm : bMin (bMin (slotAt (cfgR 3) q1) (ctlAt (cfgR 3) q2)) q0 < 0 := by
          have hs : slotAt (cfgR 3) q1 = -1 := by unfold slotAt; rw [if_neg (by omega)]
          rw [hs]; unfold bMin; (repeat' split) <;> omega
        refine go_exec (rs := [.tmp 2]) (by kernel_rfl) 4000 [.e 2, .w, .e 1, .w, .e 1, .w, .e 1, .w, .e 1, .z [0, 1, 1, 1, 1] 9 [1, 3, 5, 6, 15, 17, 19, 21, 23]] (o := .obl (b_3 = b_3) (.obl (b_1 = b_1) (.obl (b_1 = b_1) (.obl (b_1 = b_1) (.obl (b_1 = b_1) (.stop [.o [0, 1, 1, 1, 1] 9, .c [1, 1, 1, 1, 1]] [(1, vP b_1), (3, .pointer none), (5, vI 0), (6, .iface 49 (vI 1)), (15, cfgV (cfgR 3)), (17, vI q0), (19, vI q1), (21, vI q2), (23, vI q3)] [.raw 0 o_, E7516a b_1 q0 q1 q2 q3, Ee1539 b_3 (cfgR 3)])))))) (by kernel_rfl) ?_
        refine ok_obl rfl ?_
        refine ok_obl rfl ?_
        refine ok_obl rfl ?_
        refine ok_obl rfl ?_
        refine ok_obl rfl ?_
        refine ok_stop ?_
        refine go_call (some 24) [] Tryd.call13 (guard_NewBadA (cfgR 3) q0 q1 q2 q3 hc hm) (by kernel_rfl) ?_
        rintro v post ⟨rfl, rfl⟩
        refine go_exec (rs := [.tmp 2]) (by kernel_rfl) 4000 [.w, .e 1, .sp [28, 27] [.w, .e 1, .sp [33, 31, 32] [.w, .e 1, .sp [38, 36, 37] [.dead] [.z [0, 1, 1, 1, 1, 1, 1] 0 [3, 5, 6, 7, 8]]] [.dead]] [.dead]] (o := .obl (b_1 = b_1) (.obl ((decide (q0 ≥ 0)) = (decide (q0 ≥ 0))) (.br (decide (q0 ≥ 0)) (.obl (b_1 = b_1) (.obl ((decide (q0 < 2)) = (decide (q0 < 2))) (.obl ((decide (q0 < 2)) = (decide (q0 < 2))) (.br (decide (q0 < 2)) (.obl (b_1 = b_1) (.obl ((decide (q1 ≥ 0)) = (decide (q1 ≥ 0))) (.obl ((decide (q1 ≥ 0)) = (decide (q1 ≥ 0))) (.br (decide (q1 ≥ 0)) (.bad) (.stop [.o [0, 1, 1, 1, 1, 1, 1] 0, .c [1, 1, 1, 1, 1, 1, 1]] [(3, .pointer none), (5, vI 0), (6, .iface 49 (vI 1)), (7, .pointer none), (8, .bool false)] [.raw 0 o_, E7516a b_1 q0 q1 q2 q3, Ee1539 b_3 (cfgR 3)]))))) (.bad))))) (.bad)))) (by kernel_rfl) ?_
        refine ok_obl rfl ?_
        refine ok_obl rfl ?_
        refine ok_br (fun _ => ?_) (fun h => absurd (show (decide (q0 ≥ 0)) = true from (decide_eq_true h1)) (by rw [h]; simp))
        refine ok_obl rfl ?_
        refine ok_obl rfl ?_
        refine ok_obl rfl ?_
        refine ok_br (fun _ => ?_) (fun h => absurd (show (decide (q0 < 2)) = true from (decide_eq_true h2)) (by rw [h]; simp))
        refine ok_obl rfl ?_
        refine ok_obl rfl ?_
        refine ok_obl rfl ?_
        refine ok_br (fun h => absurd (show (decide (q1 ≥ 0)) = false from (decide_eq_false h3)) (by rw [h]; simp)) (fun _ => ?_)
        refine ok_stop ?_
        refine go_call (some 53) [0] Tryd.call7 (law14_awake o_ ho) (by kernel_rfl) ?_
        rintro v post ⟨rfl, rfl⟩
        refine go_exec (rs := [.tmp 2]) (by kernel_rfl) 4000 [.z [0, 1, 1, 1, 1, 1, 1] 3 [3, 5, 6, 7, 8, 54, 55]] (o := .stop [.o [0, 1, 1, 1, 1, 1, 1] 3, .c [1, 1, 1, 1, 1, 1, 1]] [(3, .pointer none), (5, vI 0), (6, .iface 49 (vI 1)), (7, .pointer none), (8, .bool false), (54, .bool true), (55, .pointer none)] [E7516a b_1 q0 q1 q2 q3, Ee1539 b_3 (cfgR 3), .raw 0 o_]) (by kernel_rfl) ?_
        refine ok_stop ?_
        refine go_call (some 56) [] Tryd.call15 (gStep_nil) (by kernel_rfl) ?_
        rintro v post ⟨rfl, rfl⟩
        refine go_exec (rs := [.tmp 2]) (by kernel_rfl) 4000 [.z [0, 1, 1, 1, 1, 1, 1] 7 [3, 5, 6, 7, 8, 58, 59]] (o := .stop [.o [0, 1, 1, 1, 1, 1, 1] 7, .c [1, 1, 1, 1, 1, 1, 1]] [(3, .pointer none), (5, vI 0), (6, .iface 49 (vI 1)), (7, .pointer none), (8, .bool false), (58, .bool true), (59, .pointer none)] [E7516a b_1 q0 q1 q2 q3, Ee1539 b_3 (cfgR 3), .raw 0 o_]) (by kernel_rfl) ?_
        refine ok_stop ?_
        refine go_call (some 60) [] Tryd.call14 (gDone_nil) (by kernel_rfl) ?_
        rintro v post ⟨rfl, rfl⟩
        refine go_exec (rs := [.tmp 2]) (by kernel_rfl) 4000 [.z [0, 1, 1, 1, 1, 1, 1] 15 [3, 7, 8, 66, 67]] (o := .stop [.o [0, 1, 1, 1, 1, 1, 1] 15, .c [1, 1, 1, 1, 1, 1, 1]] [(3, .pointer none), (7, .pointer none), (8, .bool false), (66, .bool true), (67, .iface 49 (vI 1))] [E7516a b_1 q0 q1 q2 q3, Ee1539 b_3 (cfgR 3), .raw 0 o_]) (by kernel_rfl) ?_
        refine ok_stop ?_
        refine go_call (some 68) [2] Tryd.call17 (cause_TopE o_ 1 ho) (by kernel_rfl) ?_
        rintro v post ⟨rfl, rfl⟩
        refine go_exec (rs := [.tmp 2]) (by kernel_rfl) 4000 [.z [0, 1, 1, 1, 1, 1, 1] 20 [7, 8, 71, 72]] (o := .stop [.o [0, 1, 1, 1, 1, 1, 1] 20, .c [1, 1, 1, 1, 1, 1, 1]] [(7, .pointer none), (8, .bool false), (71, .bool true), (72, .pointer none)] [E7516a b_1 q0 q1 q2 q3, Ee1539 b_3 (cfgR 3), .raw 0 o_]) (by kernel_rfl) ?_
        refine ok_stop ?_
        refine go_call (some 73) [] Tryd.call18 (gCommit_nil) (by kernel_rfl) ?_
        rintro v post ⟨rfl, rfl⟩
        refine go_exec (rs := [.tmp 2]) (by kernel_rfl) 4000 [.z [0, 1, 1, 1, 1, 1, 1] 31 [82, 83]] (o := .stop [.o [0, 1, 1, 1, 1, 1, 1] 31, .c [1, 1, 1, 1, 1, 1, 1]] [(82, .bool true), (83, .agg #[vI 0, vI 0, vI 0, vI 0, vI 0, vI 0, vI 0, vI 0, vI 0])] [E7516a b_1 q0 q1 q2 q3, Ee1539 b_3 (cfgR 3), .raw 0 o_]) (by kernel_rfl) ?_
        refine ok_stop ?_
        refine go_call (some 84) [] Tryd.call13 (guard_New0) (by kernel_rfl) ?_
        rintro v post ⟨rfl, rfl⟩
        refine go_exec (rs := [.tmp 2]) (by kernel_rfl) 4000 [] (o := .ret (.bool true) [E7516a b_1 q0 q1 q2 q3, Ee1539 b_3 (cfgR 3), .raw 0 o_]) (by kernel_rfl) ?_
        exact ret_ok (post := [.raw 0 o_]) [2] (by kernel_rfl) ⟨rfl, (by kernel_rfl)⟩
    · by_cases hm : bMin (bMin (slotAt (cfgR 3) q1) (ctlAt (cfgR 3) q2)) q0 < 0
      · skip
        refine go_exec (rs := [.tmp 2]) (by kernel_rfl) 4000 [.e 2, .w, .e 1, .w, .e 1, .w, .e 1, .w, .e 1, .z [0, 1, 1, 1, 1] 9 [1, 3, 5, 6, 15, 17, 19, 21, 23]] (o := .obl (b_3 = b_3) (.obl (b_1 = b_1) (.obl (b_1 = b_1) (.obl (b_1 = b_1) (.obl (b_1 = b_1) (.stop [.o [0, 1, 1, 1, 1] 9, .c [1, 1, 1, 1, 1]] [(1, vP b_1), (3, .pointer none), (5, vI 0), (6, .iface 49 (vI 1)), (15, cfgV (cfgR 3)), (17, vI q0), (19, vI q1), (21, vI q2), (23, vI q3)] [.raw 0 o_, E7516a b_1 q0 q1 q2 q3, Ee1539 b_3 (cfgR 3)])))))) (by kernel_rfl) ?_
        refine ok_obl rfl ?_
        refine ok_obl rfl ?_
        refine ok_obl rfl ?_
        refine ok_obl rfl ?_
        refine ok_obl rfl ?_
        refine ok_stop ?_
        refine go_call (some 24) [] Tryd.call13 (guard_NewBadA (cfgR 3) q0 q1 q2 q3 hc hm) (by kernel_rfl) ?_
        rintro v post ⟨rfl, rfl⟩
        refine go_exec (rs := [.tmp 2]) (by kernel_rfl) 4000 [.w, .e 1, .sp [28, 27] [.w, .e 1, .sp [33, 31, 32] [.dead] [.z [0, 1, 1, 1, 1, 1, 1] 0 [3, 5, 6, 7, 8]]] [.dead]] (o := .obl (b_1 = b_1) (.obl ((decide (q0 ≥ 0)) = (decide (q0 ≥ 0))) (.br (decide (q0 ≥ 0)) (.obl (b_1 = b_1) (.obl ((decide (q0 < 2)) = (decide (q0 < 2))) (.obl ((decide (q0 < 2)) = (decide (q0 < 2))) (.br (decide (q0 < 2)) (.bad) (.stop [.o [0, 1, 1, 1, 1, 1, 1] 0, .c [1, 1, 1, 1, 1, 1, 1]] [(3, .pointer none), (5, vI 0), (6, .iface 49 (vI 1)), (7, .pointer none), (8, .bool false)] [.raw 0 o_, E7516a b_1 q0 q1 q2 q3, Ee1539 b_3 (cfgR 3)]))))) (.bad)))) (by kernel_rfl) ?_
        refine ok_obl rfl ?_
        refine ok_obl rfl ?_
        refine ok_br (fun _ => ?_) (fun h => absurd (show (decide (q0 ≥ 0)) = true from (decide_eq_true h1)) (by rw [h]; simp))
        refine ok_obl rfl ?_
        refine ok_obl rfl ?_
        refine ok_obl rfl ?_
        refine ok_br (fun h => absurd (show (decide (q0 < 2)) = false from (decide_eq_false h2)) (by rw [h]; simp)) (fun _ => ?_)
        refine ok_stop ?_
        refine go_call (some 53) [0] Tryd.call7 (law14_awake o_ ho) (by kernel_rfl) ?_
        rintro v post ⟨rfl, rfl⟩
        refine go_exec (rs := [.tmp 2]) (by kernel_rfl) 4000 [.z [0, 1, 1, 1, 1, 1, 1] 3 [3, 5, 6, 7, 8, 54, 55]] (o := .stop [.o [0, 1, 1, 1, 1, 1, 1] 3, .c [1, 1, 1, 1, 1, 1, 1]] [(3, .pointer none), (5, vI 0), (6, .iface 49 (vI 1)), (7, .pointer none), (8, .bool false), (54, .bool true), (55, .pointer none)] [E7516a b_1 q0 q1 q2 q3, Ee1539 b_3 (cfgR 3), .raw 0 o_]) (by kernel_rfl) ?_
        refine ok_stop ?_
        refine go_call (some 56) [] Tryd.call15 (gStep_nil) (by kernel_rfl) ?_
        rintro v post ⟨rfl, rfl⟩
        refine go_exec (rs := [.tmp 2]) (by kernel_rfl) 4000 [.z [0, 1, 1, 1, 1, 1, 1] 7 [3, 5, 6, 7, 8, 58, 59]] (o := .stop [.o [0, 1, 1, 1, 1, 1, 1] 7, .c [1, 1, 1, 1, 1, 1, 1]] [(3, .pointer none), (5, vI 0), (6, .iface 49 (vI 1)), (7, .pointer none), (8, .bool false), (58, .bool true), (59, .pointer none)] [E7516a b_1 q0 q1 q2 q3, Ee1539 b_3 (cfgR 3), .raw 0 o_]) (by kernel_rfl) ?_
        refine ok_stop ?_
        refine go_call (some 60) [] Tryd.call14 (gDone_nil) (by kernel_rfl) ?_
        rintro v post ⟨rfl, rfl⟩
        refine go_exec (rs := [.tmp 2]) (by kernel_rfl) 4000 [.z [0, 1, 1, 1, 1, 1, 1] 15 [3, 7, 8, 66, 67]] (o := .stop [.o [0, 1, 1, 1, 1, 1, 1] 15, .c [1, 1, 1, 1, 1, 1, 1]] [(3, .pointer none), (7, .pointer none), (8, .bool false), (66, .bool true), (67, .iface 49 (vI 1))] [E7516a b_1 q0 q1 q2 q3, Ee1539 b_3 (cfgR 3), .raw 0 o_]) (by kernel_rfl) ?_
        refine ok_stop ?_
        refine go_call (some 68) [2] Tryd.call17 (cause_TopE o_ 1 ho) (by kernel_rfl) ?_
        rintro v post ⟨rfl, rfl⟩
        refine go_exec (rs := [.tmp 2]) (by kernel_rfl) 4000 [.z [0, 1, 1, 1, 1, 1, 1] 20 [7, 8, 71, 72]] (o := .stop [.o [0, 1, 1, 1, 1, 1, 1] 20, .c [1, 1, 1, 1, 1, 1, 1]] [(7, .pointer none), (8, .bool false), (71, .bool true), (72, .pointer none)] [E7516a b_1 q0 q1 q2 q3, Ee1539 b_3 (cfgR 3), .raw 0 o_]) (by kernel_rfl) ?_
        refine ok_stop ?_
        refine go_call (some 73) [] Tryd.call18 (gCommit_nil) (by kernel_rfl) ?_
        rintro v post ⟨rfl, rfl⟩
        refine go_exec (rs := [.tmp 2]) (by kernel_rfl) 4000 [.z [0, 1, 1, 1, 1, 1, 1] 31 [82, 83]] (o := .stop [.o [0, 1, 1, 1, 1, 1, 1] 31, .c [1, 1, 1, 1, 1, 1, 1]] [(82, .bool true), (83, .agg #[vI 0, vI 0, vI 0, vI 0, vI 0, vI 0, vI 0, vI 0, vI 0])] [E7516a b_1 q0 q1 q2 q3, Ee1539 b_3 (cfgR 3), .raw 0 o_]) (by kernel_rfl) ?_
        refine ok_stop ?_
        refine go_call (some 84) [] Tryd.call13 (guard_New0) (by kernel_rfl) ?_
        rintro v post ⟨rfl, rfl⟩
        refine go_exec (rs := [.tmp 2]) (by kernel_rfl) 4000 [] (o := .ret (.bool true) [E7516a b_1 q0 q1 q2 q3, Ee1539 b_3 (cfgR 3), .raw 0 o_]) (by kernel_rfl) ?_
        exact ret_ok (post := [.raw 0 o_]) [2] (by kernel_rfl) ⟨rfl, (by kernel_rfl)⟩
      · skip
        refine go_exec (rs := [.tmp 2]) (by kernel_rfl) 4000 [.e 2, .w, .e 1, .w, .e 1, .w, .e 1, .w, .e 1, .z [0, 1, 1, 1, 1] 9 [1, 3, 5, 6, 15, 17, 19, 21, 23]] (o := .obl (b_3 = b_3) (.obl (b_1 = b_1) (.obl (b_1 = b_1) (.obl (b_1 = b_1) (.obl (b_1 = b_1) (.stop [.o [0, 1, 1, 1, 1] 9, .c [1, 1, 1, 1, 1]] [(1, vP b_1), (3, .pointer none), (5, vI 0), (6, .iface 49 (vI 1)), (15, cfgV (cfgR 3)), (17, vI q0), (19, vI q1), (21, vI q2), (23, vI q3)] [.raw 0 o_, E7516a b_1 q0 q1 q2 q3, Ee1539 b_3 (cfgR 3)])))))) (by kernel_rfl) ?_
        refine ok_obl rfl ?_
        refine ok_obl rfl ?_
        refine ok_obl rfl ?_
        refine ok_obl rfl ?_
        refine ok_obl rfl ?_
        refine ok_stop ?_
        refine go_call (some 24) [] Tryd.call13 (guard_NewBadB (cfgR 3) q0 q1 q2 q3 hc hm (by show q0 ≥ 2; omega)) (by kernel_rfl) ?_
        rintro v post ⟨rfl, rfl⟩
        refine go_exec (rs := [.tmp 2]) (by kernel_rfl) 4000 [.w, .e 1, .sp [28, 27] [.w, .e 1, .sp [33, 31, 32] [.dead] [.z [0, 1, 1, 1, 1, 1, 1] 0 [3, 5, 6, 7, 8]]] [.dead]] (o := .obl (b_1 = b_1) (.obl ((decide (q0 ≥ 0)) = (decide (q0 ≥ 0))) (.br (decide (q0 ≥ 0)) (.obl (b_1 = b_1) (.obl ((decide (q0 < 2)) = (decide (q0 < 2))) (.obl ((decide (q0 < 2)) = (decide (q0 < 2))) (.br (decide (q0 < 2)) (.bad) (.stop [.o [0, 1, 1, 1, 1, 1, 1] 0, .c [1, 1, 1, 1, 1, 1, 1]] [(3, .pointer none), (5, vI 0), (6, .iface 49 (vI 1)), (7, .pointer none), (8, .bool false)] [.raw 0 o_, E7516a b_1 q0 q1 q2 q3, Ee1539 b_3 (cfgR 3)]))))) (.bad)))) (by kernel_rfl) ?_
        refine ok_obl rfl ?_
        refine ok_obl rfl ?_
        refine ok_br (fun _ => ?_) (fun h => absurd (show (decide (q0 ≥ 0)) = true from (decide_eq_true h1)) (by rw [h]; simp))
        refine ok_obl rfl ?_
        refine ok_obl rfl ?_
        refine ok_obl rfl ?_
        refine ok_br (fun h => absurd (show (decide (q0 < 2)) = false from (decide_eq_false h2)) (by rw [h]; simp)) (fun _ => ?_)
        refine ok_stop ?_
        refine go_call (some 53) [0] Tryd.call7 (law14_awake o_ ho) (by kernel_rfl) ?_
        rintro v post ⟨rfl, rfl⟩
        refine go_exec (rs := [.tmp 2]) (by kernel_rfl) 4000 [.z [0, 1, 1, 1, 1, 1, 1] 3 [3, 5, 6, 7, 8, 54, 55]] (o := .stop [.o [0, 1, 1, 1, 1, 1, 1] 3, .c [1, 1, 1, 1, 1, 1, 1]] [(3, .pointer none), (5, vI 0), (6, .iface 49 (vI 1)), (7, .pointer none), (8, .bool false), (54, .bool true), (55, .pointer none)] [E7516a b_1 q0 q1 q2 q3, Ee1539 b_3 (cfgR 3), .raw 0 o_]) (by kernel_rfl) ?_
        refine ok_stop ?_
        refine go_call (some 56) [] Tryd.call15 (gStep_nil) (by kernel_rfl) ?_
        rintro v post ⟨rfl, rfl⟩
        refine go_exec (rs := [.tmp 2]) (by kernel_rfl) 4000 [.z [0, 1, 1, 1, 1, 1, 1] 7 [3, 5, 6, 7, 8, 58, 59]] (o := .stop [.o [0, 1, 1, 1, 1, 1, 1] 7, .c [1, 1, 1, 1, 1, 1, 1]] [(3, .pointer none), (5, vI 0), (6, .iface 49 (vI 1)), (7, .pointer none), (8, .bool false), (58, .bool true), (59, .pointer none)] [E7516a b_1 q0 q1 q2 q3, Ee1539 b_3 (cfgR 3), .raw 0 o_]) (by kernel_rfl) ?_
        refine ok_stop ?_
        refine go_call (some 60) [] Tryd.call14 (gDone_nil) (by kernel_rfl) ?_
        rintro v post ⟨rfl, rfl⟩
        refine go_exec (rs := [.tmp 2]) (by kernel_rfl) 4000 [.z [0, 1, 1, 1, 1, 1, 1] 15 [3, 7, 8, 66, 67]] (o := .stop [.o [0, 1, 1, 1, 1, 1, 1] 15, .c [1, 1, 1, 1, 1, 1, 1]] [(3, .pointer none), (7, .pointer none), (8, .bool false), (66, .bool true), (67, .iface 49 (vI 1))] [E7516a b_1 q0 q1 q2 q3, Ee1539 b_3 (cfgR 3), .raw 0 o_]) (by kernel_rfl) ?_
        refine ok_stop ?_
        refine go_call (some 68) [2] Tryd.call17 (cause_TopE o_ 1 ho) (by kernel_rfl) ?_
        rintro v post ⟨rfl, rfl⟩
        refine go_exec (rs := [.tmp 2]) (by kernel_rfl) 4000 [.z [0, 1, 1, 1, 1, 1, 1] 20 [7, 8, 71, 72]] (o := .stop [.o [0, 1, 1, 1, 1, 1, 1] 20, .c [1, 1, 1, 1, 1, 1, 1]] [(7, .pointer none), (8, .bool false), (71, .bool true), (72, .pointer none)] [E7516a b_1 q0 q1 q2 q3, Ee1539 b_3 (cfgR 3), .raw 0 o_]) (by kernel_rfl) ?_
        refine ok_stop ?_
        refine go_call (some 73) [] Tryd.call18 (gCommit_nil) (by kernel_rfl) ?_
        rintro v post ⟨rfl, rfl⟩
        refine go_exec (rs := [.tmp 2]) (by kernel_rfl) 4000 [.z [0, 1, 1, 1, 1, 1, 1] 31 [82, 83]] (o := .stop [.o [0, 1, 1, 1, 1, 1, 1] 31, .c [1, 1, 1, 1, 1, 1, 1]] [(82, .bool true), (83, .agg #[vI 0, vI 0, vI 0, vI 0, vI 0, vI 0, vI 0, vI 0, vI 0])] [E7516a b_1 q0 q1 q2 q3, Ee1539 b_3 (cfgR 3), .raw 0 o_]) (by kernel_rfl) ?_
        refine ok_stop ?_
        refine go_call (some 84) [] Tryd.call13 (guard_New0) (by kernel_rfl) ?_
        rintro v post ⟨rfl, rfl⟩
        refine go_exec (rs := [.tmp 2]) (by kernel_rfl) 4000 [] (o := .ret (.bool true) [E7516a b_1 q0 q1 q2 q3, Ee1539 b_3 (cfgR 3), .raw 0 o_]) (by kernel_rfl) ?_
        exact ret_ok (post := [.raw 0 o_]) [2] (by kernel_rfl) ⟨rfl, (by kernel_rfl)⟩
  · have hm : bMin (bMin (slotAt (cfgR 3) q1) (ctlAt (cfgR 3) q2)) q0 < 0 := by
      unfold bMin; (repeat' split) <;> omega
    refine go_exec (rs := [.tmp 2]) (by kernel_rfl) 4000 [.e 2, .w, .e 1, .w, .e 1, .w, .e 1, .w, .e 1, .z [0, 1, 1, 1, 1] 9 [1, 3, 5, 6, 15, 17, 19, 21, 23]] (o := .obl (b_3 = b_3) (.obl (b_1 = b_1) (.obl (b_1 = b_1) (.obl (b_1 = b_1) (.obl (b_1 = b_1) (.stop [.o [0, 1, 1, 1, 1] 9, .c [1, 1, 1, 1, 1]] [(1, vP b_1), (3, .pointer none), (5, vI 0), (6, .iface 49 (vI 1)), (15, cfgV (cfgR 3)), (17, vI q0), (19, vI q1), (21, vI q2), (23, vI q3)] [.raw 0 o_, E7516a b_1 q0 q1 q2 q3, Ee1539 b_3 (cfgR 3)])))))) (by kernel_rfl) ?_
    refine ok_obl rfl ?_
    refine ok_obl rfl ?_
    refine ok_obl rfl ?_
    refine ok_obl rfl ?_
    refine ok_obl rfl ?_
    refine ok_stop ?_
    refine go_call (some 24) [] Tryd.call13 (guard_NewBadA (cfgR 3) q0 q1 q2 q3 hc hm) (by kernel_rfl) ?_
    rintro v post ⟨rfl, rfl⟩
    refine go_exec (rs := [.tmp 2]) (by kernel_rfl) 4000 [.w, .e 1, .sp [28, 27] [.dead] [.z [0, 1, 1, 1, 1, 1, 1] 0 [3, 5, 6, 7, 8]]] (o := .obl (b_1 = b_1) (.obl ((decide (q0 ≥ 0)) = (decide (q0 ≥ 0))) (.br (decide (q0 ≥ 0)) (.bad) (.stop [.o [0, 1, 1, 1, 1, 1, 1] 0, .c [1, 1, 1, 1, 1, 1, 1]] [(3, .pointer none), (5, vI 0), (6, .iface 49 (vI 1)), (7, .pointer none), (8, .bool false)] [.raw 0 o_, E7516a b_1 q0 q1 q2 q3, Ee1539 b_3 (cfgR 3)])))) (by kernel_rfl) ?_
    refine ok_obl rfl ?_
    refine ok_obl rfl ?_
    refine ok_br (fun h => absurd (show (decide (q0 ≥ 0)) = false from (decide_eq_false h1)) (by rw [h]; simp)) (fun _ => ?_)
    refine ok_stop ?_
    refine go_call (some 53) [0] Tryd.call7 (law14_awake o_ ho) (by kernel_rfl) ?_
    rintro v post ⟨rfl, rfl⟩
    refine go_exec (rs := [.tmp 2]) (by kernel_rfl) 4000 [.z [0, 1, 1, 1, 1, 1, 1] 3 [3, 5, 6, 7, 8, 54, 55]] (o := .stop [.o [0, 1, 1, 1, 1, 1, 1] 3, .c [1, 1, 1, 1, 1, 1, 1]] [(3, .pointer none), (5, vI 0), (6, .iface 49 (vI 1)), (7, .pointer none), (8, .bool false), (54, .bool true), (55, .pointer none)] [E7516a b_1 q0 q1 q2 q3, Ee1539 b_3 (cfgR 3), .raw 0 o_]) (by kernel_rfl) ?_
    refine ok_stop ?_
    refine go_call (some 56) [] Tryd.call15 (gStep_nil) (by kernel_rfl) ?_
    rintro v post ⟨rfl, rfl⟩
    refine go_exec (rs := [.tmp 2]) (by kernel_rfl) 4000 [.z [0, 1, 1, 1, 1, 1, 1] 7 [3, 5, 6, 7, 8, 58, 59]] (o := .stop [.o [0, 1, 1, 1, 1, 1, 1] 7, .c [1, 1, 1, 1, 1, 1, 1]] [(3, .pointer none), (5, vI 0), (6, .iface 49 (vI 1)), (7, .pointer none), (8, .bool false), (58, .bool true), (59, .pointer none)] [E7516a b_1 q0 q1 q2 q3, Ee1539 b_3 (cfgR 3), .raw 0 o_]) (by kernel_rfl) ?_
    refine ok_stop ?_
    refine go_call (some 60) [] Tryd.call14 (gDone_nil) (by kernel_rfl) ?_
    rintro v post ⟨rfl, rfl⟩
    refine go_exec (rs := [.tmp 2]) (by kernel_rfl) 4000 [.z [0, 1, 1, 1, 1, 1, 1] 15 [3, 7, 8, 66, 67]] (o := .stop [.o [0, 1, 1, 1, 1, 1, 1] 15, .c [1, 1, 1, 1, 1, 1, 1]] [(3, .pointer none), (7, .pointer none), (8, .bool false), (66, .bool true), (67, .iface 49 (vI 1))] [E7516a b_1 q0 q1 q2 q3, Ee1539 b_3 (cfgR 3), .raw 0 o_]) (by kernel_rfl) ?_
    refine ok_stop ?_
    refine go_call (some 68) [2] Tryd.call17 (cause_TopE o_ 1 ho) (by kernel_rfl) ?_
    rintro v post ⟨rfl, rfl⟩
    refine go_exec (rs := [.tmp 2]) (by kernel_rfl) 4000 [.z [0, 1, 1, 1, 1, 1, 1] 20 [7, 8, 71, 72]] (o := .stop [.o [0, 1, 1, 1, 1, 1, 1] 20, .c [1, 1, 1, 1, 1, 1, 1]] [(7, .pointer none), (8, .bool false), (71, .bool true), (72, .pointer none)] [E7516a b_1 q0 q1 q2 q3, Ee1539 b_3 (cfgR 3), .raw 0 o_]) (by kernel_rfl) ?_
    refine ok_stop ?_
    refine go_call (some 73) [] Tryd.call18 (gCommit_nil) (by kernel_rfl) ?_
    rintro v post ⟨rfl, rfl⟩
    refine go_exec (rs := [.tmp 2]) (by kernel_rfl) 4000 [.z [0, 1, 1, 1, 1, 1, 1] 31 [82, 83]] (o := .stop [.o [0, 1, 1, 1, 1, 1, 1] 31, .c [1, 1, 1, 1, 1, 1, 1]] [(82, .bool true), (83, .agg #[vI 0, vI 0, vI 0, vI 0, vI 0, vI 0, vI 0, vI 0, vI 0])] [E7516a b_1 q0 q1 q2 q3, Ee1539 b_3 (cfgR 3), .raw 0 o_]) (by kernel_rfl) ?_
    refine ok_stop ?_
    refine go_call (some 84) [] Tryd.call13 (guard_New0) (by kernel_rfl) ?_
    rintro v post ⟨rfl, rfl⟩
    refine go_exec (rs := [.tmp 2]) (by kernel_rfl) 4000 [] (o := .ret (.bool true) [E7516a b_1 q0 q1 q2 q3, Ee1539 b_3 (cfgR 3), .raw 0 o_]) (by kernel_rfl) ?_
    exact ret_ok (post := [.raw 0 o_]) [2] (by kernel_rfl) ⟨rfl, (by kernel_rfl)⟩

end Go.Proofs.YtilaihbbollcnaaDoor


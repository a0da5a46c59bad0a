/- Walks: what functions of the program and of the document compute, part 4 of those on which GuardPlays rests. -/
import Derived.Test.YtilaihbbollcnaaGreatDoorRtC

set_option linter.unusedVariables false
set_option linter.unusedSimpArgs false

namespace Go.Proofs.YtilaihbbollcnaaGreatDoor
open Go.Sx
abbrev Ed23d1 (x0 : Nat) (c1 : Cfg) (x2 : Int) (x3 : Int) (x4 : Int) (x5 : Int) (x6 : Int) (x7 : Int) (x8 : Int) (x9 : Int) (x10 : Int) (x11 : Int) : Ent := .pts x0 [.int .i64 c1.topics, .int .i64 c1.small, .int .i64 c1.slots, .int .i64 c1.clients, .int .i64 c1.s0, .int .i64 c1.n0, .int .i64 c1.s1, .int .i64 c1.n1, .int .i64 c1.retry, .int .i64 x2, .int .i64 x3, .int .i64 x4, .int .i64 x5, .int .i64 x6, .int .i64 x7, .int .i64 x8, .int .i64 x9, .int .u64 x10, .int .i64 x11] 64
noncomputable def B13 : Code := (Tryz.f13.body).getD .skip

theorem ref_Control (c : Cfg) (i : Int) (hc : c.Ok) (hi : 0 ≤ i ∧ i < c.topics) :
    Ctr Tryz.prog 13 #[cfgV c, vI i] [] (Ret (vI (ctlAt c i)) []) := by
  refine ctr_of (args := [cfgV c, vI i]) (fn := Tryz.f13) (body := B13) (nt := 26) Tryz.func13 (by kernel_rfl) (by kernel_rfl) ?_
  intro F
  refine go_exec (rs := [.tmp 4]) (by kernel_rfl) 4000 [.sp [7, 6] [.dead] [.e 0, .sp [12, 11] [.dead] [.e 0, .n, .e 0, .n, .e 0, .n, .n, .n, .n]]] (o := .new fun b_1 => .obl ((decide (i < 0)) = (decide (i < 0))) (.br (decide (i < 0)) (.bad) (.obl (b_1 = b_1) (.obl ((decide (i ≥ c.topics)) = (decide (i ≥ c.topics))) (.br (decide (i ≥ c.topics)) (.bad) (.obl (b_1 = b_1) (.obl (InK .i64 (5 + c.slots)) (.obl (b_1 = b_1) (.obl (InK .i64 ((5 + c.slots) + c.topics)) (.obl (b_1 = b_1) (.obl (InK .i64 (2 * c.small)) (.obl (InK .i64 (1 + (2 * c.small))) (.obl (InK .i64 (i * (1 + (2 * c.small)))) (.obl (InK .i64 (((5 + c.slots) + c.topics) + (i * (1 + (2 * c.small))))) (.ret (vI (((5 + c.slots) + c.topics) + (i * (1 + (2 * c.small))))) [Ee1539 b_1 c]))))))))))))))) (by kernel_rfl) ?_
  refine ok_new fun b_1 => ?_
  refine ok_obl rfl ?_
  refine ok_br (fun h => absurd (show (decide (i < 0)) = false from (by first | (simp; done) | (simp; omega))) (by rw [h]; simp)) (fun _ => ?_)
  refine ok_obl rfl ?_
  refine ok_obl rfl ?_
  refine ok_br (fun h => absurd (show (decide (i ≥ c.topics)) = false from (by first | (simp; done) | (simp; omega))) (by rw [h]; simp)) (fun _ => ?_)
  refine ok_obl rfl ?_
  refine ok_obl (by have hnl := ctl_nl hc hi; simp only [Cfg.Ok, InK] at *; omega) ?_
  refine ok_obl rfl ?_
  refine ok_obl (by have hnl := ctl_nl hc hi; simp only [Cfg.Ok, InK] at *; omega) ?_
  refine ok_obl rfl ?_
  refine ok_obl (by have hnl := ctl_nl hc hi; simp only [Cfg.Ok, InK] at *; omega) ?_
  refine ok_obl (by have hnl := ctl_nl hc hi; simp only [Cfg.Ok, InK] at *; omega) ?_
  refine ok_obl (by have hnl := ctl_nl hc hi; simp only [Cfg.Ok, InK] at *; omega) ?_
  refine ok_obl (by have hnl := ctl_nl hc hi; simp only [Cfg.Ok, InK] at *; omega) ?_
  exact ret_ok (post := []) [] (by kernel_rfl) ⟨(congrArg (Value.int .i64) (by unfold ctlAt; rw [if_pos hi])), (by kernel_rfl)⟩

noncomputable def B65 : Code := (Tryz.f65.body).getD .skip

theorem r14End0 (c : Cfg) (g : Nat) (cl ep sl tp sn bk fl cm cd : Int) (at_ : Int)  :
    Ctr Tryz.prog 65 #[vP g, vI 0] [Ed23d1 g c cl sl tp ep at_ fl bk cm sn cd] (Ret (undef) [Ed23d1 g c cl sl tp ep 0 fl bk cm sn 0]) := by
  refine ctr_of (args := [vP g, vI 0]) (fn := Tryz.f65) (body := B65) (nt := 16) Tryz.func65 (by kernel_rfl) (by kernel_rfl) ?_
  intro F
  refine go_exec (rs := []) (by kernel_rfl) 4000 [.e 0, .e 0] (o := .obl (g = g) (.obl (g = g) (.ret (undef) [Ed23d1 g c cl sl tp ep 0 fl bk cm sn 0]))) (by kernel_rfl) ?_
  refine ok_obl rfl ?_
  refine ok_obl rfl ?_
  exact ret_ok (post := [Ed23d1 g c cl sl tp ep 0 fl bk cm sn 0]) [0] (by kernel_rfl) ⟨rfl, (by kernel_rfl)⟩


theorem r14EndE (c : Cfg) (g : Nat) (cl ep sl tp sn bk fl cm cd : Int) (at_ k_ : Int) (hk : k_ ≠ 0) :
    Ctr Tryz.prog 65 #[vP g, vI k_] [Ed23d1 g c cl sl tp ep at_ fl bk cm sn cd] (Ret (undef) [Ed23d1 g c cl sl tp ep 0 fl 0 cm sn k_]) := by
  refine ctr_of (args := [vP g, vI k_]) (fn := Tryz.f65) (body := B65) (nt := 16) Tryz.func65 (by kernel_rfl) (by kernel_rfl) ?_
  intro F
  refine go_exec (rs := []) (by kernel_rfl) 4000 [.e 0, .e 0, .sp [12] [.e 0] [.dead]] (o := .obl (g = g) (.obl (g = g) (.br (k_ != 0) (.obl (g = g) (.ret (undef) [Ed23d1 g c cl sl tp ep 0 fl 0 cm sn k_])) (.bad)))) (by kernel_rfl) ?_
  refine ok_obl rfl ?_
  refine ok_obl rfl ?_
  refine ok_br (fun _ => ?_) (fun h => absurd (show (k_ != 0) = true from (bne_iff_ne.2 hk)) (by rw [h]; simp))
  refine ok_obl rfl ?_
  exact ret_ok (post := [Ed23d1 g c cl sl tp ep 0 fl 0 cm sn k_]) [0] (by kernel_rfl) ⟨rfl, (by kernel_rfl)⟩

noncomputable def B62 : Code := (Tryz.f62.body).getD .skip

theorem r14LookD (c : Cfg) (g : Nat) (cl ep sl tp sn bk fl cm cd : Int) (at_ w_ : Int) (hw : U64 w_) (hl : ctlLive w_ = false) :
    Ctr Tryz.prog 62 #[vP g, vU w_] [Ed23d1 g c cl sl tp ep at_ fl bk cm sn cd] (Ret (undef) [Ed23d1 g c cl sl tp ep 0 fl 0 cm w_ 22]) := by
  refine ctr_of (args := [vP g, vU w_]) (fn := Tryz.f62) (body := B62) (nt := 38) Tryz.func62 (by kernel_rfl) (by kernel_rfl) ?_
  intro F
  refine go_exec (rs := []) (by kernel_rfl) 4000 [.z [0] 1 [0, 1, 5]] (o := .stop [.o [0] 1, .c [1]] [(0, vP g), (1, vU w_), (5, vU w_)] [Ed23d1 g c cl sl tp ep at_ fl bk cm sn cd]) (by kernel_rfl) ?_
  refine ok_stop ?_
  refine go_call (some 6) [] Tryz.call81 (r13_Unpack w_ (by first | assumption | omega | (simp only [InK] at *; omega))) (by kernel_rfl) ?_
  rintro v post ⟨rfl, rfl⟩
  refine go_exec (rs := []) (by kernel_rfl) 4000 [.e 1, .e 0, .e 1, .e 0, .e 0, .z [0, 1, 1, 1, 1] 0 [0, 4]] (o := .new fun b_2 => .obl (b_2 = b_2) (.obl (g = g) (.obl (b_2 = b_2) (.obl (g = g) (.obl (g = g) (.stop [.c [0, 1, 1, 1, 1], .c [1, 1, 1, 1, 1]] [(0, vP g), (4, vP b_2)] [Ed23d1 g c cl sl tp ep 2 fl (ctlBlock w_) cm w_ cd, Efb1cc b_2 (ctlEpoch w_) (ctlGen w_) (ctlBlock w_) (ctlLive w_) (ctlBusy w_)])))))) (by kernel_rfl) ?_
  refine ok_new fun b_2 => ?_
  refine ok_obl rfl ?_
  refine ok_obl rfl ?_
  refine ok_obl rfl ?_
  refine ok_obl rfl ?_
  refine ok_obl rfl ?_
  refine ok_stop ?_
  refine go_quiet (tm' := [(0, vP g), (4, vP b_2), (30, .bool true)]) (ps := [b_2 = b_2, (!(ctlLive w_)) = true]) (cs := []) [(0, .h .w), (1, .h (.e 1)), (2, .h (.t true)), (3, .h .w), (4, .h .w), (5, .h .w), (6, .h .w), (7, .h .w), (8, .h .w), (9, .h .w), (10, .h .w), (11, .h .w)] [0, 4, 30] (by kernel_rfl) (by kernel_rfl) ⟨rfl, (by simp [hl]), trivial⟩ trivial ?_
  refine go_exec (rs := []) (by kernel_rfl) 4000 [.z [0, 1, 1, 1, 1, 1] 1 [31]] (o := .stop [.o [0, 1, 1, 1, 1, 1] 1] [(31, vP g)] [Ed23d1 g c cl sl tp ep 2 fl (ctlBlock w_) cm w_ cd, Efb1cc b_2 (ctlEpoch w_) (ctlGen w_) (ctlBlock w_) (ctlLive w_) (ctlBusy w_)]) (by kernel_rfl) ?_
  refine ok_stop ?_
  refine go_call (some 32) [0] Tryz.call65 (r14EndE c g cl ep sl tp w_ (ctlBlock w_) fl cm cd 2 22 (by decide)) (by kernel_rfl) ?_
  rintro v post ⟨rfl, rfl⟩
  refine go_exec (rs := []) (by kernel_rfl) 4000 [] (o := .ret (undef) [Efb1cc b_2 (ctlEpoch w_) (ctlGen w_) (ctlBlock w_) (ctlLive w_) (ctlBusy w_), Ed23d1 g c cl sl tp ep 0 fl 0 cm w_ 22]) (by kernel_rfl) ?_
  exact ret_ok (post := [Ed23d1 g c cl sl tp ep 0 fl 0 cm w_ 22]) [1] (by kernel_rfl) ⟨rfl, (by kernel_rfl)⟩


theorem r14LookP (c : Cfg) (g : Nat) (cl ep sl tp sn bk fl cm cd : Int) (at_ w_ : Int) (hw : U64 w_) (hl : ctlLive w_ = true) (he : ctlEpoch w_ ≠ ep) :
    Ctr Tryz.prog 62 #[vP g, vU w_] [Ed23d1 g c cl sl tp ep at_ fl bk cm sn cd] (Ret (undef) [Ed23d1 g c cl sl tp ep 0 fl 0 cm w_ 22]) := by
  refine ctr_of (args := [vP g, vU w_]) (fn := Tryz.f62) (body := B62) (nt := 38) Tryz.func62 (by kernel_rfl) (by kernel_rfl) ?_
  intro F
  refine go_exec (rs := []) (by kernel_rfl) 4000 [.z [0] 1 [0, 1, 5]] (o := .stop [.o [0] 1, .c [1]] [(0, vP g), (1, vU w_), (5, vU w_)] [Ed23d1 g c cl sl tp ep at_ fl bk cm sn cd]) (by kernel_rfl) ?_
  refine ok_stop ?_
  refine go_call (some 6) [] Tryz.call81 (r13_Unpack w_ (by first | assumption | omega | (simp only [InK] at *; omega))) (by kernel_rfl) ?_
  rintro v post ⟨rfl, rfl⟩
  refine go_exec (rs := []) (by kernel_rfl) 4000 [.e 1, .e 0, .e 1, .e 0, .e 0, .z [0, 1, 1, 1, 1] 0 [0, 4]] (o := .new fun b_2 => .obl (b_2 = b_2) (.obl (g = g) (.obl (b_2 = b_2) (.obl (g = g) (.obl (g = g) (.stop [.c [0, 1, 1, 1, 1], .c [1, 1, 1, 1, 1]] [(0, vP g), (4, vP b_2)] [Ed23d1 g c cl sl tp ep 2 fl (ctlBlock w_) cm w_ cd, Efb1cc b_2 (ctlEpoch w_) (ctlGen w_) (ctlBlock w_) (ctlLive w_) (ctlBusy w_)])))))) (by kernel_rfl) ?_
  refine ok_new fun b_2 => ?_
  refine ok_obl rfl ?_
  refine ok_obl rfl ?_
  refine ok_obl rfl ?_
  refine ok_obl rfl ?_
  refine ok_obl rfl ?_
  refine ok_stop ?_
  refine go_quiet (tm' := [(0, vP g), (4, vP b_2), (30, .bool true)]) (ps := [b_2 = b_2, (!(ctlLive w_)) = false, b_2 = b_2, g = g, ((ctlEpoch w_) != ep) = true]) (cs := []) [(0, .h .w), (1, .h (.e 1)), (2, .h (.t false)), (3, .h .w), (4, .h .w), (5, .h (.e 1)), (6, .h .w), (7, .h .w), (8, .h .w), (9, .h (.e 0)), (10, .h (.t true)), (11, .h .w)] [0, 4, 30] (by kernel_rfl) (by kernel_rfl) ⟨rfl, (by simp [hl]), rfl, rfl, (bne_iff_ne.2 he), trivial⟩ trivial ?_
  refine go_exec (rs := []) (by kernel_rfl) 4000 [.z [0, 1, 1, 1, 1, 1] 1 [31]] (o := .stop [.o [0, 1, 1, 1, 1, 1] 1] [(31, vP g)] [Ed23d1 g c cl sl tp ep 2 fl (ctlBlock w_) cm w_ cd, Efb1cc b_2 (ctlEpoch w_) (ctlGen w_) (ctlBlock w_) (ctlLive w_) (ctlBusy w_)]) (by kernel_rfl) ?_
  refine ok_stop ?_
  refine go_call (some 32) [0] Tryz.call65 (r14EndE c g cl ep sl tp w_ (ctlBlock w_) fl cm cd 2 22 (by decide)) (by kernel_rfl) ?_
  rintro v post ⟨rfl, rfl⟩
  refine go_exec (rs := []) (by kernel_rfl) 4000 [] (o := .ret (undef) [Efb1cc b_2 (ctlEpoch w_) (ctlGen w_) (ctlBlock w_) (ctlLive w_) (ctlBusy w_), Ed23d1 g c cl sl tp ep 0 fl 0 cm w_ 22]) (by kernel_rfl) ?_
  exact ret_ok (post := [Ed23d1 g c cl sl tp ep 0 fl 0 cm w_ 22]) [1] (by kernel_rfl) ⟨rfl, (by kernel_rfl)⟩


theorem r14LookE (c : Cfg) (g : Nat) (cl ep sl tp sn bk fl cm cd : Int) (at_ w_ : Int) (hw : U64 w_) (hl : ctlLive w_ = true) (he : ctlEpoch w_ = ep) (hb : ctlBlock w_ = 0) :
    Ctr Tryz.prog 62 #[vP g, vU w_] [Ed23d1 g c cl sl tp ep at_ fl bk cm sn cd] (Ret (undef) [Ed23d1 g c cl sl tp ep 0 fl 0 cm w_ 20]) := by
  refine ctr_of (args := [vP g, vU w_]) (fn := Tryz.f62) (body := B62) (nt := 38) Tryz.func62 (by kernel_rfl) (by kernel_rfl) ?_
  intro F
  refine go_exec (rs := []) (by kernel_rfl) 4000 [.z [0] 1 [0, 1, 5]] (o := .stop [.o [0] 1, .c [1]] [(0, vP g), (1, vU w_), (5, vU w_)] [Ed23d1 g c cl sl tp ep at_ fl bk cm sn cd]) (by kernel_rfl) ?_
  refine ok_stop ?_
  refine go_call (some 6) [] Tryz.call81 (r13_Unpack w_ (by first | assumption | omega | (simp only [InK] at *; omega))) (by kernel_rfl) ?_
  rintro v post ⟨rfl, rfl⟩
  refine go_exec (rs := []) (by kernel_rfl) 4000 [.e 1, .e 0, .e 1, .e 0, .e 0, .z [0, 1, 1, 1, 1] 0 [0, 4]] (o := .new fun b_2 => .obl (b_2 = b_2) (.obl (g = g) (.obl (b_2 = b_2) (.obl (g = g) (.obl (g = g) (.stop [.c [0, 1, 1, 1, 1], .c [1, 1, 1, 1, 1]] [(0, vP g), (4, vP b_2)] [Ed23d1 g c cl sl tp ep 2 fl (ctlBlock w_) cm w_ cd, Efb1cc b_2 (ctlEpoch w_) (ctlGen w_) (ctlBlock w_) (ctlLive w_) (ctlBusy w_)])))))) (by kernel_rfl) ?_
  refine ok_new fun b_2 => ?_
  refine ok_obl rfl ?_
  refine ok_obl rfl ?_
  refine ok_obl rfl ?_
  refine ok_obl rfl ?_
  refine ok_obl rfl ?_
  refine ok_stop ?_
  refine go_quiet (tm' := [(0, vP g), (4, vP b_2), (30, .bool false)]) (ps := [b_2 = b_2, (!(ctlLive w_)) = false, b_2 = b_2, g = g, ((ctlEpoch w_) != ep) = false]) (cs := []) [(0, .h .w), (1, .h (.e 1)), (2, .h (.t false)), (3, .h .w), (4, .h .w), (5, .h (.e 1)), (6, .h .w), (7, .h .w), (8, .h .w), (9, .h (.e 0)), (10, .h (.t false)), (11, .h .w)] [0, 4, 30] (by kernel_rfl) (by kernel_rfl) ⟨rfl, (by simp [hl]), rfl, rfl, (bne_eq_false_iff_eq.2 he), trivial⟩ trivial ?_
  refine go_exec (rs := []) (by kernel_rfl) 4000 [.e 1, .sp [35] [.z [0, 1, 1, 1, 1, 1, 1, 1] 1 [36]] [.dead]] (o := .obl (b_2 = b_2) (.br ((ctlBlock w_) == 0) (.stop [.o [0, 1, 1, 1, 1, 1, 1, 1] 1] [(36, vP g)] [Ed23d1 g c cl sl tp ep 2 fl (ctlBlock w_) cm w_ cd, Efb1cc b_2 (ctlEpoch w_) (ctlGen w_) (ctlBlock w_) (ctlLive w_) (ctlBusy w_)]) (.bad))) (by kernel_rfl) ?_
  refine ok_obl rfl ?_
  refine ok_br (fun _ => ?_) (fun h => absurd (show ((ctlBlock w_) == 0) = true from (beq_iff_eq.2 hb)) (by rw [h]; simp))
  refine ok_stop ?_
  refine go_call (some 37) [0] Tryz.call65 (r14EndE c g cl ep sl tp w_ (ctlBlock w_) fl cm cd 2 20 (by decide)) (by kernel_rfl) ?_
  rintro v post ⟨rfl, rfl⟩
  refine go_exec (rs := []) (by kernel_rfl) 4000 [] (o := .ret (undef) [Efb1cc b_2 (ctlEpoch w_) (ctlGen w_) (ctlBlock w_) (ctlLive w_) (ctlBusy w_), Ed23d1 g c cl sl tp ep 0 fl 0 cm w_ 20]) (by kernel_rfl) ?_
  exact ret_ok (post := [Ed23d1 g c cl sl tp ep 0 fl 0 cm w_ 20]) [1] (by kernel_rfl) ⟨rfl, (by kernel_rfl)⟩


theorem r14LookN (c : Cfg) (g : Nat) (cl ep sl tp sn bk fl cm cd : Int) (at_ w_ : Int) (hw : U64 w_) (hl : ctlLive w_ = true) (he : ctlEpoch w_ = ep) (hb : ctlBlock w_ ≠ 0) :
    Ctr Tryz.prog 62 #[vP g, vU w_] [Ed23d1 g c cl sl tp ep at_ fl bk cm sn cd] (Ret (undef) [Ed23d1 g c cl sl tp ep 2 fl (ctlBlock w_) cm w_ cd]) := by
  refine ctr_of (args := [vP g, vU w_]) (fn := Tryz.f62) (body := B62) (nt := 38) Tryz.func62 (by kernel_rfl) (by kernel_rfl) ?_
  intro F
  refine go_exec (rs := []) (by kernel_rfl) 4000 [.z [0] 1 [0, 1, 5]] (o := .stop [.o [0] 1, .c [1]] [(0, vP g), (1, vU w_), (5, vU w_)] [Ed23d1 g c cl sl tp ep at_ fl bk cm sn cd]) (by kernel_rfl) ?_
  refine ok_stop ?_
  refine go_call (some 6) [] Tryz.call81 (r13_Unpack w_ (by first | assumption | omega | (simp only [InK] at *; omega))) (by kernel_rfl) ?_
  rintro v post ⟨rfl, rfl⟩
  refine go_exec (rs := []) (by kernel_rfl) 4000 [.e 1, .e 0, .e 1, .e 0, .e 0, .z [0, 1, 1, 1, 1] 0 [0, 4]] (o := .new fun b_2 => .obl (b_2 = b_2) (.obl (g = g) (.obl (b_2 = b_2) (.obl (g = g) (.obl (g = g) (.stop [.c [0, 1, 1, 1, 1], .c [1, 1, 1, 1, 1]] [(0, vP g), (4, vP b_2)] [Ed23d1 g c cl sl tp ep 2 fl (ctlBlock w_) cm w_ cd, Efb1cc b_2 (ctlEpoch w_) (ctlGen w_) (ctlBlock w_) (ctlLive w_) (ctlBusy w_)])))))) (by kernel_rfl) ?_
  refine ok_new fun b_2 => ?_
  refine ok_obl rfl ?_
  refine ok_obl rfl ?_
  refine ok_obl rfl ?_
  refine ok_obl rfl ?_
  refine ok_obl rfl ?_
  refine ok_stop ?_
  refine go_quiet (tm' := [(0, vP g), (4, vP b_2), (30, .bool false)]) (ps := [b_2 = b_2, (!(ctlLive w_)) = false, b_2 = b_2, g = g, ((ctlEpoch w_) != ep) = false]) (cs := []) [(0, .h .w), (1, .h (.e 1)), (2, .h (.t false)), (3, .h .w), (4, .h .w), (5, .h (.e 1)), (6, .h .w), (7, .h .w), (8, .h .w), (9, .h (.e 0)), (10, .h (.t false)), (11, .h .w)] [0, 4, 30] (by kernel_rfl) (by kernel_rfl) ⟨rfl, (by simp [hl]), rfl, rfl, (bne_eq_false_iff_eq.2 he), trivial⟩ trivial ?_
  refine go_exec (rs := []) (by kernel_rfl) 4000 [.e 1, .sp [35] [.dead] []] (o := .obl (b_2 = b_2) (.br ((ctlBlock w_) == 0) (.bad) (.ret (undef) [Ed23d1 g c cl sl tp ep 2 fl (ctlBlock w_) cm w_ cd, Efb1cc b_2 (ctlEpoch w_) (ctlGen w_) (ctlBlock w_) (ctlLive w_) (ctlBusy w_)]))) (by kernel_rfl) ?_
  refine ok_obl rfl ?_
  refine ok_br (fun h => absurd (show ((ctlBlock w_) == 0) = false from (beq_eq_false_iff_ne.2 hb)) (by rw [h]; simp)) (fun _ => ?_)
  exact ret_ok (post := [Ed23d1 g c cl sl tp ep 2 fl (ctlBlock w_) cm w_ cd]) [0] (by kernel_rfl) ⟨rfl, (by kernel_rfl)⟩

noncomputable def B18 : Code := (Tryz.f18.body).getD .skip

theorem r14Step0 (c : Cfg) (g ra : Nat) (cl ep sl tp sn bk fl cm cd : Int) (A : Ar)  :
    Ctr Tryz.prog 18 #[vP g, vP ra] [Ed23d1 g c cl sl tp ep 0 fl bk cm sn cd, E3ba87 ra A false 0, E671ef A] (Ret (.bool true) [Ed23d1 g c cl sl tp ep 0 fl bk cm sn cd, E3ba87 ra A false 0, E671ef A]) := by
  refine ctr_of (args := [vP g, vP ra]) (fn := Tryz.f18) (body := B18) (nt := 114) Tryz.func18 (by kernel_rfl) (by kernel_rfl) ?_
  intro F
  refine go_exec (rs := [.tmp 4]) (by kernel_rfl) 4000 [.e 0, .sp [11, 12] [.dead] [.sp [34, 35] [.dead] [.sp [59, 60] [.dead] [.e 0]]]] (o := .obl (g = g) (.obl ((0 == 1) = (0 == 1)) (.br (0 == 1) (.bad) (.obl ((0 == 2) = (0 == 2)) (.br (0 == 2) (.bad) (.obl ((0 == 3) = (0 == 3)) (.br (0 == 3) (.bad) (.obl (g = g) (.ret (.bool (0 == 0)) [Ed23d1 g c cl sl tp ep 0 fl bk cm sn cd, E3ba87 ra A false 0, E671ef A]))))))))) (by kernel_rfl) ?_
  refine ok_obl rfl ?_
  refine ok_obl rfl ?_
  refine ok_br (fun h => absurd (show (0 == 1) = false from (by decide)) (by rw [h]; simp)) (fun _ => ?_)
  refine ok_obl rfl ?_
  refine ok_br (fun h => absurd (show (0 == 2) = false from (by decide)) (by rw [h]; simp)) (fun _ => ?_)
  refine ok_obl rfl ?_
  refine ok_br (fun h => absurd (show (0 == 3) = false from (by decide)) (by rw [h]; simp)) (fun _ => ?_)
  refine ok_obl rfl ?_
  exact ret_ok (post := [Ed23d1 g c cl sl tp ep 0 fl bk cm sn cd, E3ba87 ra A false 0, E671ef A]) [0, 1, 2] (by kernel_rfl) ⟨(congrArg Value.bool (by first | rfl | (simp; done) | (simp; omega))), (by kernel_rfl)⟩


theorem r14Step1D (c : Cfg) (g ra : Nat) (cl ep sl tp sn bk fl cm cd : Int) (A : Ar) (hc : c.Ok) (hn : A.ws.length = A.n) (hs : 0 ≤ A.steps ∧ A.steps ≤ 1000000000) (htp : 0 ≤ tp ∧ tp < c.topics) (hwd : 0 ≤ ctlAt c tp ∧ ctlAt c tp < A.n) (hw : U64 (A.ws.getD (ctlAt c tp).toNat 0)) (hl : ctlLive (A.ws.getD (ctlAt c tp).toNat 0) = false) :
    Ctr Tryz.prog 18 #[vP g, vP ra] [Ed23d1 g c cl sl tp ep 1 fl bk cm sn cd, E3ba87 ra A false 0, E671ef A] (Ret (.bool true) [Ed23d1 g c cl sl tp ep 0 fl 0 ((A.load (ctlAt c tp)).steps) (A.ws.getD (ctlAt c tp).toNat 0) 22, E3ba87 ra (A.load (ctlAt c tp)) false 0, E671ef (A.load (ctlAt c tp))]) := by
  refine ctr_of (args := [vP g, vP ra]) (fn := Tryz.f18) (body := B18) (nt := 114) Tryz.func18 (by kernel_rfl) (by kernel_rfl) ?_
  intro F
  refine go_exec (rs := [.tmp 4]) (by kernel_rfl) 4000 [.e 0, .sp [11, 12] [.z [0, 0, 1, 0, 1, 0, 1] 0 [0, 1]] [.dead]] (o := .obl (g = g) (.obl ((1 == 1) = (1 == 1)) (.br (1 == 1) (.stop [.c [0, 0, 1, 0, 1, 0, 1], .c [1, 0, 1, 0, 1, 0, 1], .b 0, .c [1, 1]] [(0, vP g), (1, vP ra)] [Ed23d1 g c cl sl tp ep 1 fl bk cm sn cd, E3ba87 ra A false 0, E671ef A]) (.bad)))) (by kernel_rfl) ?_
  refine ok_obl rfl ?_
  refine ok_obl rfl ?_
  refine ok_br (fun _ => ?_) (fun h => absurd (show (1 == 1) = true from (by decide)) (by rw [h]; simp))
  refine ok_stop ?_
  refine go_tail_call (dst := (some 23)) (ps := [g = g, g = g]) (cs := [(13, #[cfgV c, vI tp], vI (ctlAt c tp))]) [(0, .h .w), (1, .h .w), (2, .h .w), (3, .h .w), (4, .h (.e 0)), (5, .h .w), (6, .h .w), (7, .h .w), (8, .h (.e 0)), (9, .q (vI (ctlAt c tp)))] 10 [(11, .h .w)] [1, 2] [0, 1, 5] (by kernel_rfl) Tryz.call61 (ref_Load ra A (ctlAt c tp) (by first | assumption | omega | (simp only [InK] at *; omega)) hwd (by first | assumption | omega | (simp only [InK] at *; omega))) (by kernel_rfl) ⟨rfl, rfl, trivial⟩ ⟨⟨Tryz.call13, quiet_of [] (ref_Control c tp (by first | assumption | omega | (simp only [InK] at *; omega)) (by first | assumption | omega | (simp only [InK] at *; omega))) (by kernel_rfl) (by rintro v post ⟨rfl, rfl⟩; exact ⟨rfl, rfl⟩)⟩, trivial⟩ ?_
  rintro v post ⟨rfl, rfl⟩
  refine tail_next (tm' := [(0, vP g), (1, vP ra), (5, vU (A.ws.getD (ctlAt c tp).toNat 0))]) (ps2 := []) (by kernel_rfl) trivial ?_
  refine go_exec (rs := [.tmp 4]) (by kernel_rfl) 4000 [.e 1, .e 0, .z [1, 1, 0, 1, 0, 1, 0, 1] 2 [0, 31, 32]] (o := .obl (ra = ra) (.obl (g = g) (.stop [.o [1, 1, 0, 1, 0, 1, 0, 1] 2, .b 0, .c [1, 1]] [(0, vP g), (31, vP g), (32, vU (A.ws.getD (ctlAt c tp).toNat 0))] [Ed23d1 g c cl sl tp ep 1 fl bk ((A.load (ctlAt c tp)).steps) sn cd, E3ba87 ra (A.load (ctlAt c tp)) false 0, E671ef (A.load (ctlAt c tp))]))) (by kernel_rfl) ?_
  refine ok_obl rfl ?_
  refine ok_obl rfl ?_
  refine ok_stop ?_
  refine go_call (some 33) [0] Tryz.call62 (r14LookD c g cl ep sl tp sn bk fl ((A.load (ctlAt c tp)).steps) cd 1 (A.ws.getD (ctlAt c tp).toNat 0) (by first | assumption | omega | (simp only [InK] at *; omega)) (by first | assumption | omega | (simp only [InK] at *; omega))) (by kernel_rfl) ?_
  rintro v post ⟨rfl, rfl⟩
  refine go_exec (rs := [.tmp 4]) (by kernel_rfl) 4000 [.e 2] (o := .obl (g = g) (.ret (.bool true) [E3ba87 ra (A.load (ctlAt c tp)) false 0, E671ef (A.load (ctlAt c tp)), Ed23d1 g c cl sl tp ep 0 fl 0 ((A.load (ctlAt c tp)).steps) (A.ws.getD (ctlAt c tp).toNat 0) 22])) (by kernel_rfl) ?_
  refine ok_obl rfl ?_
  exact ret_ok (post := [Ed23d1 g c cl sl tp ep 0 fl 0 ((A.load (ctlAt c tp)).steps) (A.ws.getD (ctlAt c tp).toNat 0) 22, E3ba87 ra (A.load (ctlAt c tp)) false 0, E671ef (A.load (ctlAt c tp))]) [2, 0, 1] (by kernel_rfl) ⟨rfl, (by kernel_rfl)⟩


theorem r14Step1P (c : Cfg) (g ra : Nat) (cl ep sl tp sn bk fl cm cd : Int) (A : Ar) (hc : c.Ok) (hn : A.ws.length = A.n) (hs : 0 ≤ A.steps ∧ A.steps ≤ 1000000000) (htp : 0 ≤ tp ∧ tp < c.topics) (hwd : 0 ≤ ctlAt c tp ∧ ctlAt c tp < A.n) (hw : U64 (A.ws.getD (ctlAt c tp).toNat 0)) (hl : ctlLive (A.ws.getD (ctlAt c tp).toNat 0) = true) (he : ctlEpoch (A.ws.getD (ctlAt c tp).toNat 0) ≠ ep) :
    Ctr Tryz.prog 18 #[vP g, vP ra] [Ed23d1 g c cl sl tp ep 1 fl bk cm sn cd, E3ba87 ra A false 0, E671ef A] (Ret (.bool true) [Ed23d1 g c cl sl tp ep 0 fl 0 ((A.load (ctlAt c tp)).steps) (A.ws.getD (ctlAt c tp).toNat 0) 22, E3ba87 ra (A.load (ctlAt c tp)) false 0, E671ef (A.load (ctlAt c tp))]) := by
  refine ctr_of (args := [vP g, vP ra]) (fn := Tryz.f18) (body := B18) (nt := 114) Tryz.func18 (by kernel_rfl) (by kernel_rfl) ?_
  intro F
  refine go_exec (rs := [.tmp 4]) (by kernel_rfl) 4000 [.e 0, .sp [11, 12] [.z [0, 0, 1, 0, 1, 0, 1] 0 [0, 1]] [.dead]] (o := .obl (g = g) (.obl ((1 == 1) = (1 == 1)) (.br (1 == 1) (.stop [.c [0, 0, 1, 0, 1, 0, 1], .c [1, 0, 1, 0, 1, 0, 1], .b 0, .c [1, 1]] [(0, vP g), (1, vP ra)] [Ed23d1 g c cl sl tp ep 1 fl bk cm sn cd, E3ba87 ra A false 0, E671ef A]) (.bad)))) (by kernel_rfl) ?_
  refine ok_obl rfl ?_
  refine ok_obl rfl ?_
  refine ok_br (fun _ => ?_) (fun h => absurd (show (1 == 1) = true from (by decide)) (by rw [h]; simp))
  refine ok_stop ?_
  refine go_tail_call (dst := (some 23)) (ps := [g = g, g = g]) (cs := [(13, #[cfgV c, vI tp], vI (ctlAt c tp))]) [(0, .h .w), (1, .h .w), (2, .h .w), (3, .h .w), (4, .h (.e 0)), (5, .h .w), (6, .h .w), (7, .h .w), (8, .h (.e 0)), (9, .q (vI (ctlAt c tp)))] 10 [(11, .h .w)] [1, 2] [0, 1, 5] (by kernel_rfl) Tryz.call61 (ref_Load ra A (ctlAt c tp) (by first | assumption | omega | (simp only [InK] at *; omega)) hwd (by first | assumption | omega | (simp only [InK] at *; omega))) (by kernel_rfl) ⟨rfl, rfl, trivial⟩ ⟨⟨Tryz.call13, quiet_of [] (ref_Control c tp (by first | assumption | omega | (simp only [InK] at *; omega)) (by first | assumption | omega | (simp only [InK] at *; omega))) (by kernel_rfl) (by rintro v post ⟨rfl, rfl⟩; exact ⟨rfl, rfl⟩)⟩, trivial⟩ ?_
  rintro v post ⟨rfl, rfl⟩
  refine tail_next (tm' := [(0, vP g), (1, vP ra), (5, vU (A.ws.getD (ctlAt c tp).toNat 0))]) (ps2 := []) (by kernel_rfl) trivial ?_
  refine go_exec (rs := [.tmp 4]) (by kernel_rfl) 4000 [.e 1, .e 0, .z [1, 1, 0, 1, 0, 1, 0, 1] 2 [0, 31, 32]] (o := .obl (ra = ra) (.obl (g = g) (.stop [.o [1, 1, 0, 1, 0, 1, 0, 1] 2, .b 0, .c [1, 1]] [(0, vP g), (31, vP g), (32, vU (A.ws.getD (ctlAt c tp).toNat 0))] [Ed23d1 g c cl sl tp ep 1 fl bk ((A.load (ctlAt c tp)).steps) sn cd, E3ba87 ra (A.load (ctlAt c tp)) false 0, E671ef (A.load (ctlAt c tp))]))) (by kernel_rfl) ?_
  refine ok_obl rfl ?_
  refine ok_obl rfl ?_
  refine ok_stop ?_
  refine go_call (some 33) [0] Tryz.call62 (r14LookP c g cl ep sl tp sn bk fl ((A.load (ctlAt c tp)).steps) cd 1 (A.ws.getD (ctlAt c tp).toNat 0) (by first | assumption | omega | (simp only [InK] at *; omega)) (by first | assumption | omega | (simp only [InK] at *; omega)) (by first | assumption | omega | (simp only [InK] at *; omega))) (by kernel_rfl) ?_
  rintro v post ⟨rfl, rfl⟩
  refine go_exec (rs := [.tmp 4]) (by kernel_rfl) 4000 [.e 2] (o := .obl (g = g) (.ret (.bool true) [E3ba87 ra (A.load (ctlAt c tp)) false 0, E671ef (A.load (ctlAt c tp)), Ed23d1 g c cl sl tp ep 0 fl 0 ((A.load (ctlAt c tp)).steps) (A.ws.getD (ctlAt c tp).toNat 0) 22])) (by kernel_rfl) ?_
  refine ok_obl rfl ?_
  exact ret_ok (post := [Ed23d1 g c cl sl tp ep 0 fl 0 ((A.load (ctlAt c tp)).steps) (A.ws.getD (ctlAt c tp).toNat 0) 22, E3ba87 ra (A.load (ctlAt c tp)) false 0, E671ef (A.load (ctlAt c tp))]) [2, 0, 1] (by kernel_rfl) ⟨rfl, (by kernel_rfl)⟩


theorem r14Step1E (c : Cfg) (g ra : Nat) (cl ep sl tp sn bk fl cm cd : Int) (A : Ar) (hc : c.Ok) (hn : A.ws.length = A.n) (hs : 0 ≤ A.steps ∧ A.steps ≤ 1000000000) (htp : 0 ≤ tp ∧ tp < c.topics) (hwd : 0 ≤ ctlAt c tp ∧ ctlAt c tp < A.n) (hw : U64 (A.ws.getD (ctlAt c tp).toNat 0)) (hl : ctlLive (A.ws.getD (ctlAt c tp).toNat 0) = true) (he : ctlEpoch (A.ws.getD (ctlAt c tp).toNat 0) = ep) (hb : ctlBlock (A.ws.getD (ctlAt c tp).toNat 0) = 0) :
    Ctr Tryz.prog 18 #[vP g, vP ra] [Ed23d1 g c cl sl tp ep 1 fl bk cm sn cd, E3ba87 ra A false 0, E671ef A] (Ret (.bool true) [Ed23d1 g c cl sl tp ep 0 fl 0 ((A.load (ctlAt c tp)).steps) (A.ws.getD (ctlAt c tp).toNat 0) 20, E3ba87 ra (A.load (ctlAt c tp)) false 0, E671ef (A.load (ctlAt c tp))]) := by
  refine ctr_of (args := [vP g, vP ra]) (fn := Tryz.f18) (body := B18) (nt := 114) Tryz.func18 (by kernel_rfl) (by kernel_rfl) ?_
  intro F
  refine go_exec (rs := [.tmp 4]) (by kernel_rfl) 4000 [.e 0, .sp [11, 12] [.z [0, 0, 1, 0, 1, 0, 1] 0 [0, 1]] [.dead]] (o := .obl (g = g) (.obl ((1 == 1) = (1 == 1)) (.br (1 == 1) (.stop [.c [0, 0, 1, 0, 1, 0, 1], .c [1, 0, 1, 0, 1, 0, 1], .b 0, .c [1, 1]] [(0, vP g), (1, vP ra)] [Ed23d1 g c cl sl tp ep 1 fl bk cm sn cd, E3ba87 ra A false 0, E671ef A]) (.bad)))) (by kernel_rfl) ?_
  refine ok_obl rfl ?_
  refine ok_obl rfl ?_
  refine ok_br (fun _ => ?_) (fun h => absurd (show (1 == 1) = true from (by decide)) (by rw [h]; simp))
  refine ok_stop ?_
  refine go_tail_call (dst := (some 23)) (ps := [g = g, g = g]) (cs := [(13, #[cfgV c, vI tp], vI (ctlAt c tp))]) [(0, .h .w), (1, .h .w), (2, .h .w), (3, .h .w), (4, .h (.e 0)), (5, .h .w), (6, .h .w), (7, .h .w), (8, .h (.e 0)), (9, .q (vI (ctlAt c tp)))] 10 [(11, .h .w)] [1, 2] [0, 1, 5] (by kernel_rfl) Tryz.call61 (ref_Load ra A (ctlAt c tp) (by first | assumption | omega | (simp only [InK] at *; omega)) hwd (by first | assumption | omega | (simp only [InK] at *; omega))) (by kernel_rfl) ⟨rfl, rfl, trivial⟩ ⟨⟨Tryz.call13, quiet_of [] (ref_Control c tp (by first | assumption | omega | (simp only [InK] at *; omega)) (by first | assumption | omega | (simp only [InK] at *; omega))) (by kernel_rfl) (by rintro v post ⟨rfl, rfl⟩; exact ⟨rfl, rfl⟩)⟩, trivial⟩ ?_
  rintro v post ⟨rfl, rfl⟩
  refine tail_next (tm' := [(0, vP g), (1, vP ra), (5, vU (A.ws.getD (ctlAt c tp).toNat 0))]) (ps2 := []) (by kernel_rfl) trivial ?_
  refine go_exec (rs := [.tmp 4]) (by kernel_rfl) 4000 [.e 1, .e 0, .z [1, 1, 0, 1, 0, 1, 0, 1] 2 [0, 31, 32]] (o := .obl (ra = ra) (.obl (g = g) (.stop [.o [1, 1, 0, 1, 0, 1, 0, 1] 2, .b 0, .c [1, 1]] [(0, vP g), (31, vP g), (32, vU (A.ws.getD (ctlAt c tp).toNat 0))] [Ed23d1 g c cl sl tp ep 1 fl bk ((A.load (ctlAt c tp)).steps) sn cd, E3ba87 ra (A.load (ctlAt c tp)) false 0, E671ef (A.load (ctlAt c tp))]))) (by kernel_rfl) ?_
  refine ok_obl rfl ?_
  refine ok_obl rfl ?_
  refine ok_stop ?_
  refine go_call (some 33) [0] Tryz.call62 (r14LookE c g cl ep sl tp sn bk fl ((A.load (ctlAt c tp)).steps) cd 1 (A.ws.getD (ctlAt c tp).toNat 0) (by first | assumption | omega | (simp only [InK] at *; omega)) (by first | assumption | omega | (simp only [InK] at *; omega)) (by first | assumption | omega | (simp only [InK] at *; omega)) (by first | assumption | omega | (simp only [InK] at *; omega))) (by kernel_rfl) ?_
  rintro v post ⟨rfl, rfl⟩
  refine go_exec (rs := [.tmp 4]) (by kernel_rfl) 4000 [.e 2] (o := .obl (g = g) (.ret (.bool true) [E3ba87 ra (A.load (ctlAt c tp)) false 0, E671ef (A.load (ctlAt c tp)), Ed23d1 g c cl sl tp ep 0 fl 0 ((A.load (ctlAt c tp)).steps) (A.ws.getD (ctlAt c tp).toNat 0) 20])) (by kernel_rfl) ?_
  refine ok_obl rfl ?_
  exact ret_ok (post := [Ed23d1 g c cl sl tp ep 0 fl 0 ((A.load (ctlAt c tp)).steps) (A.ws.getD (ctlAt c tp).toNat 0) 20, E3ba87 ra (A.load (ctlAt c tp)) false 0, E671ef (A.load (ctlAt c tp))]) [2, 0, 1] (by kernel_rfl) ⟨rfl, (by kernel_rfl)⟩


theorem r14Step1N (c : Cfg) (g ra : Nat) (cl ep sl tp sn bk fl cm cd : Int) (A : Ar) (hc : c.Ok) (hn : A.ws.length = A.n) (hs : 0 ≤ A.steps ∧ A.steps ≤ 1000000000) (htp : 0 ≤ tp ∧ tp < c.topics) (hwd : 0 ≤ ctlAt c tp ∧ ctlAt c tp < A.n) (hw : U64 (A.ws.getD (ctlAt c tp).toNat 0)) (hl : ctlLive (A.ws.getD (ctlAt c tp).toNat 0) = true) (he : ctlEpoch (A.ws.getD (ctlAt c tp).toNat 0) = ep) (hb : ctlBlock (A.ws.getD (ctlAt c tp).toNat 0) ≠ 0) :
    Ctr Tryz.prog 18 #[vP g, vP ra] [Ed23d1 g c cl sl tp ep 1 fl bk cm sn cd, E3ba87 ra A false 0, E671ef A] (Ret (.bool false) [Ed23d1 g c cl sl tp ep 2 fl (ctlBlock (A.ws.getD (ctlAt c tp).toNat 0)) ((A.load (ctlAt c tp)).steps) (A.ws.getD (ctlAt c tp).toNat 0) cd, E3ba87 ra (A.load (ctlAt c tp)) false 0, E671ef (A.load (ctlAt c tp))]) := by
  refine ctr_of (args := [vP g, vP ra]) (fn := Tryz.f18) (body := B18) (nt := 114) Tryz.func18 (by kernel_rfl) (by kernel_rfl) ?_
  intro F
  refine go_exec (rs := [.tmp 4]) (by kernel_rfl) 4000 [.e 0, .sp [11, 12] [.z [0, 0, 1, 0, 1, 0, 1] 0 [0, 1]] [.dead]] (o := .obl (g = g) (.obl ((1 == 1) = (1 == 1)) (.br (1 == 1) (.stop [.c [0, 0, 1, 0, 1, 0, 1], .c [1, 0, 1, 0, 1, 0, 1], .b 0, .c [1, 1]] [(0, vP g), (1, vP ra)] [Ed23d1 g c cl sl tp ep 1 fl bk cm sn cd, E3ba87 ra A false 0, E671ef A]) (.bad)))) (by kernel_rfl) ?_
  refine ok_obl rfl ?_
  refine ok_obl rfl ?_
  refine ok_br (fun _ => ?_) (fun h => absurd (show (1 == 1) = true from (by decide)) (by rw [h]; simp))
  refine ok_stop ?_
  refine go_tail_call (dst := (some 23)) (ps := [g = g, g = g]) (cs := [(13, #[cfgV c, vI tp], vI (ctlAt c tp))]) [(0, .h .w), (1, .h .w), (2, .h .w), (3, .h .w), (4, .h (.e 0)), (5, .h .w), (6, .h .w), (7, .h .w), (8, .h (.e 0)), (9, .q (vI (ctlAt c tp)))] 10 [(11, .h .w)] [1, 2] [0, 1, 5] (by kernel_rfl) Tryz.call61 (ref_Load ra A (ctlAt c tp) (by first | assumption | omega | (simp only [InK] at *; omega)) hwd (by first | assumption | omega | (simp only [InK] at *; omega))) (by kernel_rfl) ⟨rfl, rfl, trivial⟩ ⟨⟨Tryz.call13, quiet_of [] (ref_Control c tp (by first | assumption | omega | (simp only [InK] at *; omega)) (by first | assumption | omega | (simp only [InK] at *; omega))) (by kernel_rfl) (by rintro v post ⟨rfl, rfl⟩; exact ⟨rfl, rfl⟩)⟩, trivial⟩ ?_
  rintro v post ⟨rfl, rfl⟩
  refine tail_next (tm' := [(0, vP g), (1, vP ra), (5, vU (A.ws.getD (ctlAt c tp).toNat 0))]) (ps2 := []) (by kernel_rfl) trivial ?_
  refine go_exec (rs := [.tmp 4]) (by kernel_rfl) 4000 [.e 1, .e 0, .z [1, 1, 0, 1, 0, 1, 0, 1] 2 [0, 31, 32]] (o := .obl (ra = ra) (.obl (g = g) (.stop [.o [1, 1, 0, 1, 0, 1, 0, 1] 2, .b 0, .c [1, 1]] [(0, vP g), (31, vP g), (32, vU (A.ws.getD (ctlAt c tp).toNat 0))] [Ed23d1 g c cl sl tp ep 1 fl bk ((A.load (ctlAt c tp)).steps) sn cd, E3ba87 ra (A.load (ctlAt c tp)) false 0, E671ef (A.load (ctlAt c tp))]))) (by kernel_rfl) ?_
  refine ok_obl rfl ?_
  refine ok_obl rfl ?_
  refine ok_stop ?_
  refine go_call (some 33) [0] Tryz.call62 (r14LookN c g cl ep sl tp sn bk fl ((A.load (ctlAt c tp)).steps) cd 1 (A.ws.getD (ctlAt c tp).toNat 0) (by first | assumption | omega | (simp only [InK] at *; omega)) (by first | assumption | omega | (simp only [InK] at *; omega)) (by first | assumption | omega | (simp only [InK] at *; omega)) (by first | assumption | omega | (simp only [InK] at *; omega))) (by kernel_rfl) ?_
  rintro v post ⟨rfl, rfl⟩
  refine go_exec (rs := [.tmp 4]) (by kernel_rfl) 4000 [.e 2] (o := .obl (g = g) (.ret (.bool false) [E3ba87 ra (A.load (ctlAt c tp)) false 0, E671ef (A.load (ctlAt c tp)), Ed23d1 g c cl sl tp ep 2 fl (ctlBlock (A.ws.getD (ctlAt c tp).toNat 0)) ((A.load (ctlAt c tp)).steps) (A.ws.getD (ctlAt c tp).toNat 0) cd])) (by kernel_rfl) ?_
  refine ok_obl rfl ?_
  exact ret_ok (post := [Ed23d1 g c cl sl tp ep 2 fl (ctlBlock (A.ws.getD (ctlAt c tp).toNat 0)) ((A.load (ctlAt c tp)).steps) (A.ws.getD (ctlAt c tp).toNat 0) cd, E3ba87 ra (A.load (ctlAt c tp)) false 0, E671ef (A.load (ctlAt c tp))]) [2, 0, 1] (by kernel_rfl) ⟨rfl, (by kernel_rfl)⟩


theorem r14Step2 (c : Cfg) (g ra : Nat) (cl ep sl tp sn bk fl cm cd : Int) (A : Ar) (hc : c.Ok) (hn : A.ws.length = A.n) (hs : 0 ≤ A.steps ∧ A.steps ≤ 1000000000) (hsl : 0 ≤ slotAt c sl ∧ slotAt c sl < A.n) (hsk : InK .i64 sl) (hcl : 0 ≤ cl ∧ cl ≤ 1000) (hbk : 0 ≤ bk ∧ bk ≤ 65535) :
    Ctr Tryz.prog 18 #[vP g, vP ra] [Ed23d1 g c cl sl tp ep 2 fl bk cm sn cd, E3ba87 ra A false 0, E671ef A] (Ret (.bool false) [Ed23d1 g c cl sl tp ep 3 fl bk cm sn cd, E3ba87 ra (A.store (slotAt c sl) (markW cl bk)) false 0, E671ef (A.store (slotAt c sl) (markW cl bk))]) := by
  refine ctr_of (args := [vP g, vP ra]) (fn := Tryz.f18) (body := B18) (nt := 114) Tryz.func18 (by kernel_rfl) (by kernel_rfl) ?_
  intro F
  refine go_exec (rs := [.tmp 4]) (by kernel_rfl) 4000 [.e 0, .sp [11, 12] [.dead] [.sp [34, 35] [.z [0, 0, 1, 1, 1, 0, 1, 0, 1] 0 [0, 1]] [.dead]]] (o := .obl (g = g) (.obl ((2 == 1) = (2 == 1)) (.br (2 == 1) (.bad) (.obl ((2 == 2) = (2 == 2)) (.br (2 == 2) (.stop [.c [0, 0, 1, 1, 1, 0, 1, 0, 1], .c [1, 0, 1, 1, 1, 0, 1, 0, 1], .b 0, .c [1, 1]] [(0, vP g), (1, vP ra)] [Ed23d1 g c cl sl tp ep 2 fl bk cm sn cd, E3ba87 ra A false 0, E671ef A]) (.bad)))))) (by kernel_rfl) ?_
  refine ok_obl rfl ?_
  refine ok_obl rfl ?_
  refine ok_br (fun h => absurd (show (2 == 1) = false from (by decide)) (by rw [h]; simp)) (fun _ => ?_)
  refine ok_obl rfl ?_
  refine ok_br (fun _ => ?_) (fun h => absurd (show (2 == 2) = true from (by decide)) (by rw [h]; simp))
  refine ok_stop ?_
  refine go_tail_call (dst := (some 55)) (ps := [g = g, g = g, g = g, g = g]) (cs := [(63, #[cfgV c, vI sl], vI (slotAt c sl)), (64, #[vI cl, vI bk], vU (markW cl bk))]) [(0, .h .w), (1, .h .w), (2, .h .w), (3, .h .w), (4, .h (.e 0)), (5, .h .w), (6, .h .w), (7, .h .w), (8, .h (.e 0)), (9, .q (vI (slotAt c sl))), (10, .h .w), (11, .h .w), (12, .h .w), (13, .h (.e 0)), (14, .h .w), (15, .h .w), (16, .h .w), (17, .h (.e 0)), (18, .q (vU (markW cl bk)))] 19 [] [1, 2] [0] (by kernel_rfl) Tryz.call12 (ref_Store ra A (slotAt c sl) (markW cl bk) (by first | assumption | omega | (simp only [InK] at *; omega)) hsl (by first | assumption | omega | (simp only [InK] at *; omega))) (by kernel_rfl) ⟨rfl, rfl, rfl, rfl, trivial⟩ ⟨⟨Tryz.call63, quiet_of [] (ref_Slot c sl (by first | assumption | omega | (simp only [InK] at *; omega)) hsk) (by kernel_rfl) (by rintro v post ⟨rfl, rfl⟩; exact ⟨rfl, rfl⟩)⟩, ⟨Tryz.call64, quiet_of [] (ref_Mark cl bk (by omega) (by omega)) (by kernel_rfl) (by rintro v post ⟨rfl, rfl⟩; exact ⟨rfl, rfl⟩)⟩, trivial⟩ ?_
  rintro v post ⟨rfl, rfl⟩
  refine tail_next (tm' := [(0, vP g)]) (ps2 := []) (by kernel_rfl) trivial ?_
  refine go_exec (rs := [.tmp 4]) (by kernel_rfl) 4000 [.e 0, .e 0] (o := .obl (g = g) (.obl (g = g) (.ret (.bool false) [Ed23d1 g c cl sl tp ep 3 fl bk cm sn cd, E3ba87 ra (A.store (slotAt c sl) (markW cl bk)) false 0, E671ef (A.store (slotAt c sl) (markW cl bk))]))) (by kernel_rfl) ?_
  refine ok_obl rfl ?_
  refine ok_obl rfl ?_
  exact ret_ok (post := [Ed23d1 g c cl sl tp ep 3 fl bk cm sn cd, E3ba87 ra (A.store (slotAt c sl) (markW cl bk)) false 0, E671ef (A.store (slotAt c sl) (markW cl bk))]) [0, 1, 2] (by kernel_rfl) ⟨rfl, (by kernel_rfl)⟩


theorem r14Step3K (c : Cfg) (g ra : Nat) (cl ep sl tp sn bk fl cm cd : Int) (A : Ar) (hc : c.Ok) (hn : A.ws.length = A.n) (hs : 0 ≤ A.steps ∧ A.steps ≤ 1000000000) (htp : 0 ≤ tp ∧ tp < c.topics) (hwd : 0 ≤ ctlAt c tp ∧ ctlAt c tp < A.n) (hw : U64 (A.ws.getD (ctlAt c tp).toNat 0)) (hf0 : 0 ≤ fl ∧ fl ≤ 1000) (hq : (A.ws.getD (ctlAt c tp).toNat 0) = sn) :
    Ctr Tryz.prog 18 #[vP g, vP ra] [Ed23d1 g c cl sl tp ep 3 fl bk cm sn cd, E3ba87 ra A false 0, E671ef A] (Ret (.bool true) [Ed23d1 g c cl sl tp ep 0 fl bk ((A.load (ctlAt c tp)).steps) sn 0, E3ba87 ra (A.load (ctlAt c tp)) false 0, E671ef (A.load (ctlAt c tp))]) := by
  refine ctr_of (args := [vP g, vP ra]) (fn := Tryz.f18) (body := B18) (nt := 114) Tryz.func18 (by kernel_rfl) (by kernel_rfl) ?_
  intro F
  refine go_exec (rs := [.tmp 4]) (by kernel_rfl) 4000 [.e 0, .sp [11, 12] [.dead] [.sp [34, 35] [.dead] [.sp [59, 60] [.z [0, 0, 1, 1, 1, 1, 1, 0, 1, 0, 1] 0 [0, 1]] [.dead]]]] (o := .obl (g = g) (.obl ((3 == 1) = (3 == 1)) (.br (3 == 1) (.bad) (.obl ((3 == 2) = (3 == 2)) (.br (3 == 2) (.bad) (.obl ((3 == 3) = (3 == 3)) (.br (3 == 3) (.stop [.c [0, 0, 1, 1, 1, 1, 1, 0, 1, 0, 1], .c [1, 0, 1, 1, 1, 1, 1, 0, 1, 0, 1], .b 0, .c [1, 1]] [(0, vP g), (1, vP ra)] [Ed23d1 g c cl sl tp ep 3 fl bk cm sn cd, E3ba87 ra A false 0, E671ef A]) (.bad)))))))) (by kernel_rfl) ?_
  refine ok_obl rfl ?_
  refine ok_obl rfl ?_
  refine ok_br (fun h => absurd (show (3 == 1) = false from (by decide)) (by rw [h]; simp)) (fun _ => ?_)
  refine ok_obl rfl ?_
  refine ok_br (fun h => absurd (show (3 == 2) = false from (by decide)) (by rw [h]; simp)) (fun _ => ?_)
  refine ok_obl rfl ?_
  refine ok_br (fun _ => ?_) (fun h => absurd (show (3 == 3) = true from (by decide)) (by rw [h]; simp))
  refine ok_stop ?_
  refine go_tail_call (dst := (some 71)) (ps := [g = g, g = g]) (cs := [(13, #[cfgV c, vI tp], vI (ctlAt c tp))]) [(0, .h .w), (1, .h .w), (2, .h .w), (3, .h .w), (4, .h (.e 0)), (5, .h .w), (6, .h .w), (7, .h .w), (8, .h (.e 0)), (9, .q (vI (ctlAt c tp)))] 10 [(11, .h .w)] [1, 2] [0, 1, 6] (by kernel_rfl) Tryz.call61 (ref_Load ra A (ctlAt c tp) (by first | assumption | omega | (simp only [InK] at *; omega)) hwd (by first | assumption | omega | (simp only [InK] at *; omega))) (by kernel_rfl) ⟨rfl, rfl, trivial⟩ ⟨⟨Tryz.call13, quiet_of [] (ref_Control c tp (by first | assumption | omega | (simp only [InK] at *; omega)) (by first | assumption | omega | (simp only [InK] at *; omega))) (by kernel_rfl) (by rintro v post ⟨rfl, rfl⟩; exact ⟨rfl, rfl⟩)⟩, trivial⟩ ?_
  rintro v post ⟨rfl, rfl⟩
  refine tail_next (tm' := [(0, vP g), (1, vP ra), (6, vU (A.ws.getD (ctlAt c tp).toNat 0))]) (ps2 := []) (by kernel_rfl) trivial ?_
  refine go_exec (rs := [.tmp 4]) (by kernel_rfl) 4000 [.e 1, .e 0, .e 0, .sp [84] [.z [0, 0, 1, 0, 1, 1, 0, 1, 1, 1, 1, 1, 0, 1, 0, 1] 1 [0, 85]] [.dead]] (o := .obl (ra = ra) (.obl (g = g) (.obl (g = g) (.br ((A.ws.getD (ctlAt c tp).toNat 0) == sn) (.stop [.o [0, 0, 1, 0, 1, 1, 0, 1, 1, 1, 1, 1, 0, 1, 0, 1] 1, .c [1, 0, 1, 0, 1, 1, 0, 1, 1, 1, 1, 1, 0, 1, 0, 1], .c [1, 1, 1, 0, 1, 1, 1, 1, 1, 0, 1, 0, 1], .b 0, .c [1, 1]] [(0, vP g), (85, vP g)] [Ed23d1 g c cl sl tp ep 3 fl bk ((A.load (ctlAt c tp)).steps) sn cd, E3ba87 ra (A.load (ctlAt c tp)) false 0, E671ef (A.load (ctlAt c tp))]) (.bad))))) (by kernel_rfl) ?_
  refine ok_obl rfl ?_
  refine ok_obl rfl ?_
  refine ok_obl rfl ?_
  refine ok_br (fun _ => ?_) (fun h => absurd (show ((A.ws.getD (ctlAt c tp).toNat 0) == sn) = true from (beq_iff_eq.2 hq)) (by rw [h]; simp))
  refine ok_stop ?_
  refine go_call (some 86) [0] Tryz.call65 (r14End0 c g cl ep sl tp sn bk fl ((A.load (ctlAt c tp)).steps) cd 3) (by kernel_rfl) ?_
  rintro v post ⟨rfl, rfl⟩
  refine go_exec (rs := [.tmp 4]) (by kernel_rfl) 4000 [.e 2] (o := .obl (g = g) (.ret (.bool true) [E3ba87 ra (A.load (ctlAt c tp)) false 0, E671ef (A.load (ctlAt c tp)), Ed23d1 g c cl sl tp ep 0 fl bk ((A.load (ctlAt c tp)).steps) sn 0])) (by kernel_rfl) ?_
  refine ok_obl rfl ?_
  exact ret_ok (post := [Ed23d1 g c cl sl tp ep 0 fl bk ((A.load (ctlAt c tp)).steps) sn 0, E3ba87 ra (A.load (ctlAt c tp)) false 0, E671ef (A.load (ctlAt c tp))]) [2, 0, 1] (by kernel_rfl) ⟨rfl, (by kernel_rfl)⟩


theorem r14Step3R (c : Cfg) (g ra : Nat) (cl ep sl tp sn bk fl cm cd : Int) (A : Ar) (hc : c.Ok) (hn : A.ws.length = A.n) (hs : 0 ≤ A.steps ∧ A.steps ≤ 1000000000) (htp : 0 ≤ tp ∧ tp < c.topics) (hwd : 0 ≤ ctlAt c tp ∧ ctlAt c tp < A.n) (hw : U64 (A.ws.getD (ctlAt c tp).toNat 0)) (hf0 : 0 ≤ fl ∧ fl ≤ 1000) (hq : (A.ws.getD (ctlAt c tp).toNat 0) ≠ sn) (hr : fl + 1 = c.retry) :
    Ctr Tryz.prog 18 #[vP g, vP ra] [Ed23d1 g c cl sl tp ep 3 fl bk cm sn cd, E3ba87 ra A false 0, E671ef A] (Ret (.bool true) [Ed23d1 g c cl sl tp ep 0 (fl + 1) 0 ((A.load (ctlAt c tp)).steps) sn 17, E3ba87 ra (A.load (ctlAt c tp)) false 0, E671ef (A.load (ctlAt c tp))]) := by
  refine ctr_of (args := [vP g, vP ra]) (fn := Tryz.f18) (body := B18) (nt := 114) Tryz.func18 (by kernel_rfl) (by kernel_rfl) ?_
  intro F
  refine go_exec (rs := [.tmp 4]) (by kernel_rfl) 4000 [.e 0, .sp [11, 12] [.dead] [.sp [34, 35] [.dead] [.sp [59, 60] [.z [0, 0, 1, 1, 1, 1, 1, 0, 1, 0, 1] 0 [0, 1]] [.dead]]]] (o := .obl (g = g) (.obl ((3 == 1) = (3 == 1)) (.br (3 == 1) (.bad) (.obl ((3 == 2) = (3 == 2)) (.br (3 == 2) (.bad) (.obl ((3 == 3) = (3 == 3)) (.br (3 == 3) (.stop [.c [0, 0, 1, 1, 1, 1, 1, 0, 1, 0, 1], .c [1, 0, 1, 1, 1, 1, 1, 0, 1, 0, 1], .b 0, .c [1, 1]] [(0, vP g), (1, vP ra)] [Ed23d1 g c cl sl tp ep 3 fl bk cm sn cd, E3ba87 ra A false 0, E671ef A]) (.bad)))))))) (by kernel_rfl) ?_
  refine ok_obl rfl ?_
  refine ok_obl rfl ?_
  refine ok_br (fun h => absurd (show (3 == 1) = false from (by decide)) (by rw [h]; simp)) (fun _ => ?_)
  refine ok_obl rfl ?_
  refine ok_br (fun h => absurd (show (3 == 2) = false from (by decide)) (by rw [h]; simp)) (fun _ => ?_)
  refine ok_obl rfl ?_
  refine ok_br (fun _ => ?_) (fun h => absurd (show (3 == 3) = true from (by decide)) (by rw [h]; simp))
  refine ok_stop ?_
  refine go_tail_call (dst := (some 71)) (ps := [g = g, g = g]) (cs := [(13, #[cfgV c, vI tp], vI (ctlAt c tp))]) [(0, .h .w), (1, .h .w), (2, .h .w), (3, .h .w), (4, .h (.e 0)), (5, .h .w), (6, .h .w), (7, .h .w), (8, .h (.e 0)), (9, .q (vI (ctlAt c tp)))] 10 [(11, .h .w)] [1, 2] [0, 1, 6] (by kernel_rfl) Tryz.call61 (ref_Load ra A (ctlAt c tp) (by first | assumption | omega | (simp only [InK] at *; omega)) hwd (by first | assumption | omega | (simp only [InK] at *; omega))) (by kernel_rfl) ⟨rfl, rfl, trivial⟩ ⟨⟨Tryz.call13, quiet_of [] (ref_Control c tp (by first | assumption | omega | (simp only [InK] at *; omega)) (by first | assumption | omega | (simp only [InK] at *; omega))) (by kernel_rfl) (by rintro v post ⟨rfl, rfl⟩; exact ⟨rfl, rfl⟩)⟩, trivial⟩ ?_
  rintro v post ⟨rfl, rfl⟩
  refine tail_next (tm' := [(0, vP g), (1, vP ra), (6, vU (A.ws.getD (ctlAt c tp).toNat 0))]) (ps2 := []) (by kernel_rfl) trivial ?_
  refine go_exec (rs := [.tmp 4]) (by kernel_rfl) 4000 [.e 1, .e 0, .e 0, .sp [84] [.dead] [.e 0, .n, .e 0, .z [0, 1, 1, 1, 1, 0, 1, 1, 1, 1, 1, 0, 1, 0, 1] 0 [0, 6]]] (o := .obl (ra = ra) (.obl (g = g) (.obl (g = g) (.br ((A.ws.getD (ctlAt c tp).toNat 0) == sn) (.bad) (.obl (g = g) (.obl (InK .i64 (fl + 1)) (.obl (g = g) (.stop [.c [0, 1, 1, 1, 1, 0, 1, 1, 1, 1, 1, 0, 1, 0, 1], .c [1, 1, 1, 1, 1, 0, 1, 1, 1, 1, 1, 0, 1, 0, 1], .b 0, .c [1, 1]] [(0, vP g), (6, vU (A.ws.getD (ctlAt c tp).toNat 0))] [Ed23d1 g c cl sl tp ep 3 (fl + 1) bk ((A.load (ctlAt c tp)).steps) sn cd, E3ba87 ra (A.load (ctlAt c tp)) false 0, E671ef (A.load (ctlAt c tp))])))))))) (by kernel_rfl) ?_
  refine ok_obl rfl ?_
  refine ok_obl rfl ?_
  refine ok_obl rfl ?_
  refine ok_br (fun h => absurd (show ((A.ws.getD (ctlAt c tp).toNat 0) == sn) = false from (beq_eq_false_iff_ne.2 hq)) (by rw [h]; simp)) (fun _ => ?_)
  refine ok_obl rfl ?_
  refine ok_obl (by simp only [InK]; omega) ?_
  refine ok_obl rfl ?_
  refine ok_stop ?_
  refine go_quiet (tm' := [(0, vP g), (6, vU (A.ws.getD (ctlAt c tp).toNat 0)), (103, .bool true)]) (ps := [g = g, g = g, ((fl + 1) == c.retry) = true]) (cs := []) [(0, .h .w), (1, .h .w), (2, .h .w), (3, .h (.e 0)), (4, .h .w), (5, .h .w), (6, .h .w), (7, .h .w), (8, .h (.e 0)), (9, .h (.t true))] [0, 6, 103] (by kernel_rfl) (by kernel_rfl) ⟨rfl, rfl, (beq_iff_eq.2 hr), trivial⟩ trivial ?_
  refine go_exec (rs := [.tmp 4]) (by kernel_rfl) 4000 [.z [0, 1, 1, 1, 1, 1, 0, 1, 1, 1, 1, 1, 0, 1, 0, 1] 1 [0, 104]] (o := .stop [.o [0, 1, 1, 1, 1, 1, 0, 1, 1, 1, 1, 1, 0, 1, 0, 1] 1, .b 0, .c [1, 1]] [(0, vP g), (104, vP g)] [Ed23d1 g c cl sl tp ep 3 (fl + 1) bk ((A.load (ctlAt c tp)).steps) sn cd, E3ba87 ra (A.load (ctlAt c tp)) false 0, E671ef (A.load (ctlAt c tp))]) (by kernel_rfl) ?_
  refine ok_stop ?_
  refine go_call (some 105) [0] Tryz.call65 (r14EndE c g cl ep sl tp sn bk (fl + 1) ((A.load (ctlAt c tp)).steps) cd 3 17 (by decide)) (by kernel_rfl) ?_
  rintro v post ⟨rfl, rfl⟩
  refine go_exec (rs := [.tmp 4]) (by kernel_rfl) 4000 [.e 2] (o := .obl (g = g) (.ret (.bool true) [E3ba87 ra (A.load (ctlAt c tp)) false 0, E671ef (A.load (ctlAt c tp)), Ed23d1 g c cl sl tp ep 0 (fl + 1) 0 ((A.load (ctlAt c tp)).steps) sn 17])) (by kernel_rfl) ?_
  refine ok_obl rfl ?_
  exact ret_ok (post := [Ed23d1 g c cl sl tp ep 0 (fl + 1) 0 ((A.load (ctlAt c tp)).steps) sn 17, E3ba87 ra (A.load (ctlAt c tp)) false 0, E671ef (A.load (ctlAt c tp))]) [2, 0, 1] (by kernel_rfl) ⟨rfl, (by kernel_rfl)⟩


theorem r14Step3D (c : Cfg) (g ra : Nat) (cl ep sl tp sn bk fl cm cd : Int) (A : Ar) (hc : c.Ok) (hn : A.ws.length = A.n) (hs : 0 ≤ A.steps ∧ A.steps ≤ 1000000000) (htp : 0 ≤ tp ∧ tp < c.topics) (hwd : 0 ≤ ctlAt c tp ∧ ctlAt c tp < A.n) (hw : U64 (A.ws.getD (ctlAt c tp).toNat 0)) (hf0 : 0 ≤ fl ∧ fl ≤ 1000) (hq : (A.ws.getD (ctlAt c tp).toNat 0) ≠ sn) (hr : fl + 1 ≠ c.retry) (hl : ctlLive (A.ws.getD (ctlAt c tp).toNat 0) = false) :
    Ctr Tryz.prog 18 #[vP g, vP ra] [Ed23d1 g c cl sl tp ep 3 fl bk cm sn cd, E3ba87 ra A false 0, E671ef A] (Ret (.bool true) [Ed23d1 g c cl sl tp ep 0 (fl + 1) 0 ((A.load (ctlAt c tp)).steps) (A.ws.getD (ctlAt c tp).toNat 0) 22, E3ba87 ra (A.load (ctlAt c tp)) false 0, E671ef (A.load (ctlAt c tp))]) := by
  refine ctr_of (args := [vP g, vP ra]) (fn := Tryz.f18) (body := B18) (nt := 114) Tryz.func18 (by kernel_rfl) (by kernel_rfl) ?_
  intro F
  refine go_exec (rs := [.tmp 4]) (by kernel_rfl) 4000 [.e 0, .sp [11, 12] [.dead] [.sp [34, 35] [.dead] [.sp [59, 60] [.z [0, 0, 1, 1, 1, 1, 1, 0, 1, 0, 1] 0 [0, 1]] [.dead]]]] (o := .obl (g = g) (.obl ((3 == 1) = (3 == 1)) (.br (3 == 1) (.bad) (.obl ((3 == 2) = (3 == 2)) (.br (3 == 2) (.bad) (.obl ((3 == 3) = (3 == 3)) (.br (3 == 3) (.stop [.c [0, 0, 1, 1, 1, 1, 1, 0, 1, 0, 1], .c [1, 0, 1, 1, 1, 1, 1, 0, 1, 0, 1], .b 0, .c [1, 1]] [(0, vP g), (1, vP ra)] [Ed23d1 g c cl sl tp ep 3 fl bk cm sn cd, E3ba87 ra A false 0, E671ef A]) (.bad)))))))) (by kernel_rfl) ?_
  refine ok_obl rfl ?_
  refine ok_obl rfl ?_
  refine ok_br (fun h => absurd (show (3 == 1) = false from (by decide)) (by rw [h]; simp)) (fun _ => ?_)
  refine ok_obl rfl ?_
  refine ok_br (fun h => absurd (show (3 == 2) = false from (by decide)) (by rw [h]; simp)) (fun _ => ?_)
  refine ok_obl rfl ?_
  refine ok_br (fun _ => ?_) (fun h => absurd (show (3 == 3) = true from (by decide)) (by rw [h]; simp))
  refine ok_stop ?_
  refine go_tail_call (dst := (some 71)) (ps := [g = g, g = g]) (cs := [(13, #[cfgV c, vI tp], vI (ctlAt c tp))]) [(0, .h .w), (1, .h .w), (2, .h .w), (3, .h .w), (4, .h (.e 0)), (5, .h .w), (6, .h .w), (7, .h .w), (8, .h (.e 0)), (9, .q (vI (ctlAt c tp)))] 10 [(11, .h .w)] [1, 2] [0, 1, 6] (by kernel_rfl) Tryz.call61 (ref_Load ra A (ctlAt c tp) (by first | assumption | omega | (simp only [InK] at *; omega)) hwd (by first | assumption | omega | (simp only [InK] at *; omega))) (by kernel_rfl) ⟨rfl, rfl, trivial⟩ ⟨⟨Tryz.call13, quiet_of [] (ref_Control c tp (by first | assumption | omega | (simp only [InK] at *; omega)) (by first | assumption | omega | (simp only [InK] at *; omega))) (by kernel_rfl) (by rintro v post ⟨rfl, rfl⟩; exact ⟨rfl, rfl⟩)⟩, trivial⟩ ?_
  rintro v post ⟨rfl, rfl⟩
  refine tail_next (tm' := [(0, vP g), (1, vP ra), (6, vU (A.ws.getD (ctlAt c tp).toNat 0))]) (ps2 := []) (by kernel_rfl) trivial ?_
  refine go_exec (rs := [.tmp 4]) (by kernel_rfl) 4000 [.e 1, .e 0, .e 0, .sp [84] [.dead] [.e 0, .n, .e 0, .z [0, 1, 1, 1, 1, 0, 1, 1, 1, 1, 1, 0, 1, 0, 1] 0 [0, 6]]] (o := .obl (ra = ra) (.obl (g = g) (.obl (g = g) (.br ((A.ws.getD (ctlAt c tp).toNat 0) == sn) (.bad) (.obl (g = g) (.obl (InK .i64 (fl + 1)) (.obl (g = g) (.stop [.c [0, 1, 1, 1, 1, 0, 1, 1, 1, 1, 1, 0, 1, 0, 1], .c [1, 1, 1, 1, 1, 0, 1, 1, 1, 1, 1, 0, 1, 0, 1], .b 0, .c [1, 1]] [(0, vP g), (6, vU (A.ws.getD (ctlAt c tp).toNat 0))] [Ed23d1 g c cl sl tp ep 3 (fl + 1) bk ((A.load (ctlAt c tp)).steps) sn cd, E3ba87 ra (A.load (ctlAt c tp)) false 0, E671ef (A.load (ctlAt c tp))])))))))) (by kernel_rfl) ?_
  refine ok_obl rfl ?_
  refine ok_obl rfl ?_
  refine ok_obl rfl ?_
  refine ok_br (fun h => absurd (show ((A.ws.getD (ctlAt c tp).toNat 0) == sn) = false from (beq_eq_false_iff_ne.2 hq)) (by rw [h]; simp)) (fun _ => ?_)
  refine ok_obl rfl ?_
  refine ok_obl (by simp only [InK]; omega) ?_
  refine ok_obl rfl ?_
  refine ok_stop ?_
  refine go_quiet (tm' := [(0, vP g), (6, vU (A.ws.getD (ctlAt c tp).toNat 0)), (103, .bool false)]) (ps := [g = g, g = g, ((fl + 1) == c.retry) = false]) (cs := []) [(0, .h .w), (1, .h .w), (2, .h .w), (3, .h (.e 0)), (4, .h .w), (5, .h .w), (6, .h .w), (7, .h .w), (8, .h (.e 0)), (9, .h (.t false))] [0, 6, 103] (by kernel_rfl) (by kernel_rfl) ⟨rfl, rfl, (beq_eq_false_iff_ne.2 hr), trivial⟩ trivial ?_
  refine go_exec (rs := [.tmp 4]) (by kernel_rfl) 4000 [.z [1, 1, 1, 1, 1, 1, 0, 1, 1, 1, 1, 1, 0, 1, 0, 1] 2 [0, 106, 107]] (o := .stop [.o [1, 1, 1, 1, 1, 1, 0, 1, 1, 1, 1, 1, 0, 1, 0, 1] 2, .b 0, .c [1, 1]] [(0, vP g), (106, vP g), (107, vU (A.ws.getD (ctlAt c tp).toNat 0))] [Ed23d1 g c cl sl tp ep 3 (fl + 1) bk ((A.load (ctlAt c tp)).steps) sn cd, E3ba87 ra (A.load (ctlAt c tp)) false 0, E671ef (A.load (ctlAt c tp))]) (by kernel_rfl) ?_
  refine ok_stop ?_
  refine go_call (some 108) [0] Tryz.call62 (r14LookD c g cl ep sl tp sn bk (fl + 1) ((A.load (ctlAt c tp)).steps) cd 3 (A.ws.getD (ctlAt c tp).toNat 0) (by first | assumption | omega | (simp only [InK] at *; omega)) (by first | assumption | omega | (simp only [InK] at *; omega))) (by kernel_rfl) ?_
  rintro v post ⟨rfl, rfl⟩
  refine go_exec (rs := [.tmp 4]) (by kernel_rfl) 4000 [.e 2] (o := .obl (g = g) (.ret (.bool true) [E3ba87 ra (A.load (ctlAt c tp)) false 0, E671ef (A.load (ctlAt c tp)), Ed23d1 g c cl sl tp ep 0 (fl + 1) 0 ((A.load (ctlAt c tp)).steps) (A.ws.getD (ctlAt c tp).toNat 0) 22])) (by kernel_rfl) ?_
  refine ok_obl rfl ?_
  exact ret_ok (post := [Ed23d1 g c cl sl tp ep 0 (fl + 1) 0 ((A.load (ctlAt c tp)).steps) (A.ws.getD (ctlAt c tp).toNat 0) 22, E3ba87 ra (A.load (ctlAt c tp)) false 0, E671ef (A.load (ctlAt c tp))]) [2, 0, 1] (by kernel_rfl) ⟨rfl, (by kernel_rfl)⟩


theorem r14Step3P (c : Cfg) (g ra : Nat) (cl ep sl tp sn bk fl cm cd : Int) (A : Ar) (hc : c.Ok) (hn : A.ws.length = A.n) (hs : 0 ≤ A.steps ∧ A.steps ≤ 1000000000) (htp : 0 ≤ tp ∧ tp < c.topics) (hwd : 0 ≤ ctlAt c tp ∧ ctlAt c tp < A.n) (hw : U64 (A.ws.getD (ctlAt c tp).toNat 0)) (hf0 : 0 ≤ fl ∧ fl ≤ 1000) (hq : (A.ws.getD (ctlAt c tp).toNat 0) ≠ sn) (hr : fl + 1 ≠ c.retry) (hl : ctlLive (A.ws.getD (ctlAt c tp).toNat 0) = true) (he : ctlEpoch (A.ws.getD (ctlAt c tp).toNat 0) ≠ ep) :
    Ctr Tryz.prog 18 #[vP g, vP ra] [Ed23d1 g c cl sl tp ep 3 fl bk cm sn cd, E3ba87 ra A false 0, E671ef A] (Ret (.bool true) [Ed23d1 g c cl sl tp ep 0 (fl + 1) 0 ((A.load (ctlAt c tp)).steps) (A.ws.getD (ctlAt c tp).toNat 0) 22, E3ba87 ra (A.load (ctlAt c tp)) false 0, E671ef (A.load (ctlAt c tp))]) := by
  refine ctr_of (args := [vP g, vP ra]) (fn := Tryz.f18) (body := B18) (nt := 114) Tryz.func18 (by kernel_rfl) (by kernel_rfl) ?_
  intro F
  refine go_exec (rs := [.tmp 4]) (by kernel_rfl) 4000 [.e 0, .sp [11, 12] [.dead] [.sp [34, 35] [.dead] [.sp [59, 60] [.z [0, 0, 1, 1, 1, 1, 1, 0, 1, 0, 1] 0 [0, 1]] [.dead]]]] (o := .obl (g = g) (.obl ((3 == 1) = (3 == 1)) (.br (3 == 1) (.bad) (.obl ((3 == 2) = (3 == 2)) (.br (3 == 2) (.bad) (.obl ((3 == 3) = (3 == 3)) (.br (3 == 3) (.stop [.c [0, 0, 1, 1, 1, 1, 1, 0, 1, 0, 1], .c [1, 0, 1, 1, 1, 1, 1, 0, 1, 0, 1], .b 0, .c [1, 1]] [(0, vP g), (1, vP ra)] [Ed23d1 g c cl sl tp ep 3 fl bk cm sn cd, E3ba87 ra A false 0, E671ef A]) (.bad)))))))) (by kernel_rfl) ?_
  refine ok_obl rfl ?_
  refine ok_obl rfl ?_
  refine ok_br (fun h => absurd (show (3 == 1) = false from (by decide)) (by rw [h]; simp)) (fun _ => ?_)
  refine ok_obl rfl ?_
  refine ok_br (fun h => absurd (show (3 == 2) = false from (by decide)) (by rw [h]; simp)) (fun _ => ?_)
  refine ok_obl rfl ?_
  refine ok_br (fun _ => ?_) (fun h => absurd (show (3 == 3) = true from (by decide)) (by rw [h]; simp))
  refine ok_stop ?_
  refine go_tail_call (dst := (some 71)) (ps := [g = g, g = g]) (cs := [(13, #[cfgV c, vI tp], vI (ctlAt c tp))]) [(0, .h .w), (1, .h .w), (2, .h .w), (3, .h .w), (4, .h (.e 0)), (5, .h .w), (6, .h .w), (7, .h .w), (8, .h (.e 0)), (9, .q (vI (ctlAt c tp)))] 10 [(11, .h .w)] [1, 2] [0, 1, 6] (by kernel_rfl) Tryz.call61 (ref_Load ra A (ctlAt c tp) (by first | assumption | omega | (simp only [InK] at *; omega)) hwd (by first | assumption | omega | (simp only [InK] at *; omega))) (by kernel_rfl) ⟨rfl, rfl, trivial⟩ ⟨⟨Tryz.call13, quiet_of [] (ref_Control c tp (by first | assumption | omega | (simp only [InK] at *; omega)) (by first | assumption | omega | (simp only [InK] at *; omega))) (by kernel_rfl) (by rintro v post ⟨rfl, rfl⟩; exact ⟨rfl, rfl⟩)⟩, trivial⟩ ?_
  rintro v post ⟨rfl, rfl⟩
  refine tail_next (tm' := [(0, vP g), (1, vP ra), (6, vU (A.ws.getD (ctlAt c tp).toNat 0))]) (ps2 := []) (by kernel_rfl) trivial ?_
  refine go_exec (rs := [.tmp 4]) (by kernel_rfl) 4000 [.e 1, .e 0, .e 0, .sp [84] [.dead] [.e 0, .n, .e 0, .z [0, 1, 1, 1, 1, 0, 1, 1, 1, 1, 1, 0, 1, 0, 1] 0 [0, 6]]] (o := .obl (ra = ra) (.obl (g = g) (.obl (g = g) (.br ((A.ws.getD (ctlAt c tp).toNat 0) == sn) (.bad) (.obl (g = g) (.obl (InK .i64 (fl + 1)) (.obl (g = g) (.stop [.c [0, 1, 1, 1, 1, 0, 1, 1, 1, 1, 1, 0, 1, 0, 1], .c [1, 1, 1, 1, 1, 0, 1, 1, 1, 1, 1, 0, 1, 0, 1], .b 0, .c [1, 1]] [(0, vP g), (6, vU (A.ws.getD (ctlAt c tp).toNat 0))] [Ed23d1 g c cl sl tp ep 3 (fl + 1) bk ((A.load (ctlAt c tp)).steps) sn cd, E3ba87 ra (A.load (ctlAt c tp)) false 0, E671ef (A.load (ctlAt c tp))])))))))) (by kernel_rfl) ?_
  refine ok_obl rfl ?_
  refine ok_obl rfl ?_
  refine ok_obl rfl ?_
  refine ok_br (fun h => absurd (show ((A.ws.getD (ctlAt c tp).toNat 0) == sn) = false from (beq_eq_false_iff_ne.2 hq)) (by rw [h]; simp)) (fun _ => ?_)
  refine ok_obl rfl ?_
  refine ok_obl (by simp only [InK]; omega) ?_
  refine ok_obl rfl ?_
  refine ok_stop ?_
  refine go_quiet (tm' := [(0, vP g), (6, vU (A.ws.getD (ctlAt c tp).toNat 0)), (103, .bool false)]) (ps := [g = g, g = g, ((fl + 1) == c.retry) = false]) (cs := []) [(0, .h .w), (1, .h .w), (2, .h .w), (3, .h (.e 0)), (4, .h .w), (5, .h .w), (6, .h .w), (7, .h .w), (8, .h (.e 0)), (9, .h (.t false))] [0, 6, 103] (by kernel_rfl) (by kernel_rfl) ⟨rfl, rfl, (beq_eq_false_iff_ne.2 hr), trivial⟩ trivial ?_
  refine go_exec (rs := [.tmp 4]) (by kernel_rfl) 4000 [.z [1, 1, 1, 1, 1, 1, 0, 1, 1, 1, 1, 1, 0, 1, 0, 1] 2 [0, 106, 107]] (o := .stop [.o [1, 1, 1, 1, 1, 1, 0, 1, 1, 1, 1, 1, 0, 1, 0, 1] 2, .b 0, .c [1, 1]] [(0, vP g), (106, vP g), (107, vU (A.ws.getD (ctlAt c tp).toNat 0))] [Ed23d1 g c cl sl tp ep 3 (fl + 1) bk ((A.load (ctlAt c tp)).steps) sn cd, E3ba87 ra (A.load (ctlAt c tp)) false 0, E671ef (A.load (ctlAt c tp))]) (by kernel_rfl) ?_
  refine ok_stop ?_
  refine go_call (some 108) [0] Tryz.call62 (r14LookP c g cl ep sl tp sn bk (fl + 1) ((A.load (ctlAt c tp)).steps) cd 3 (A.ws.getD (ctlAt c tp).toNat 0) (by first | assumption | omega | (simp only [InK] at *; omega)) (by first | assumption | omega | (simp only [InK] at *; omega)) (by first | assumption | omega | (simp only [InK] at *; omega))) (by kernel_rfl) ?_
  rintro v post ⟨rfl, rfl⟩
  refine go_exec (rs := [.tmp 4]) (by kernel_rfl) 4000 [.e 2] (o := .obl (g = g) (.ret (.bool true) [E3ba87 ra (A.load (ctlAt c tp)) false 0, E671ef (A.load (ctlAt c tp)), Ed23d1 g c cl sl tp ep 0 (fl + 1) 0 ((A.load (ctlAt c tp)).steps) (A.ws.getD (ctlAt c tp).toNat 0) 22])) (by kernel_rfl) ?_
  refine ok_obl rfl ?_
  exact ret_ok (post := [Ed23d1 g c cl sl tp ep 0 (fl + 1) 0 ((A.load (ctlAt c tp)).steps) (A.ws.getD (ctlAt c tp).toNat 0) 22, E3ba87 ra (A.load (ctlAt c tp)) false 0, E671ef (A.load (ctlAt c tp))]) [2, 0, 1] (by kernel_rfl) ⟨rfl, (by kernel_rfl)⟩


theorem r14Step3E (c : Cfg) (g ra : Nat) (cl ep sl tp sn bk fl cm cd : Int) (A : Ar) (hc : c.Ok) (hn : A.ws.length = A.n) (hs : 0 ≤ A.steps ∧ A.steps ≤ 1000000000) (htp : 0 ≤ tp ∧ tp < c.topics) (hwd : 0 ≤ ctlAt c tp ∧ ctlAt c tp < A.n) (hw : U64 (A.ws.getD (ctlAt c tp).toNat 0)) (hf0 : 0 ≤ fl ∧ fl ≤ 1000) (hq : (A.ws.getD (ctlAt c tp).toNat 0) ≠ sn) (hr : fl + 1 ≠ c.retry) (hl : ctlLive (A.ws.getD (ctlAt c tp).toNat 0) = true) (he : ctlEpoch (A.ws.getD (ctlAt c tp).toNat 0) = ep) (hb : ctlBlock (A.ws.getD (ctlAt c tp).toNat 0) = 0) :
    Ctr Tryz.prog 18 #[vP g, vP ra] [Ed23d1 g c cl sl tp ep 3 fl bk cm sn cd, E3ba87 ra A false 0, E671ef A] (Ret (.bool true) [Ed23d1 g c cl sl tp ep 0 (fl + 1) 0 ((A.load (ctlAt c tp)).steps) (A.ws.getD (ctlAt c tp).toNat 0) 20, E3ba87 ra (A.load (ctlAt c tp)) false 0, E671ef (A.load (ctlAt c tp))]) := by
  refine ctr_of (args := [vP g, vP ra]) (fn := Tryz.f18) (body := B18) (nt := 114) Tryz.func18 (by kernel_rfl) (by kernel_rfl) ?_
  intro F
  refine go_exec (rs := [.tmp 4]) (by kernel_rfl) 4000 [.e 0, .sp [11, 12] [.dead] [.sp [34, 35] [.dead] [.sp [59, 60] [.z [0, 0, 1, 1, 1, 1, 1, 0, 1, 0, 1] 0 [0, 1]] [.dead]]]] (o := .obl (g = g) (.obl ((3 == 1) = (3 == 1)) (.br (3 == 1) (.bad) (.obl ((3 == 2) = (3 == 2)) (.br (3 == 2) (.bad) (.obl ((3 == 3) = (3 == 3)) (.br (3 == 3) (.stop [.c [0, 0, 1, 1, 1, 1, 1, 0, 1, 0, 1], .c [1, 0, 1, 1, 1, 1, 1, 0, 1, 0, 1], .b 0, .c [1, 1]] [(0, vP g), (1, vP ra)] [Ed23d1 g c cl sl tp ep 3 fl bk cm sn cd, E3ba87 ra A false 0, E671ef A]) (.bad)))))))) (by kernel_rfl) ?_
  refine ok_obl rfl ?_
  refine ok_obl rfl ?_
  refine ok_br (fun h => absurd (show (3 == 1) = false from (by decide)) (by rw [h]; simp)) (fun _ => ?_)
  refine ok_obl rfl ?_
  refine ok_br (fun h => absurd (show (3 == 2) = false from (by decide)) (by rw [h]; simp)) (fun _ => ?_)
  refine ok_obl rfl ?_
  refine ok_br (fun _ => ?_) (fun h => absurd (show (3 == 3) = true from (by decide)) (by rw [h]; simp))
  refine ok_stop ?_
  refine go_tail_call (dst := (some 71)) (ps := [g = g, g = g]) (cs := [(13, #[cfgV c, vI tp], vI (ctlAt c tp))]) [(0, .h .w), (1, .h .w), (2, .h .w), (3, .h .w), (4, .h (.e 0)), (5, .h .w), (6, .h .w), (7, .h .w), (8, .h (.e 0)), (9, .q (vI (ctlAt c tp)))] 10 [(11, .h .w)] [1, 2] [0, 1, 6] (by kernel_rfl) Tryz.call61 (ref_Load ra A (ctlAt c tp) (by first | assumption | omega | (simp only [InK] at *; omega)) hwd (by first | assumption | omega | (simp only [InK] at *; omega))) (by kernel_rfl) ⟨rfl, rfl, trivial⟩ ⟨⟨Tryz.call13, quiet_of [] (ref_Control c tp (by first | assumption | omega | (simp only [InK] at *; omega)) (by first | assumption | omega | (simp only [InK] at *; omega))) (by kernel_rfl) (by rintro v post ⟨rfl, rfl⟩; exact ⟨rfl, rfl⟩)⟩, trivial⟩ ?_
  rintro v post ⟨rfl, rfl⟩
  refine tail_next (tm' := [(0, vP g), (1, vP ra), (6, vU (A.ws.getD (ctlAt c tp).toNat 0))]) (ps2 := []) (by kernel_rfl) trivial ?_
  refine go_exec (rs := [.tmp 4]) (by kernel_rfl) 4000 [.e 1, .e 0, .e 0, .sp [84] [.dead] [.e 0, .n, .e 0, .z [0, 1, 1, 1, 1, 0, 1, 1, 1, 1, 1, 0, 1, 0, 1] 0 [0, 6]]] (o := .obl (ra = ra) (.obl (g = g) (.obl (g = g) (.br ((A.ws.getD (ctlAt c tp).toNat 0) == sn) (.bad) (.obl (g = g) (.obl (InK .i64 (fl + 1)) (.obl (g = g) (.stop [.c [0, 1, 1, 1, 1, 0, 1, 1, 1, 1, 1, 0, 1, 0, 1], .c [1, 1, 1, 1, 1, 0, 1, 1, 1, 1, 1, 0, 1, 0, 1], .b 0, .c [1, 1]] [(0, vP g), (6, vU (A.ws.getD (ctlAt c tp).toNat 0))] [Ed23d1 g c cl sl tp ep 3 (fl + 1) bk ((A.load (ctlAt c tp)).steps) sn cd, E3ba87 ra (A.load (ctlAt c tp)) false 0, E671ef (A.load (ctlAt c tp))])))))))) (by kernel_rfl) ?_
  refine ok_obl rfl ?_
  refine ok_obl rfl ?_
  refine ok_obl rfl ?_
  refine ok_br (fun h => absurd (show ((A.ws.getD (ctlAt c tp).toNat 0) == sn) = false from (beq_eq_false_iff_ne.2 hq)) (by rw [h]; simp)) (fun _ => ?_)
  refine ok_obl rfl ?_
  refine ok_obl (by simp only [InK]; omega) ?_
  refine ok_obl rfl ?_
  refine ok_stop ?_
  refine go_quiet (tm' := [(0, vP g), (6, vU (A.ws.getD (ctlAt c tp).toNat 0)), (103, .bool false)]) (ps := [g = g, g = g, ((fl + 1) == c.retry) = false]) (cs := []) [(0, .h .w), (1, .h .w), (2, .h .w), (3, .h (.e 0)), (4, .h .w), (5, .h .w), (6, .h .w), (7, .h .w), (8, .h (.e 0)), (9, .h (.t false))] [0, 6, 103] (by kernel_rfl) (by kernel_rfl) ⟨rfl, rfl, (beq_eq_false_iff_ne.2 hr), trivial⟩ trivial ?_
  refine go_exec (rs := [.tmp 4]) (by kernel_rfl) 4000 [.z [1, 1, 1, 1, 1, 1, 0, 1, 1, 1, 1, 1, 0, 1, 0, 1] 2 [0, 106, 107]] (o := .stop [.o [1, 1, 1, 1, 1, 1, 0, 1, 1, 1, 1, 1, 0, 1, 0, 1] 2, .b 0, .c [1, 1]] [(0, vP g), (106, vP g), (107, vU (A.ws.getD (ctlAt c tp).toNat 0))] [Ed23d1 g c cl sl tp ep 3 (fl + 1) bk ((A.load (ctlAt c tp)).steps) sn cd, E3ba87 ra (A.load (ctlAt c tp)) false 0, E671ef (A.load (ctlAt c tp))]) (by kernel_rfl) ?_
  refine ok_stop ?_
  refine go_call (some 108) [0] Tryz.call62 (r14LookE c g cl ep sl tp sn bk (fl + 1) ((A.load (ctlAt c tp)).steps) cd 3 (A.ws.getD (ctlAt c tp).toNat 0) (by first | assumption | omega | (simp only [InK] at *; omega)) (by first | assumption | omega | (simp only [InK] at *; omega)) (by first | assumption | omega | (simp only [InK] at *; omega)) (by first | assumption | omega | (simp only [InK] at *; omega))) (by kernel_rfl) ?_
  rintro v post ⟨rfl, rfl⟩
  refine go_exec (rs := [.tmp 4]) (by kernel_rfl) 4000 [.e 2] (o := .obl (g = g) (.ret (.bool true) [E3ba87 ra (A.load (ctlAt c tp)) false 0, E671ef (A.load (ctlAt c tp)), Ed23d1 g c cl sl tp ep 0 (fl + 1) 0 ((A.load (ctlAt c tp)).steps) (A.ws.getD (ctlAt c tp).toNat 0) 20])) (by kernel_rfl) ?_
  refine ok_obl rfl ?_
  exact ret_ok (post := [Ed23d1 g c cl sl tp ep 0 (fl + 1) 0 ((A.load (ctlAt c tp)).steps) (A.ws.getD (ctlAt c tp).toNat 0) 20, E3ba87 ra (A.load (ctlAt c tp)) false 0, E671ef (A.load (ctlAt c tp))]) [2, 0, 1] (by kernel_rfl) ⟨rfl, (by kernel_rfl)⟩


theorem r14Step3N (c : Cfg) (g ra : Nat) (cl ep sl tp sn bk fl cm cd : Int) (A : Ar) (hc : c.Ok) (hn : A.ws.length = A.n) (hs : 0 ≤ A.steps ∧ A.steps ≤ 1000000000) (htp : 0 ≤ tp ∧ tp < c.topics) (hwd : 0 ≤ ctlAt c tp ∧ ctlAt c tp < A.n) (hw : U64 (A.ws.getD (ctlAt c tp).toNat 0)) (hf0 : 0 ≤ fl ∧ fl ≤ 1000) (hq : (A.ws.getD (ctlAt c tp).toNat 0) ≠ sn) (hr : fl + 1 ≠ c.retry) (hl : ctlLive (A.ws.getD (ctlAt c tp).toNat 0) = true) (he : ctlEpoch (A.ws.getD (ctlAt c tp).toNat 0) = ep) (hb : ctlBlock (A.ws.getD (ctlAt c tp).toNat 0) ≠ 0) :
    Ctr Tryz.prog 18 #[vP g, vP ra] [Ed23d1 g c cl sl tp ep 3 fl bk cm sn cd, E3ba87 ra A false 0, E671ef A] (Ret (.bool false) [Ed23d1 g c cl sl tp ep 2 (fl + 1) (ctlBlock (A.ws.getD (ctlAt c tp).toNat 0)) ((A.load (ctlAt c tp)).steps) (A.ws.getD (ctlAt c tp).toNat 0) cd, E3ba87 ra (A.load (ctlAt c tp)) false 0, E671ef (A.load (ctlAt c tp))]) := by
  refine ctr_of (args := [vP g, vP ra]) (fn := Tryz.f18) (body := B18) (nt := 114) Tryz.func18 (by kernel_rfl) (by kernel_rfl) ?_
  intro F
  refine go_exec (rs := [.tmp 4]) (by kernel_rfl) 4000 [.e 0, .sp [11, 12] [.dead] [.sp [34, 35] [.dead] [.sp [59, 60] [.z [0, 0, 1, 1, 1, 1, 1, 0, 1, 0, 1] 0 [0, 1]] [.dead]]]] (o := .obl (g = g) (.obl ((3 == 1) = (3 == 1)) (.br (3 == 1) (.bad) (.obl ((3 == 2) = (3 == 2)) (.br (3 == 2) (.bad) (.obl ((3 == 3) = (3 == 3)) (.br (3 == 3) (.stop [.c [0, 0, 1, 1, 1, 1, 1, 0, 1, 0, 1], .c [1, 0, 1, 1, 1, 1, 1, 0, 1, 0, 1], .b 0, .c [1, 1]] [(0, vP g), (1, vP ra)] [Ed23d1 g c cl sl tp ep 3 fl bk cm sn cd, E3ba87 ra A false 0, E671ef A]) (.bad)))))))) (by kernel_rfl) ?_
  refine ok_obl rfl ?_
  refine ok_obl rfl ?_
  refine ok_br (fun h => absurd (show (3 == 1) = false from (by decide)) (by rw [h]; simp)) (fun _ => ?_)
  refine ok_obl rfl ?_
  refine ok_br (fun h => absurd (show (3 == 2) = false from (by decide)) (by rw [h]; simp)) (fun _ => ?_)
  refine ok_obl rfl ?_
  refine ok_br (fun _ => ?_) (fun h => absurd (show (3 == 3) = true from (by decide)) (by rw [h]; simp))
  refine ok_stop ?_
  refine go_tail_call (dst := (some 71)) (ps := [g = g, g = g]) (cs := [(13, #[cfgV c, vI tp], vI (ctlAt c tp))]) [(0, .h .w), (1, .h .w), (2, .h .w), (3, .h .w), (4, .h (.e 0)), (5, .h .w), (6, .h .w), (7, .h .w), (8, .h (.e 0)), (9, .q (vI (ctlAt c tp)))] 10 [(11, .h .w)] [1, 2] [0, 1, 6] (by kernel_rfl) Tryz.call61 (ref_Load ra A (ctlAt c tp) (by first | assumption | omega | (simp only [InK] at *; omega)) hwd (by first | assumption | omega | (simp only [InK] at *; omega))) (by kernel_rfl) ⟨rfl, rfl, trivial⟩ ⟨⟨Tryz.call13, quiet_of [] (ref_Control c tp (by first | assumption | omega | (simp only [InK] at *; omega)) (by first | assumption | omega | (simp only [InK] at *; omega))) (by kernel_rfl) (by rintro v post ⟨rfl, rfl⟩; exact ⟨rfl, rfl⟩)⟩, trivial⟩ ?_
  rintro v post ⟨rfl, rfl⟩
  refine tail_next (tm' := [(0, vP g), (1, vP ra), (6, vU (A.ws.getD (ctlAt c tp).toNat 0))]) (ps2 := []) (by kernel_rfl) trivial ?_
  refine go_exec (rs := [.tmp 4]) (by kernel_rfl) 4000 [.e 1, .e 0, .e 0, .sp [84] [.dead] [.e 0, .n, .e 0, .z [0, 1, 1, 1, 1, 0, 1, 1, 1, 1, 1, 0, 1, 0, 1] 0 [0, 6]]] (o := .obl (ra = ra) (.obl (g = g) (.obl (g = g) (.br ((A.ws.getD (ctlAt c tp).toNat 0) == sn) (.bad) (.obl (g = g) (.obl (InK .i64 (fl + 1)) (.obl (g = g) (.stop [.c [0, 1, 1, 1, 1, 0, 1, 1, 1, 1, 1, 0, 1, 0, 1], .c [1, 1, 1, 1, 1, 0, 1, 1, 1, 1, 1, 0, 1, 0, 1], .b 0, .c [1, 1]] [(0, vP g), (6, vU (A.ws.getD (ctlAt c tp).toNat 0))] [Ed23d1 g c cl sl tp ep 3 (fl + 1) bk ((A.load (ctlAt c tp)).steps) sn cd, E3ba87 ra (A.load (ctlAt c tp)) false 0, E671ef (A.load (ctlAt c tp))])))))))) (by kernel_rfl) ?_
  refine ok_obl rfl ?_
  refine ok_obl rfl ?_
  refine ok_obl rfl ?_
  refine ok_br (fun h => absurd (show ((A.ws.getD (ctlAt c tp).toNat 0) == sn) = false from (beq_eq_false_iff_ne.2 hq)) (by rw [h]; simp)) (fun _ => ?_)
  refine ok_obl rfl ?_
  refine ok_obl (by simp only [InK]; omega) ?_
  refine ok_obl rfl ?_
  refine ok_stop ?_
  refine go_quiet (tm' := [(0, vP g), (6, vU (A.ws.getD (ctlAt c tp).toNat 0)), (103, .bool false)]) (ps := [g = g, g = g, ((fl + 1) == c.retry) = false]) (cs := []) [(0, .h .w), (1, .h .w), (2, .h .w), (3, .h (.e 0)), (4, .h .w), (5, .h .w), (6, .h .w), (7, .h .w), (8, .h (.e 0)), (9, .h (.t false))] [0, 6, 103] (by kernel_rfl) (by kernel_rfl) ⟨rfl, rfl, (beq_eq_false_iff_ne.2 hr), trivial⟩ trivial ?_
  refine go_exec (rs := [.tmp 4]) (by kernel_rfl) 4000 [.z [1, 1, 1, 1, 1, 1, 0, 1, 1, 1, 1, 1, 0, 1, 0, 1] 2 [0, 106, 107]] (o := .stop [.o [1, 1, 1, 1, 1, 1, 0, 1, 1, 1, 1, 1, 0, 1, 0, 1] 2, .b 0, .c [1, 1]] [(0, vP g), (106, vP g), (107, vU (A.ws.getD (ctlAt c tp).toNat 0))] [Ed23d1 g c cl sl tp ep 3 (fl + 1) bk ((A.load (ctlAt c tp)).steps) sn cd, E3ba87 ra (A.load (ctlAt c tp)) false 0, E671ef (A.load (ctlAt c tp))]) (by kernel_rfl) ?_
  refine ok_stop ?_
  refine go_call (some 108) [0] Tryz.call62 (r14LookN c g cl ep sl tp sn bk (fl + 1) ((A.load (ctlAt c tp)).steps) cd 3 (A.ws.getD (ctlAt c tp).toNat 0) (by first | assumption | omega | (simp only [InK] at *; omega)) (by first | assumption | omega | (simp only [InK] at *; omega)) (by first | assumption | omega | (simp only [InK] at *; omega)) (by first | assumption | omega | (simp only [InK] at *; omega))) (by kernel_rfl) ?_
  rintro v post ⟨rfl, rfl⟩
  refine go_exec (rs := [.tmp 4]) (by kernel_rfl) 4000 [.e 2] (o := .obl (g = g) (.ret (.bool false) [E3ba87 ra (A.load (ctlAt c tp)) false 0, E671ef (A.load (ctlAt c tp)), Ed23d1 g c cl sl tp ep 2 (fl + 1) (ctlBlock (A.ws.getD (ctlAt c tp).toNat 0)) ((A.load (ctlAt c tp)).steps) (A.ws.getD (ctlAt c tp).toNat 0) cd])) (by kernel_rfl) ?_
  refine ok_obl rfl ?_
  exact ret_ok (post := [Ed23d1 g c cl sl tp ep 2 (fl + 1) (ctlBlock (A.ws.getD (ctlAt c tp).toNat 0)) ((A.load (ctlAt c tp)).steps) (A.ws.getD (ctlAt c tp).toNat 0) cd, E3ba87 ra (A.load (ctlAt c tp)) false 0, E671ef (A.load (ctlAt c tp))]) [2, 0, 1] (by kernel_rfl) ⟨rfl, (by kernel_rfl)⟩


theorem ref14_Step (c : Cfg) (g ra : Nat) (sl tp : Int) (G : Gu) (A : Ar) (hc : c.Ok) (hn : A.ws.length = A.n) (hs : 0 ≤ A.steps ∧ A.steps ≤ 1000000000) (hR : RngW A.ws) (hG : Gu.Ok c A.n G) (htp : 0 ≤ tp ∧ tp < c.topics) (hsk : InK .i64 sl) (hwq : G.word = ctlAt c tp) (hsq : G.slot = slotAt c sl) :
    Ctr Tryz.prog 18 #[vP g, vP ra] [Ed23d1 g c G.client sl tp G.epoch ((G.ph : Nat) : Int) G.failed G.block G.commit G.seen G.code, E3ba87 ra A false 0, E671ef A] (Ret (.bool ((G.step c.retry A).1.ph == 0)) [Ed23d1 g c ((G.step c.retry A).1.client) sl tp ((G.step c.retry A).1.epoch) (((G.step c.retry A).1.ph : Nat) : Int) ((G.step c.retry A).1.failed) ((G.step c.retry A).1.block) ((G.step c.retry A).1.commit) ((G.step c.retry A).1.seen) ((G.step c.retry A).1.code), E3ba87 ra ((G.step c.retry A).2) false 0, E671ef ((G.step c.retry A).2)]) := by
  obtain ⟨cl, ep, sl', wd', sn, bk, fl, cm, cd, ph⟩ := G
  obtain ⟨hph, hsl, hwd, hcl, hbk, hf0, _⟩ := hG
  simp only at hph hsl hwd hcl hbk hf0 hwq hsq
  subst hwq; subst hsq
  have hc' := hc
  simp only [Cfg.Ok] at hc'
  have hw : U64 (A.ws.getD (ctlAt c tp).toNat 0) := hR _
  match ph, hph with
  | 0, _ => exact r14Step0 c g ra cl ep sl tp sn bk fl cm cd A
  | 1, _ =>
    by_cases hl : ctlLive (A.ws.getD (ctlAt c tp).toNat 0) = true
    · by_cases he : ctlEpoch (A.ws.getD (ctlAt c tp).toNat 0) = ep
      · by_cases hb : ctlBlock (A.ws.getD (ctlAt c tp).toNat 0) = 0
        · have e : Gu.step c.retry (⟨cl, ep, slotAt c sl, ctlAt c tp, sn, bk, fl, cm, cd, 1⟩ : Gu) A = ((⟨cl, ep, slotAt c sl, ctlAt c tp, (A.ws.getD (ctlAt c tp).toNat 0), 0, fl, (A.load (ctlAt c tp)).steps, 20, 0⟩ : Gu), A.load (ctlAt c tp)) := by
            show (Gu.look _ _, _) = _
            rw [Gu.look_E _ hl he hb]
          rw [e]; exact r14Step1E c g ra cl ep sl tp sn bk fl cm cd A hc hn hs htp hwd hw hl he hb
        · have e : Gu.step c.retry (⟨cl, ep, slotAt c sl, ctlAt c tp, sn, bk, fl, cm, cd, 1⟩ : Gu) A = ((⟨cl, ep, slotAt c sl, ctlAt c tp, (A.ws.getD (ctlAt c tp).toNat 0), (ctlBlock (A.ws.getD (ctlAt c tp).toNat 0)), fl, (A.load (ctlAt c tp)).steps, cd, 2⟩ : Gu), A.load (ctlAt c tp)) := by
            show (Gu.look _ _, _) = _
            rw [Gu.look_N _ hl he hb]
          rw [e]; exact r14Step1N c g ra cl ep sl tp sn bk fl cm cd A hc hn hs htp hwd hw hl he hb
      · have e : Gu.step c.retry (⟨cl, ep, slotAt c sl, ctlAt c tp, sn, bk, fl, cm, cd, 1⟩ : Gu) A = ((⟨cl, ep, slotAt c sl, ctlAt c tp, (A.ws.getD (ctlAt c tp).toNat 0), 0, fl, (A.load (ctlAt c tp)).steps, 22, 0⟩ : Gu), A.load (ctlAt c tp)) := by
          show (Gu.look _ _, _) = _
          rw [Gu.look_P _ he]
        rw [e]; exact r14Step1P c g ra cl ep sl tp sn bk fl cm cd A hc hn hs htp hwd hw hl he
    · have hl := (Bool.not_eq_true _).mp hl
      have e : Gu.step c.retry (⟨cl, ep, slotAt c sl, ctlAt c tp, sn, bk, fl, cm, cd, 1⟩ : Gu) A = ((⟨cl, ep, slotAt c sl, ctlAt c tp, (A.ws.getD (ctlAt c tp).toNat 0), 0, fl, (A.load (ctlAt c tp)).steps, 22, 0⟩ : Gu), A.load (ctlAt c tp)) := by
        show (Gu.look _ _, _) = _
        rw [Gu.look_D _ hl]
      rw [e]; exact r14Step1D c g ra cl ep sl tp sn bk fl cm cd A hc hn hs htp hwd hw hl
  | 2, _ => exact r14Step2 c g ra cl ep sl tp sn bk fl cm cd A hc hn hs hsl hsk (by omega) hbk
  | 3, _ =>
    by_cases hq : (A.ws.getD (ctlAt c tp).toNat 0) = sn
    · have e : Gu.step c.retry (⟨cl, ep, slotAt c sl, ctlAt c tp, sn, bk, fl, cm, cd, 3⟩ : Gu) A = ((⟨cl, ep, slotAt c sl, ctlAt c tp, sn, bk, fl, (A.load (ctlAt c tp)).steps, 0, 0⟩ : Gu), A.load (ctlAt c tp)) := by
        show (if _ then _ else _) = _
        rw [if_pos hq]
      rw [e]; exact r14Step3K c g ra cl ep sl tp sn bk fl cm cd A hc hn hs htp hwd hw hf0 hq
    · by_cases hr : fl + 1 = c.retry
      · have e : Gu.step c.retry (⟨cl, ep, slotAt c sl, ctlAt c tp, sn, bk, fl, cm, cd, 3⟩ : Gu) A = ((⟨cl, ep, slotAt c sl, ctlAt c tp, sn, 0, (fl + 1), (A.load (ctlAt c tp)).steps, 17, 0⟩ : Gu), A.load (ctlAt c tp)) := by
          show (if _ then _ else _) = _
          rw [if_neg hq, if_pos hr]
        rw [e]; exact r14Step3R c g ra cl ep sl tp sn bk fl cm cd A hc hn hs htp hwd hw hf0 hq hr
      · by_cases hl : ctlLive (A.ws.getD (ctlAt c tp).toNat 0) = true
        · by_cases he : ctlEpoch (A.ws.getD (ctlAt c tp).toNat 0) = ep
          · by_cases hb : ctlBlock (A.ws.getD (ctlAt c tp).toNat 0) = 0
            · have e : Gu.step c.retry (⟨cl, ep, slotAt c sl, ctlAt c tp, sn, bk, fl, cm, cd, 3⟩ : Gu) A = ((⟨cl, ep, slotAt c sl, ctlAt c tp, (A.ws.getD (ctlAt c tp).toNat 0), 0, (fl + 1), (A.load (ctlAt c tp)).steps, 20, 0⟩ : Gu), A.load (ctlAt c tp)) := by
                show (if _ then _ else _) = _
                rw [if_neg hq, if_neg hr, Gu.look_E _ hl he hb]
              rw [e]; exact r14Step3E c g ra cl ep sl tp sn bk fl cm cd A hc hn hs htp hwd hw hf0 hq hr hl he hb
            · have e : Gu.step c.retry (⟨cl, ep, slotAt c sl, ctlAt c tp, sn, bk, fl, cm, cd, 3⟩ : Gu) A = ((⟨cl, ep, slotAt c sl, ctlAt c tp, (A.ws.getD (ctlAt c tp).toNat 0), (ctlBlock (A.ws.getD (ctlAt c tp).toNat 0)), (fl + 1), (A.load (ctlAt c tp)).steps, cd, 2⟩ : Gu), A.load (ctlAt c tp)) := by
                show (if _ then _ else _) = _
                rw [if_neg hq, if_neg hr, Gu.look_N _ hl he hb]
              rw [e]; exact r14Step3N c g ra cl ep sl tp sn bk fl cm cd A hc hn hs htp hwd hw hf0 hq hr hl he hb
          · have e : Gu.step c.retry (⟨cl, ep, slotAt c sl, ctlAt c tp, sn, bk, fl, cm, cd, 3⟩ : Gu) A = ((⟨cl, ep, slotAt c sl, ctlAt c tp, (A.ws.getD (ctlAt c tp).toNat 0), 0, (fl + 1), (A.load (ctlAt c tp)).steps, 22, 0⟩ : Gu), A.load (ctlAt c tp)) := by
              show (if _ then _ else _) = _
              rw [if_neg hq, if_neg hr, Gu.look_P _ he]
            rw [e]; exact r14Step3P c g ra cl ep sl tp sn bk fl cm cd A hc hn hs htp hwd hw hf0 hq hr hl he
        · have hl := (Bool.not_eq_true _).mp hl
          have e : Gu.step c.retry (⟨cl, ep, slotAt c sl, ctlAt c tp, sn, bk, fl, cm, cd, 3⟩ : Gu) A = ((⟨cl, ep, slotAt c sl, ctlAt c tp, (A.ws.getD (ctlAt c tp).toNat 0), 0, (fl + 1), (A.load (ctlAt c tp)).steps, 22, 0⟩ : Gu), A.load (ctlAt c tp)) := by
            show (if _ then _ else _) = _
            rw [if_neg hq, if_neg hr, Gu.look_D _ hl]
          rw [e]; exact r14Step3D c g ra cl ep sl tp sn bk fl cm cd A hc hn hs htp hwd hw hf0 hq hr hl
  | n + 4, h => omega

noncomputable def B15 : Code := (Tryz.f15.body).getD .skip

theorem ref14_New (c : Cfg) (cl sl tp ep : Int) (hc : c.Ok) (hcl : 0 ≤ cl ∧ cl < c.clients) (hsl : 0 ≤ sl ∧ sl < c.slots) (htp : 0 ≤ tp ∧ tp < c.topics) :
    Ctr Tryz.prog 15 #[cfgV c, vI cl, vI sl, vI tp, vI ep] [] (fun v L => ∃ (g : Nat), v = vP g ∧ L = [Ed23d1 g c ((newGu c cl sl tp ep).client) sl tp ((newGu c cl sl tp ep).epoch) (((newGu c cl sl tp ep).ph : Nat) : Int) ((newGu c cl sl tp ep).failed) ((newGu c cl sl tp ep).block) ((newGu c cl sl tp ep).commit) ((newGu c cl sl tp ep).seen) ((newGu c cl sl tp ep).code)]) := by
  refine ctr_of (args := [cfgV c, vI cl, vI sl, vI tp, vI ep]) (fn := Tryz.f15) (body := B15) (nt := 53) Tryz.func15 (by kernel_rfl) (by kernel_rfl) ?_
  intro F
  refine go_exec (rs := [.tmp 10]) (by kernel_rfl) 4000 [.e 0, .z [0, 1] 1 [1, 2, 3, 4, 5, 12]] (o := .new fun b_1 => .obl (b_1 = b_1) (.stop [.o [0, 1] 1, .c [1, 1]] [(1, vI cl), (2, vI sl), (3, vI tp), (4, vI ep), (5, vP b_1), (12, cfgV c)] [Ee1539 b_1 c])) (by kernel_rfl) ?_
  refine ok_new fun b_1 => ?_
  refine ok_obl rfl ?_
  refine ok_stop ?_
  refine go_call (some 13) [] Tryz.call59 (ref_right c (by first | assumption | omega | (simp only [InK] at *; omega))) (by kernel_rfl) ?_
  rintro v post ⟨rfl, rfl⟩
  refine go_exec (rs := [.tmp 10]) (by kernel_rfl) 4000 [.sp [20, 18, 19] [.dead] [.e 0, .sp [26, 24, 25] [.dead] [.sp [30, 28, 29] [.dead] [.e 0, .sp [36, 34, 35] [.dead] [.sp [40, 38, 39] [.dead] [.e 0, .sp [45, 44] [.dead] [.e 0]]]]]]] (o := .obl ((decide (cl < 0)) = (decide (cl < 0))) (.obl ((decide (cl < 0)) = (decide (cl < 0))) (.br (decide (cl < 0)) (.bad) (.obl (b_1 = b_1) (.obl ((decide (cl ≥ c.clients)) = (decide (cl ≥ c.clients))) (.obl ((decide (cl ≥ c.clients)) = (decide (cl ≥ c.clients))) (.br (decide (cl ≥ c.clients)) (.bad) (.obl ((decide (sl < 0)) = (decide (sl < 0))) (.obl ((decide (sl < 0)) = (decide (sl < 0))) (.br (decide (sl < 0)) (.bad) (.obl (b_1 = b_1) (.obl ((decide (sl ≥ c.slots)) = (decide (sl ≥ c.slots))) (.obl ((decide (sl ≥ c.slots)) = (decide (sl ≥ c.slots))) (.br (decide (sl ≥ c.slots)) (.bad) (.obl ((decide (tp < 0)) = (decide (tp < 0))) (.obl ((decide (tp < 0)) = (decide (tp < 0))) (.br (decide (tp < 0)) (.bad) (.obl (b_1 = b_1) (.obl ((decide (tp ≥ c.topics)) = (decide (tp ≥ c.topics))) (.br (decide (tp ≥ c.topics)) (.bad) (.obl (b_1 = b_1) (.new fun b_2 => .ret (vP b_2) [Ee1539 b_1 c, Ed23d1 b_2 c cl sl tp ep 1 0 0 0 0 0])))))))))))))))))))))) (by kernel_rfl) ?_
  refine ok_obl rfl ?_
  refine ok_obl rfl ?_
  refine ok_br (fun h => absurd (show (decide (cl < 0)) = false from (by first | (simp; done) | (simp; omega))) (by rw [h]; simp)) (fun _ => ?_)
  refine ok_obl rfl ?_
  refine ok_obl rfl ?_
  refine ok_obl rfl ?_
  refine ok_br (fun h => absurd (show (decide (cl ≥ c.clients)) = false from (by first | (simp; done) | (simp; omega))) (by rw [h]; simp)) (fun _ => ?_)
  refine ok_obl rfl ?_
  refine ok_obl rfl ?_
  refine ok_br (fun h => absurd (show (decide (sl < 0)) = false from (by first | (simp; done) | (simp; omega))) (by rw [h]; simp)) (fun _ => ?_)
  refine ok_obl rfl ?_
  refine ok_obl rfl ?_
  refine ok_obl rfl ?_
  refine ok_br (fun h => absurd (show (decide (sl ≥ c.slots)) = false from (by first | (simp; done) | (simp; omega))) (by rw [h]; simp)) (fun _ => ?_)
  refine ok_obl rfl ?_
  refine ok_obl rfl ?_
  refine ok_br (fun h => absurd (show (decide (tp < 0)) = false from (by first | (simp; done) | (simp; omega))) (by rw [h]; simp)) (fun _ => ?_)
  refine ok_obl rfl ?_
  refine ok_obl rfl ?_
  refine ok_br (fun h => absurd (show (decide (tp ≥ c.topics)) = false from (by first | (simp; done) | (simp; omega))) (by rw [h]; simp)) (fun _ => ?_)
  refine ok_obl rfl ?_
  refine ok_new fun b_2 => ?_
  exact ret_ok (post := [Ed23d1 b_2 c cl sl tp ep 1 0 0 0 0 0]) [1] (by kernel_rfl) ⟨b_2, rfl, (by kernel_rfl)⟩


theorem ref_PackX (c : Cfg) (hc : c.Ok) :
    Ctr Tryz.prog 48 #[cfgV c] [] (Ret (vU (rpackW c)) []) := by
  refine ctr_of (args := [cfgV c]) (fn := Tryz.f48) (body := B48) (nt := 26) Tryz.func48 (by kernel_rfl) (by kernel_rfl) ?_
  intro F
  refine go_exec (rs := [.tmp 2]) (by kernel_rfl) 4000 [.e 0, .z [0, 1] 1 [1, 7]] (o := .new fun b_1 => .obl (b_1 = b_1) (.stop [.o [0, 1] 1, .c [1, 1]] [(1, vP b_1), (7, cfgV c)] [Ee1539 b_1 c])) (by kernel_rfl) ?_
  refine ok_new fun b_1 => ?_
  refine ok_obl rfl ?_
  refine ok_stop ?_
  refine go_call (some 8) [] Tryz.call59 (ref_right c (by first | assumption | omega | (simp only [InK] at *; omega))) (by kernel_rfl) ?_
  rintro v post ⟨rfl, rfl⟩
  refine go_exec (rs := [.tmp 2]) (by kernel_rfl) 4000 [.e 0, .z [0, 1, 1, 1] 1 [11]] (o := .obl (b_1 = b_1) (.stop [.o [0, 1, 1, 1] 1, .c [1, 1, 1, 1]] [(11, cfgV c)] [Ee1539 b_1 c])) (by kernel_rfl) ?_
  refine ok_obl rfl ?_
  refine ok_stop ?_
  refine go_call (some 12) [] Tryz.call87 (ref_Parts c) (by kernel_rfl) ?_
  rintro v post ⟨b_2, rfl, rfl⟩
  refine go_exec (rs := [.tmp 2]) (by kernel_rfl) 4000 [.u, .w, .w, .e 1, .n, .n, .w, .u, .n, .w, .e 1, .n, .n, .w, .u, .n, .w, .e 1, .n, .n, .w, .u, .n, .w, .e 1, .n, .n, .w, .u, .n, .w, .e 1, .n, .n, .w, .u, .n, .w, .e 1, .n, .n, .w, .u, .n, .w, .e 1, .n, .n, .w, .u, .n, .w, .e 1, .n, .n, .w, .u, .n, .w, .e 1, .n, .n, .w, .u] (o := .obl (b_2 = b_2) (.obl (InK .u64 c.n1) (.obl (InK .u64 (0 + c.n1)) (.obl (InK .u64 ((0 + c.n1) * 128)) (.obl (b_2 = b_2) (.obl (InK .u64 c.s1) (.obl (InK .u64 (((0 + c.n1) * 128) + c.s1)) (.obl (InK .u64 ((((0 + c.n1) * 128) + c.s1) * 128)) (.obl (b_2 = b_2) (.obl (InK .u64 c.n0) (.obl (InK .u64 (((((0 + c.n1) * 128) + c.s1) * 128) + c.n0)) (.obl (InK .u64 ((((((0 + c.n1) * 128) + c.s1) * 128) + c.n0) * 128)) (.obl (b_2 = b_2) (.obl (InK .u64 c.s0) (.obl (InK .u64 (((((((0 + c.n1) * 128) + c.s1) * 128) + c.n0) * 128) + c.s0)) (.obl (InK .u64 ((((((((0 + c.n1) * 128) + c.s1) * 128) + c.n0) * 128) + c.s0) * 128)) (.obl (b_2 = b_2) (.obl (InK .u64 c.retry) (.obl (InK .u64 (((((((((0 + c.n1) * 128) + c.s1) * 128) + c.n0) * 128) + c.s0) * 128) + c.retry)) (.obl (InK .u64 ((((((((((0 + c.n1) * 128) + c.s1) * 128) + c.n0) * 128) + c.s0) * 128) + c.retry) * 128)) (.obl (b_2 = b_2) (.obl (InK .u64 c.clients) (.obl (InK .u64 (((((((((((0 + c.n1) * 128) + c.s1) * 128) + c.n0) * 128) + c.s0) * 128) + c.retry) * 128) + c.clients)) (.obl (InK .u64 ((((((((((((0 + c.n1) * 128) + c.s1) * 128) + c.n0) * 128) + c.s0) * 128) + c.retry) * 128) + c.clients) * 128)) (.obl (b_2 = b_2) (.obl (InK .u64 c.slots) (.obl (InK .u64 (((((((((((((0 + c.n1) * 128) + c.s1) * 128) + c.n0) * 128) + c.s0) * 128) + c.retry) * 128) + c.clients) * 128) + c.slots)) (.obl (InK .u64 ((((((((((((((0 + c.n1) * 128) + c.s1) * 128) + c.n0) * 128) + c.s0) * 128) + c.retry) * 128) + c.clients) * 128) + c.slots) * 128)) (.obl (b_2 = b_2) (.obl (InK .u64 c.small) (.obl (InK .u64 (((((((((((((((0 + c.n1) * 128) + c.s1) * 128) + c.n0) * 128) + c.s0) * 128) + c.retry) * 128) + c.clients) * 128) + c.slots) * 128) + c.small)) (.obl (InK .u64 ((((((((((((((((0 + c.n1) * 128) + c.s1) * 128) + c.n0) * 128) + c.s0) * 128) + c.retry) * 128) + c.clients) * 128) + c.slots) * 128) + c.small) * 128)) (.obl (b_2 = b_2) (.obl (InK .u64 c.topics) (.obl (InK .u64 (((((((((((((((((0 + c.n1) * 128) + c.s1) * 128) + c.n0) * 128) + c.s0) * 128) + c.retry) * 128) + c.clients) * 128) + c.slots) * 128) + c.small) * 128) + c.topics)) (.ret (vU (((((((((((((((((0 + c.n1) * 128) + c.s1) * 128) + c.n0) * 128) + c.s0) * 128) + c.retry) * 128) + c.clients) * 128) + c.slots) * 128) + c.small) * 128) + c.topics)) [Ee1539 b_1 c, E854a5 b_2 c])))))))))))))))))))))))))))))))))))) (by kernel_rfl) ?_
  refine ok_obl rfl ?_
  refine ok_obl (by simp only [Cfg.Ok, InK] at *; omega) ?_
  refine ok_obl (by simp only [Cfg.Ok, InK] at *; omega) ?_
  refine ok_obl (by simp only [Cfg.Ok, InK] at *; omega) ?_
  refine ok_obl rfl ?_
  refine ok_obl (by simp only [Cfg.Ok, InK] at *; omega) ?_
  refine ok_obl (by simp only [Cfg.Ok, InK] at *; omega) ?_
  refine ok_obl (by simp only [Cfg.Ok, InK] at *; omega) ?_
  refine ok_obl rfl ?_
  refine ok_obl (by simp only [Cfg.Ok, InK] at *; omega) ?_
  refine ok_obl (by simp only [Cfg.Ok, InK] at *; omega) ?_
  refine ok_obl (by simp only [Cfg.Ok, InK] at *; omega) ?_
  refine ok_obl rfl ?_
  refine ok_obl (by simp only [Cfg.Ok, InK] at *; omega) ?_
  refine ok_obl (by simp only [Cfg.Ok, InK] at *; omega) ?_
  refine ok_obl (by simp only [Cfg.Ok, InK] at *; omega) ?_
  refine ok_obl rfl ?_
  refine ok_obl (by simp only [Cfg.Ok, InK] at *; omega) ?_
  refine ok_obl (by simp only [Cfg.Ok, InK] at *; omega) ?_
  refine ok_obl (by simp only [Cfg.Ok, InK] at *; omega) ?_
  refine ok_obl rfl ?_
  refine ok_obl (by simp only [Cfg.Ok, InK] at *; omega) ?_
  refine ok_obl (by simp only [Cfg.Ok, InK] at *; omega) ?_
  refine ok_obl (by simp only [Cfg.Ok, InK] at *; omega) ?_
  refine ok_obl rfl ?_
  refine ok_obl (by simp only [Cfg.Ok, InK] at *; omega) ?_
  refine ok_obl (by simp only [Cfg.Ok, InK] at *; omega) ?_
  refine ok_obl (by simp only [Cfg.Ok, InK] at *; omega) ?_
  refine ok_obl rfl ?_
  refine ok_obl (by simp only [Cfg.Ok, InK] at *; omega) ?_
  refine ok_obl (by simp only [Cfg.Ok, InK] at *; omega) ?_
  refine ok_obl (by simp only [Cfg.Ok, InK] at *; omega) ?_
  refine ok_obl rfl ?_
  refine ok_obl (by simp only [Cfg.Ok, InK] at *; omega) ?_
  refine ok_obl (by simp only [Cfg.Ok, InK] at *; omega) ?_
  exact ret_ok (post := []) [] (by kernel_rfl) ⟨rfl, (by kernel_rfl)⟩


theorem ref_MakeX (c : Cfg) (hc : c.Ok) :
    Ctr Tryz.prog 8 #[cfgV c] [] (fun v L => ∃ (ra : Nat) (aw : Option Addr) (cw : Nat), v = vP ra ∧ L = [E3ba87 ra (rmAr c (rpackW c) aw cw) false 0, E671ef (rmAr c (rpackW c) aw cw)]) := by
  refine ctr_of (args := [cfgV c]) (fn := Tryz.f8) (body := B8) (nt := 109) Tryz.func8 (by kernel_rfl) (by kernel_rfl) ?_
  intro F
  refine go_exec (rs := [.tmp 2]) (by kernel_rfl) 4000 [.e 0, .z [0, 1] 1 [1, 6]] (o := .new fun b_1 => .obl (b_1 = b_1) (.stop [.o [0, 1] 1, .c [1, 1]] [(1, vP b_1), (6, cfgV c)] [Ee1539 b_1 c])) (by kernel_rfl) ?_
  refine ok_new fun b_1 => ?_
  refine ok_obl rfl ?_
  refine ok_stop ?_
  refine go_call (some 7) [] Tryz.call47 (ref_Size c (by first | assumption | omega | (simp only [InK] at *; omega))) (by kernel_rfl) ?_
  rintro v post ⟨rfl, rfl⟩
  refine go_call (some 8) [] Tryz.call46 (ref_New (sizeOfC c) (by have := sizeOfC_ok hc; omega)) (by kernel_rfl) ?_
  rintro v post ⟨ra_2, aw_3, cw_4, rfl, rfl⟩
  refine go_exec (rs := [.tmp 2]) (by kernel_rfl) 4000 [.e 1, .s 2, .j 2 0, .z [0, 1, 1, 1] 0 [1, 3]] (o := .obl (ra_2 = ra_2) (.obl (aw_3 = aw_3 ∧ (List.replicate (sizeOfC c).toNat (0 : Int)).length = (List.replicate (sizeOfC c).toNat (0 : Int)).length) (.obl ((0 : Int) ≤ 0 ∧ 0 < (((List.replicate (sizeOfC c).toNat (0 : Int)).length : Nat) : Int)) (.obl (slAt aw_3 0 1 = slAt aw_3 0 1) (.obl (0 < (List.replicate (sizeOfC c).toNat (0 : Int)).length) (.ex fun x_5 : Int => .obl ([vU 7597137583116413295] = (encI .u64) x_5) (.stop [.c [0, 1, 1, 1], .c [1, 1, 1, 1]] [(1, vP b_1), (3, vP ra_2)] [Ee1539 b_1 c, Ea7ba4 ra_2 aw_3 ((List.replicate (sizeOfC c).toNat (0 : Int)).length) cw_4 0 0 0 0 false false 0, E7a681 aw_3 cw_4 ((List.replicate (sizeOfC c).toNat (0 : Int)).set 0 x_5)]))))))) (by kernel_rfl) ?_
  refine ok_obl rfl ?_
  refine ok_obl ⟨rfl, (by first | rfl | omega | (simp; done) | (simp; omega))⟩ ?_
  refine ok_obl (by have := sizeOfC_ok hc; first | omega | (simp; omega) | (have hq := blockAt_ok hc (clsOf_pos (c := c) (b := i1.1) (by omega)); first | omega | (simp; omega))) ?_
  refine ok_obl rfl ?_
  refine ok_obl (by have := sizeOfC_ok hc; first | omega | (simp; omega) | (have hq := blockAt_ok hc (clsOf_pos (c := c) (b := i1.1) (by omega)); first | omega | (simp; omega))) ?_
  refine ok_ex (7597137583116413295 : Int) ?_
  refine ok_obl rfl ?_
  refine ok_stop ?_
  refine go_tail_op (so := .obl (slAt aw_3 1 1 = slAt aw_3 1 1) (.obl (1 < ((List.replicate (sizeOfC c).toNat (0 : Int)).set 0 7597137583116413295).length) (.ex fun x_6 : Int => .obl ([vU (rpackW c)] = (encI .u64) x_6) (.ok .skip [Ee1539 b_1 c, Ea7ba4 ra_2 aw_3 ((List.replicate (sizeOfC c).toNat (0 : Int)).length) cw_4 0 0 0 0 false false 0, E7a681 aw_3 cw_4 (((List.replicate (sizeOfC c).toNat (0 : Int)).set 0 7597137583116413295).set 1 x_6)])))) (dst := none) (ps := [ra_2 = ra_2, b_1 = b_1, aw_3 = aw_3 ∧ (List.replicate (sizeOfC c).toNat (0 : Int)).length = ((List.replicate (sizeOfC c).toNat (0 : Int)).set 0 7597137583116413295).length, (0 : Int) ≤ 1 ∧ 1 < ((((List.replicate (sizeOfC c).toNat (0 : Int)).set 0 7597137583116413295).length : Nat) : Int)]) (cs := [(48, #[cfgV c], vU (rpackW c))]) [(0, .h .w), (1, .h .w), (2, .h .w), (3, .h (.e 1)), (4, .h (.e 0)), (5, .q (vU (rpackW c))), (6, .h (.s 2))] 7 [] (.j 2 1) [1, 3] (by kernel_rfl) (by kernel_rfl) ⟨rfl, rfl, ⟨rfl, (by first | rfl | omega | (simp; done) | (simp; omega))⟩, (by have := sizeOfC_ok hc; first | omega | (simp; omega) | (have hq := blockAt_ok hc (clsOf_pos (c := c) (b := i1.1) (by omega)); first | omega | (simp; omega))), trivial⟩ ⟨⟨Tryz.call48, quiet_of [] (ref_PackX c (by first | assumption | omega | (simp only [InK] at *; omega))) (by kernel_rfl) (by rintro v post ⟨rfl, rfl⟩; exact ⟨rfl, rfl⟩)⟩, trivial⟩ ?_
  refine sat_obl rfl ?_
  refine sat_obl (by have := sizeOfC_ok hc; first | omega | (simp; omega) | (have hq := blockAt_ok hc (clsOf_pos (c := c) (b := i1.1) (by omega)); first | omega | (simp; omega))) ?_
  refine sat_ex ((rpackW c) : Int) ?_
  refine sat_obl rfl ?_
  refine sat_skip ?_
  refine tail_next (tm' := [(1, vP b_1), (3, vP ra_2)]) (ps2 := []) (by kernel_rfl) trivial ?_
  refine go_exec (rs := [.tmp 2]) (by kernel_rfl) 4000 [.w, .e 0, .sp [25] [.e 1, .s 2, .j 2 3, .w, .e 0, .sp [35] [.z [0, 1, 0, 1, 1, 1, 1, 1] 0 [1, 3]] [.z [0, 1, 0, 1, 1, 1, 1, 1, 1] 0 [1, 3, 4]]] [.w, .e 0, .sp [35] [.z [0, 1, 0, 1, 1, 1, 1, 1] 0 [1, 3]] [.z [0, 1, 0, 1, 1, 1, 1, 1, 1] 0 [1, 3, 4]]]] (o := .obl (b_1 = b_1) (.br (decide (c.n0 > 0)) (.obl (ra_2 = ra_2) (.obl (aw_3 = aw_3 ∧ (List.replicate (sizeOfC c).toNat (0 : Int)).length = (((List.replicate (sizeOfC c).toNat (0 : Int)).set 0 7597137583116413295).set 1 (rpackW c)).length) (.obl ((0 : Int) ≤ 3 ∧ 3 < (((((List.replicate (sizeOfC c).toNat (0 : Int)).set 0 7597137583116413295).set 1 (rpackW c)).length : Nat) : Int)) (.obl (slAt aw_3 3 1 = slAt aw_3 3 1) (.obl (3 < (((List.replicate (sizeOfC c).toNat (0 : Int)).set 0 7597137583116413295).set 1 (rpackW c)).length) (.ex fun x_7 : Int => .obl ([vU 1] = (encI .u64) x_7) (.obl (b_1 = b_1) (.br (decide (c.n1 > 0)) (.stop [.c [0, 1, 0, 1, 1, 1, 1, 1], .c [1, 1, 1, 1, 1, 1]] [(1, vP b_1), (3, vP ra_2)] [Ee1539 b_1 c, Ea7ba4 ra_2 aw_3 ((List.replicate (sizeOfC c).toNat (0 : Int)).length) cw_4 0 0 0 0 false false 0, E7a681 aw_3 cw_4 ((((List.replicate (sizeOfC c).toNat (0 : Int)).set 0 7597137583116413295).set 1 (rpackW c)).set 3 x_7)]) (.stop [.c [0, 1, 0, 1, 1, 1, 1, 1, 1], .b 0, .c [1, 1, 1, 1, 1, 1, 1]] [(1, vP b_1), (3, vP ra_2), (4, vI 1)] [Ee1539 b_1 c, Ea7ba4 ra_2 aw_3 ((List.replicate (sizeOfC c).toNat (0 : Int)).length) cw_4 0 0 0 0 false false 0, E7a681 aw_3 cw_4 ((((List.replicate (sizeOfC c).toNat (0 : Int)).set 0 7597137583116413295).set 1 (rpackW c)).set 3 x_7)]))))))))) (.obl (b_1 = b_1) (.br (decide (c.n1 > 0)) (.stop [.c [0, 1, 0, 1, 1, 1, 1, 1], .c [1, 1, 1, 1, 1, 1]] [(1, vP b_1), (3, vP ra_2)] [Ee1539 b_1 c, Ea7ba4 ra_2 aw_3 ((List.replicate (sizeOfC c).toNat (0 : Int)).length) cw_4 0 0 0 0 false false 0, E7a681 aw_3 cw_4 (((List.replicate (sizeOfC c).toNat (0 : Int)).set 0 7597137583116413295).set 1 (rpackW c))]) (.stop [.c [0, 1, 0, 1, 1, 1, 1, 1, 1], .b 0, .c [1, 1, 1, 1, 1, 1, 1]] [(1, vP b_1), (3, vP ra_2), (4, vI 1)] [Ee1539 b_1 c, Ea7ba4 ra_2 aw_3 ((List.replicate (sizeOfC c).toNat (0 : Int)).length) cw_4 0 0 0 0 false false 0, E7a681 aw_3 cw_4 (((List.replicate (sizeOfC c).toNat (0 : Int)).set 0 7597137583116413295).set 1 (rpackW c))]))))) (by kernel_rfl) ?_
  refine ok_obl rfl ?_
  refine ok_br (fun h_8 => ?_) (fun h_8 => ?_)
  · replace h_8 := decT h_8
    refine ok_obl rfl ?_
    refine ok_obl ⟨rfl, (by first | rfl | omega | (simp; done) | (simp; omega))⟩ ?_
    refine ok_obl (by have := sizeOfC_ok hc; first | omega | (simp; omega) | (have hq := blockAt_ok hc (clsOf_pos (c := c) (b := i1.1) (by omega)); first | omega | (simp; omega))) ?_
    refine ok_obl rfl ?_
    refine ok_obl (by have := sizeOfC_ok hc; first | omega | (simp; omega) | (have hq := blockAt_ok hc (clsOf_pos (c := c) (b := i1.1) (by omega)); first | omega | (simp; omega))) ?_
    refine ok_ex (1 : Int) ?_
    refine ok_obl rfl ?_
    refine ok_obl rfl ?_
    refine ok_br (fun h_9 => ?_) (fun h_9 => ?_)
    · replace h_9 := decT h_9
      refine ok_stop ?_
      refine go_tail_op (so := .obl (slAt aw_3 4 1 = slAt aw_3 4 1) (.obl (4 < ((((List.replicate (sizeOfC c).toNat (0 : Int)).set 0 7597137583116413295).set 1 (rpackW c)).set 3 1).length) (.ex fun x_10 : Int => .obl ([vU (c.n0 + 1)] = (encI .u64) x_10) (.ok .skip [Ee1539 b_1 c, Ea7ba4 ra_2 aw_3 ((List.replicate (sizeOfC c).toNat (0 : Int)).length) cw_4 0 0 0 0 false false 0, E7a681 aw_3 cw_4 (((((List.replicate (sizeOfC c).toNat (0 : Int)).set 0 7597137583116413295).set 1 (rpackW c)).set 3 1).set 4 x_10)])))) (dst := none) (ps := [ra_2 = ra_2, b_1 = b_1, InK .i64 (c.n0 + 1), InK .u64 (c.n0 + 1), aw_3 = aw_3 ∧ (List.replicate (sizeOfC c).toNat (0 : Int)).length = ((((List.replicate (sizeOfC c).toNat (0 : Int)).set 0 7597137583116413295).set 1 (rpackW c)).set 3 1).length, (0 : Int) ≤ 4 ∧ 4 < ((((((List.replicate (sizeOfC c).toNat (0 : Int)).set 0 7597137583116413295).set 1 (rpackW c)).set 3 1).length : Nat) : Int)]) (cs := []) [(0, .h .w), (1, .h .w), (2, .h .w), (3, .h (.e 1)), (4, .h .w), (5, .h (.w)), (6, .h .w), (7, .h (.e 0)), (8, .h (.n)), (9, .h (.n)), (10, .h (.s 2))] 11 [] (.j 2 4) [1, 3] (by kernel_rfl) (by kernel_rfl) ⟨rfl, rfl, (by have hsz := sizeOfC_ok hc; simp only [Cfg.Ok, InK] at *; first | done | omega), (by have hsz := sizeOfC_ok hc; simp only [Cfg.Ok, InK] at *; first | done | omega), ⟨rfl, (by first | rfl | omega | (simp; done) | (simp; omega))⟩, (by have := sizeOfC_ok hc; first | omega | (simp; omega) | (have hq := blockAt_ok hc (clsOf_pos (c := c) (b := i1.1) (by omega)); first | omega | (simp; omega))), trivial⟩ trivial ?_
      refine sat_obl rfl ?_
      refine sat_obl (by have := sizeOfC_ok hc; first | omega | (simp; omega) | (have hq := blockAt_ok hc (clsOf_pos (c := c) (b := i1.1) (by omega)); first | omega | (simp; omega))) ?_
      refine sat_ex ((c.n0 + 1) : Int) ?_
      refine sat_obl rfl ?_
      refine sat_skip ?_
      refine tail_next (tm' := [(1, vP b_1), (3, vP ra_2)]) (ps2 := []) (by kernel_rfl) trivial ?_
      refine go_exec (rs := [.tmp 2]) (by kernel_rfl) 4000 [.z [0, 1, 0, 1, 1, 1, 1, 1, 1] 0 [1, 3, 4]] (o := .stop [.c [0, 1, 0, 1, 1, 1, 1, 1, 1], .b 0, .c [1, 1, 1, 1, 1, 1, 1]] [(1, vP b_1), (3, vP ra_2), (4, vI 1)] [Ee1539 b_1 c, Ea7ba4 ra_2 aw_3 ((List.replicate (sizeOfC c).toNat (0 : Int)).length) cw_4 0 0 0 0 false false 0, E7a681 aw_3 cw_4 (((((List.replicate (sizeOfC c).toNat (0 : Int)).set 0 7597137583116413295).set 1 (rpackW c)).set 3 1).set 4 (c.n0 + 1))]) (by kernel_rfl) ?_
      refine ok_stop ?_
      refine go_loop (ι := Int × List Int) (fun i1 => [(1, vP b_1), (3, vP ra_2), (4, vI i1.1)]) (fun i1 => [Ee1539 b_1 c, Ea7ba4 ra_2 aw_3 ((List.replicate (sizeOfC c).toNat (0 : Int)).length) cw_4 0 0 0 0 false false 0, E7a681 aw_3 cw_4 i1.2]) (fun i1 => rmLink c (c.n0 + c.n1 - i1.1).toNat i1.1 i1.2 = rmLink c (c.n0 + c.n1 - 1).toNat 1 (rmHead c (rpackW c)) ∧ 1 ≤ i1.1 ∧ i1.2.length = (List.replicate (sizeOfC c).toNat (0 : Int)).length) (fun i1 => (c.n0 + c.n1 - i1.1).toNat) (1, ((((List.replicate (sizeOfC c).toNat (0 : Int)).set 0 7597137583116413295).set 1 (rpackW c)).set 3 1).set 4 (c.n0 + 1)) [1, 3, 4] [0, 1, 2] (by kernel_rfl) (by kernel_rfl) (by kernel_rfl) (by kernel_rfl) ⟨(by dsimp only; congr 1; unfold rmHead; dsimp only; (repeat' split) <;> first | rfl | (exfalso; omega)), (by dsimp only; omega), (by simp)⟩ ?_
      intro i1 J_11 hIJ_11 hJ_11
      have hx1 := hIJ_11
      have hlen1 := hx1.2.2
      have hN1 : (((List.replicate (sizeOfC c).toNat (0 : Int)).length : Nat) : Int) = sizeOfC c := by have := sizeOfC_ok hc; rw [List.length_replicate]; omega
      refine go_exec (rs := [.tmp 2]) (by kernel_rfl) 4000 [.e 0, .z [0, 0, 0, 0, 1, 0, 1, 1, 1, 1, 1, 1] 2 [1, 3, 4, 47, 48]] (o := .obl (b_1 = b_1) (.stop [.o [0, 0, 0, 0, 1, 0, 1, 1, 1, 1, 1, 1] 2, .c [1, 0, 0, 0, 1, 0, 1, 1, 1, 1, 1, 1], .c [1, 0, 0, 1, 0, 1, 1, 1, 1, 1, 1], .j J_11, .b 0, .c [1, 1, 1, 1, 1, 1, 1]] [(1, vP b_1), (3, vP ra_2), (4, vI i1.1), (47, vI i1.1), (48, cfgV c)] [Ee1539 b_1 c, Ea7ba4 ra_2 aw_3 ((List.replicate (sizeOfC c).toNat (0 : Int)).length) cw_4 0 0 0 0 false false 0, E7a681 aw_3 cw_4 i1.2])) (by kernel_rfl) ?_
      refine ok_obl rfl ?_
      refine ok_stop ?_
      refine go_call (some 49) [] Tryz.call49 (ref_Blocks c (by first | assumption | omega | (simp only [InK] at *; omega))) (by kernel_rfl) ?_
      rintro v post ⟨rfl, rfl⟩
      refine go_exec (rs := [.tmp 2]) (by kernel_rfl) 4000 [.sp [50] [.z [0, 0, 0, 1, 0, 0, 1, 0, 1, 1, 1, 1, 1, 1] 0 [1, 3, 4]] [.z [0, 1, 0, 1, 1, 1, 1, 1, 1, 1] 0 [3, 5]]] (o := .br (decide (i1.1 < (c.n0 + c.n1))) (.stop [.c [0, 0, 0, 1, 0, 0, 1, 0, 1, 1, 1, 1, 1, 1], .c [1, 0, 0, 1, 0, 0, 1, 0, 1, 1, 1, 1, 1, 1], .b 1, .c [1, 1, 0, 0, 1, 0, 1, 1, 1, 1, 1, 1], .j J_11, .b 0, .c [1, 1, 1, 1, 1, 1, 1]] [(1, vP b_1), (3, vP ra_2), (4, vI i1.1)] [Ee1539 b_1 c, Ea7ba4 ra_2 aw_3 ((List.replicate (sizeOfC c).toNat (0 : Int)).length) cw_4 0 0 0 0 false false 0, E7a681 aw_3 cw_4 i1.2]) (.stop [.c [0, 1, 0, 1, 1, 1, 1, 1, 1, 1], .b 2, .c [1, 1, 1, 1, 1, 1, 1, 1]] [(3, vP ra_2), (5, vI 0)] [Ee1539 b_1 c, Ea7ba4 ra_2 aw_3 ((List.replicate (sizeOfC c).toNat (0 : Int)).length) cw_4 0 0 0 0 false false 0, E7a681 aw_3 cw_4 i1.2])) (by kernel_rfl) ?_
      refine ok_br (fun h_12 => ?_) (fun h_12 => ?_)
      · replace h_12 := decT h_12
        refine ok_stop ?_
        refine go_quiet (tm' := [(1, vP b_1), (3, vP ra_2), (4, vI i1.1), (60, .bool ((clsOf c i1.1) == (clsOf c (i1.1 + 1))))]) (ps := [b_1 = b_1, b_1 = b_1, InK .i64 (i1.1 + 1)]) (cs := [(50, #[cfgV c, vI i1.1], vI (clsOf c i1.1)), (50, #[cfgV c, vI (i1.1 + 1)], vI (clsOf c (i1.1 + 1)))]) [(0, .h (.e 0)), (1, .h .w), (2, .q (vI (clsOf c i1.1))), (3, .h (.e 0)), (4, .h .w), (5, .h (.n)), (6, .q (vI (clsOf c (i1.1 + 1)))), (7, .h .w)] [1, 3, 4, 60] (by kernel_rfl) (by kernel_rfl) ⟨rfl, rfl, (by have hsz := sizeOfC_ok hc; simp only [Cfg.Ok, InK] at *; first | done | omega), trivial⟩ ⟨⟨Tryz.call50, quiet_of [] (ref_Class c i1.1 (by first | assumption | omega | (simp only [InK] at *; omega))) (by kernel_rfl) (by rintro v post ⟨rfl, rfl⟩; exact ⟨rfl, rfl⟩)⟩, ⟨Tryz.call50, quiet_of [] (ref_Class c (i1.1 + 1) (by first | assumption | omega | (simp only [InK] at *; omega))) (by kernel_rfl) (by rintro v post ⟨rfl, rfl⟩; exact ⟨rfl, rfl⟩)⟩, trivial⟩ ?_
        refine go_exec (rs := [.tmp 2]) (by kernel_rfl) 4000 [.sp [60] [.z [0, 1, 0, 0, 1, 0, 0, 1, 0, 1, 1, 1, 1, 1, 1] 0 [1, 3, 4]] [.n, .z [] 0 [1, 3, 4]]] (o := .br ((clsOf c i1.1) == (clsOf c (i1.1 + 1))) (.stop [.c [0, 1, 0, 0, 1, 0, 0, 1, 0, 1, 1, 1, 1, 1, 1], .b 1, .c [1, 1, 0, 0, 1, 0, 1, 1, 1, 1, 1, 1], .j J_11, .b 0, .c [1, 1, 1, 1, 1, 1, 1]] [(1, vP b_1), (3, vP ra_2), (4, vI i1.1)] [Ee1539 b_1 c, Ea7ba4 ra_2 aw_3 ((List.replicate (sizeOfC c).toNat (0 : Int)).length) cw_4 0 0 0 0 false false 0, E7a681 aw_3 cw_4 i1.2]) (.obl (InK .i64 (i1.1 + 1)) (.stop [.j J_11, .b 0, .c [1, 1, 1, 1, 1, 1, 1]] [(1, vP b_1), (3, vP ra_2), (4, vI (i1.1 + 1))] [Ee1539 b_1 c, Ea7ba4 ra_2 aw_3 ((List.replicate (sizeOfC c).toNat (0 : Int)).length) cw_4 0 0 0 0 false false 0, E7a681 aw_3 cw_4 i1.2]))) (by kernel_rfl) ?_
        refine ok_br (fun h_13 => ?_) (fun h_13 => ?_)
        · replace h_13 := beqT h_13
          refine ok_stop ?_
          refine go_tail_op (so := .obl (slAt aw_3 ((blockAt c i1.1).toNat) 1 = slAt aw_3 ((blockAt c i1.1).toNat) 1) (.obl ((blockAt c i1.1).toNat < i1.2.length) (.ex fun x_14 : Int => .obl ([vU (i1.1 + 1)] = (encI .u64) x_14) (.ok .skip [Ee1539 b_1 c, Ea7ba4 ra_2 aw_3 ((List.replicate (sizeOfC c).toNat (0 : Int)).length) cw_4 0 0 0 0 false false 0, E7a681 aw_3 cw_4 (i1.2.set ((blockAt c i1.1).toNat) x_14)])))) (dst := none) (ps := [ra_2 = ra_2, b_1 = b_1, InK .i64 (i1.1 + 1), InK .u64 (i1.1 + 1), aw_3 = aw_3 ∧ (List.replicate (sizeOfC c).toNat (0 : Int)).length = i1.2.length, (0 : Int) ≤ (blockAt c i1.1) ∧ (blockAt c i1.1) < ((i1.2.length : Nat) : Int)]) (cs := [(51, #[cfgV c, vI i1.1], vI (blockAt c i1.1))]) [(0, .h .w), (1, .h .w), (2, .h .w), (3, .h (.e 1)), (4, .h (.e 0)), (5, .h .w), (6, .q (vI (blockAt c i1.1))), (7, .h .w), (8, .h (.n)), (9, .h (.n)), (10, .h (.s 2))] 11 [] (.j 2 ((blockAt c i1.1).toNat)) [1, 3, 4] (by kernel_rfl) (by kernel_rfl) ⟨rfl, rfl, (by have hsz := sizeOfC_ok hc; simp only [Cfg.Ok, InK] at *; first | done | omega), (by have hsz := sizeOfC_ok hc; simp only [Cfg.Ok, InK] at *; first | done | omega), ⟨rfl, (by first | rfl | omega | (simp; done) | (simp; omega))⟩, (by have := sizeOfC_ok hc; first | omega | (simp; omega) | (have hq := blockAt_ok hc (clsOf_pos (c := c) (b := i1.1) (by omega)); first | omega | (simp; omega))), trivial⟩ ⟨⟨Tryz.call51, quiet_of [] (ref_Block c i1.1 (by first | assumption | omega | (simp only [InK] at *; omega)) (by omega)) (by kernel_rfl) (by rintro v post ⟨rfl, rfl⟩; exact ⟨rfl, rfl⟩)⟩, trivial⟩ ?_
          refine sat_obl rfl ?_
          refine sat_obl (by have := sizeOfC_ok hc; first | omega | (simp; omega) | (have hq := blockAt_ok hc (clsOf_pos (c := c) (b := i1.1) (by omega)); first | omega | (simp; omega))) ?_
          refine sat_ex ((i1.1 + 1) : Int) ?_
          refine sat_obl rfl ?_
          refine sat_skip ?_
          refine tail_next (tm' := [(1, vP b_1), (3, vP ra_2), (4, vI i1.1)]) (ps2 := []) (by kernel_rfl) trivial ?_
          refine go_exec (rs := [.tmp 2]) (by kernel_rfl) 4000 [.n, .z [] 0 [1, 3, 4]] (o := .obl (InK .i64 (i1.1 + 1)) (.stop [.j J_11, .b 0, .c [1, 1, 1, 1, 1, 1, 1]] [(1, vP b_1), (3, vP ra_2), (4, vI (i1.1 + 1))] [Ee1539 b_1 c, Ea7ba4 ra_2 aw_3 ((List.replicate (sizeOfC c).toNat (0 : Int)).length) cw_4 0 0 0 0 false false 0, E7a681 aw_3 cw_4 (i1.2.set ((blockAt c i1.1).toNat) (i1.1 + 1))])) (by kernel_rfl) ?_
          refine ok_obl (by have hsz := sizeOfC_ok hc; simp only [Cfg.Ok, InK] at *; first | done | omega) ?_
          refine ok_stop ?_
          exact go_back hJ_11 ((i1.1 + 1), i1.2.set ((blockAt c i1.1).toNat) (i1.1 + 1)) [0, 1, 2] (by kernel_rfl) (by kernel_rfl) (by kernel_rfl) ⟨(by dsimp only; rw [← hx1.1, rmLink_next (c := c) (b := i1.1) (W := i1.2) (by omega), if_pos (by assumption)]), (by dsimp only; omega), (by dsimp only; first | exact hx1.2.2 | (rw [List.length_set]; exact hx1.2.2))⟩ (by dsimp only; omega)
        · replace h_13 := beqF h_13
          refine ok_obl (by have hsz := sizeOfC_ok hc; simp only [Cfg.Ok, InK] at *; first | done | omega) ?_
          refine ok_stop ?_
          exact go_back hJ_11 ((i1.1 + 1), i1.2) [0, 1, 2] (by kernel_rfl) (by kernel_rfl) (by kernel_rfl) ⟨(by dsimp only; rw [← hx1.1, rmLink_next (c := c) (b := i1.1) (W := i1.2) (by omega), if_neg (by assumption)]), (by dsimp only; omega), (by dsimp only; first | exact hx1.2.2 | (rw [List.length_set]; exact hx1.2.2))⟩ (by dsimp only; omega)
      · replace h_12 := decF h_12
        refine ok_stop ?_
        refine go_loop (ι := Int × Ar) (fun i2 => [(3, vP ra_2), (5, vI i2.1)]) (fun i2 => [E3ba87 ra_2 i2.2 false 0, E671ef i2.2]) (fun i2 => rmCnt (sizeOfC c - i2.1).toNat i2.1 i2.2 = rmAr c (rpackW c) aw_3 cw_4 ∧ (0 ≤ i2.1 ∧ i2.1 ≤ sizeOfC c) ∧ i2.2.ws.length = i2.2.n ∧ (i2.2.n : Int) = sizeOfC c ∧ (0 ≤ i2.2.steps ∧ i2.2.steps ≤ i2.1)) (fun i2 => (sizeOfC c - i2.1).toNat) (0, (⟨aw_3, cw_4, (List.replicate (sizeOfC c).toNat (0 : Int)).length, i1.2, 0, 0, 0, 0, false⟩ : Ar)) [3, 5] [1, 2] (by kernel_rfl) (by kernel_rfl) (by kernel_rfl) (by kernel_rfl) ⟨(by dsimp only; unfold rmAr; rw [← hx1.1, rmLink_end (c := c) (b := i1.1) (W := i1.2) (by omega), Int.sub_zero]), (by have := sizeOfC_ok hc; dsimp only; omega), hlen1, hN1, (by dsimp only; omega)⟩ ?_
        intro i2 J_15 hIJ_15 hJ_15
        have hx2 := hIJ_15
        have hn2 := hx2.2.2.1
        have hz2 := hx2.2.2.2.1
        have hs2 := hx2.2.2.2.2
        refine go_exec (rs := [.tmp 2]) (by kernel_rfl) 4000 [.e 0, .sp [78] [.e 0, .s 1, .j 1 i2.1.toNat, .sp [88] [.e 0, .n, .e 0, .e 0, .s 1, .j 1 i2.1.toNat, .e 0, .n, .z [] 0 [3, 5]] [.n, .z [] 0 [3, 5]]] []] (o := .obl (ra_2 = ra_2) (.br (decide (i2.1 < ((i2.2.n : Nat) : Int))) (.obl (ra_2 = ra_2) (.obl (i2.2.aw = i2.2.aw ∧ i2.2.n = i2.2.ws.length) (.obl ((0 : Int) ≤ i2.1 ∧ i2.1 < ((i2.2.ws.length : Nat) : Int)) (.obl (slAt i2.2.aw i2.1.toNat 1 = slAt i2.2.aw i2.1.toNat 1) (.obl (i2.1.toNat < i2.2.ws.length) (.br ((i2.2.ws.getD i2.1.toNat 0) != 0) (.obl (ra_2 = ra_2) (.obl (InK .i64 (i2.2.steps + 1)) (.obl (ra_2 = ra_2) (.obl (ra_2 = ra_2) (.obl (i2.2.aw = i2.2.aw ∧ i2.2.n = i2.2.ws.length) (.obl ((0 : Int) ≤ i2.1 ∧ i2.1 < ((i2.2.ws.length : Nat) : Int)) (.obl (slAt i2.2.aw i2.1.toNat 1 = slAt i2.2.aw i2.1.toNat 1) (.obl (i2.1.toNat < i2.2.ws.length) (.obl (ra_2 = ra_2) (.obl (InK .i64 (i2.1 + 1)) (.stop [.j J_15, .b 2, .c [1, 1, 1, 1, 1, 1, 1, 1]] [(3, vP ra_2), (5, vI (i2.1 + 1))] [Ea51e4 ra_2 i2.2 (i2.2.steps + 1) 2 i2.1 (i2.2.ws.getD i2.1.toNat 0) true false 0, E671ef i2.2]))))))))))) (.obl (InK .i64 (i2.1 + 1)) (.stop [.j J_15, .b 2, .c [1, 1, 1, 1, 1, 1, 1, 1]] [(3, vP ra_2), (5, vI (i2.1 + 1))] [E3ba87 ra_2 i2.2 false 0, E671ef i2.2])))))))) (.ret (vP ra_2) [E3ba87 ra_2 i2.2 false 0, E671ef i2.2]))) (by kernel_rfl) ?_
        refine ok_obl rfl ?_
        refine ok_br (fun h_16 => ?_) (fun h_16 => ?_)
        · replace h_16 := decT h_16
          refine ok_obl rfl ?_
          refine ok_obl ⟨rfl, (by first | rfl | omega | (simp; done) | (simp; omega))⟩ ?_
          refine ok_obl (by have := sizeOfC_ok hc; first | omega | (simp; omega) | (have hq := blockAt_ok hc (clsOf_pos (c := c) (b := i1.1) (by omega)); first | omega | (simp; omega))) ?_
          refine ok_obl rfl ?_
          refine ok_obl (by have := sizeOfC_ok hc; first | omega | (simp; omega) | (have hq := blockAt_ok hc (clsOf_pos (c := c) (b := i1.1) (by omega)); first | omega | (simp; omega))) ?_
          refine ok_br (fun h_17 => ?_) (fun h_17 => ?_)
          · replace h_17 := bneT h_17
            refine ok_obl rfl ?_
            refine ok_obl (by have hsz := sizeOfC_ok hc; simp only [Cfg.Ok, InK] at *; first | done | omega) ?_
            refine ok_obl rfl ?_
            refine ok_obl rfl ?_
            refine ok_obl ⟨rfl, (by first | rfl | omega | (simp; done) | (simp; omega))⟩ ?_
            refine ok_obl (by have := sizeOfC_ok hc; first | omega | (simp; omega) | (have hq := blockAt_ok hc (clsOf_pos (c := c) (b := i1.1) (by omega)); first | omega | (simp; omega))) ?_
            refine ok_obl rfl ?_
            refine ok_obl (by have := sizeOfC_ok hc; first | omega | (simp; omega) | (have hq := blockAt_ok hc (clsOf_pos (c := c) (b := i1.1) (by omega)); first | omega | (simp; omega))) ?_
            refine ok_obl rfl ?_
            refine ok_obl (by have hsz := sizeOfC_ok hc; simp only [Cfg.Ok, InK] at *; first | done | omega) ?_
            refine ok_stop ?_
            exact go_back hJ_15 ((i2.1 + 1), (⟨i2.2.aw, i2.2.cw, i2.2.n, i2.2.ws, (i2.2.steps + 1), 2, i2.1, (i2.2.ws.getD i2.1.toNat 0), true⟩ : Ar)) [0, 1] (by kernel_rfl) (by kernel_rfl) (by kernel_rfl) ⟨(by dsimp only; rw [← hx2.1, rmCnt_next (n := sizeOfC c) (i := i2.1) (A := i2.2) (by omega), if_pos (by assumption)]), (by dsimp only; omega), hx2.2.2.1, hx2.2.2.2.1, (by dsimp only; omega)⟩ (by dsimp only; omega)
          · replace h_17 := bneF h_17
            refine ok_obl (by have hsz := sizeOfC_ok hc; simp only [Cfg.Ok, InK] at *; first | done | omega) ?_
            refine ok_stop ?_
            exact go_back hJ_15 ((i2.1 + 1), (⟨i2.2.aw, i2.2.cw, i2.2.n, i2.2.ws, i2.2.steps, i2.2.lk, i2.2.lw, i2.2.lv, i2.2.lc⟩ : Ar)) [0, 1] (by kernel_rfl) (by kernel_rfl) (by kernel_rfl) ⟨(by dsimp only; rw [← hx2.1, rmCnt_next (n := sizeOfC c) (i := i2.1) (A := i2.2) (by omega), if_neg (fun h => h (by assumption))]), (by dsimp only; omega), hx2.2.2.1, hx2.2.2.2.1, (by dsimp only; omega)⟩ (by dsimp only; omega)
        · replace h_16 := decF h_16
          exact ret_ok (post := [E3ba87 ra_2 i2.2 false 0, E671ef i2.2]) [0, 1] (by kernel_rfl) ⟨ra_2, aw_3, cw_4, rfl, (by rw [← hx2.1, rmCnt_end (n := sizeOfC c) (i := i2.1) (A := i2.2) (by omega)])⟩
    · replace h_9 := decF h_9
      refine ok_stop ?_
      refine go_loop (ι := Int × List Int) (fun i1 => [(1, vP b_1), (3, vP ra_2), (4, vI i1.1)]) (fun i1 => [Ee1539 b_1 c, Ea7ba4 ra_2 aw_3 ((List.replicate (sizeOfC c).toNat (0 : Int)).length) cw_4 0 0 0 0 false false 0, E7a681 aw_3 cw_4 i1.2]) (fun i1 => rmLink c (c.n0 + c.n1 - i1.1).toNat i1.1 i1.2 = rmLink c (c.n0 + c.n1 - 1).toNat 1 (rmHead c (rpackW c)) ∧ 1 ≤ i1.1 ∧ i1.2.length = (List.replicate (sizeOfC c).toNat (0 : Int)).length) (fun i1 => (c.n0 + c.n1 - i1.1).toNat) (1, (((List.replicate (sizeOfC c).toNat (0 : Int)).set 0 7597137583116413295).set 1 (rpackW c)).set 3 1) [1, 3, 4] [0, 1, 2] (by kernel_rfl) (by kernel_rfl) (by kernel_rfl) (by kernel_rfl) ⟨(by dsimp only; congr 1; unfold rmHead; dsimp only; (repeat' split) <;> first | rfl | (exfalso; omega)), (by dsimp only; omega), (by simp)⟩ ?_
      intro i1 J_18 hIJ_18 hJ_18
      have hx1 := hIJ_18
      have hlen1 := hx1.2.2
      have hN1 : (((List.replicate (sizeOfC c).toNat (0 : Int)).length : Nat) : Int) = sizeOfC c := by have := sizeOfC_ok hc; rw [List.length_replicate]; omega
      refine go_exec (rs := [.tmp 2]) (by kernel_rfl) 4000 [.e 0, .z [0, 0, 0, 0, 1, 0, 1, 1, 1, 1, 1, 1] 2 [1, 3, 4, 47, 48]] (o := .obl (b_1 = b_1) (.stop [.o [0, 0, 0, 0, 1, 0, 1, 1, 1, 1, 1, 1] 2, .c [1, 0, 0, 0, 1, 0, 1, 1, 1, 1, 1, 1], .c [1, 0, 0, 1, 0, 1, 1, 1, 1, 1, 1], .j J_18, .b 0, .c [1, 1, 1, 1, 1, 1, 1]] [(1, vP b_1), (3, vP ra_2), (4, vI i1.1), (47, vI i1.1), (48, cfgV c)] [Ee1539 b_1 c, Ea7ba4 ra_2 aw_3 ((List.replicate (sizeOfC c).toNat (0 : Int)).length) cw_4 0 0 0 0 false false 0, E7a681 aw_3 cw_4 i1.2])) (by kernel_rfl) ?_
      refine ok_obl rfl ?_
      refine ok_stop ?_
      refine go_call (some 49) [] Tryz.call49 (ref_Blocks c (by first | assumption | omega | (simp only [InK] at *; omega))) (by kernel_rfl) ?_
      rintro v post ⟨rfl, rfl⟩
      refine go_exec (rs := [.tmp 2]) (by kernel_rfl) 4000 [.sp [50] [.z [0, 0, 0, 1, 0, 0, 1, 0, 1, 1, 1, 1, 1, 1] 0 [1, 3, 4]] [.z [0, 1, 0, 1, 1, 1, 1, 1, 1, 1] 0 [3, 5]]] (o := .br (decide (i1.1 < (c.n0 + c.n1))) (.stop [.c [0, 0, 0, 1, 0, 0, 1, 0, 1, 1, 1, 1, 1, 1], .c [1, 0, 0, 1, 0, 0, 1, 0, 1, 1, 1, 1, 1, 1], .b 1, .c [1, 1, 0, 0, 1, 0, 1, 1, 1, 1, 1, 1], .j J_18, .b 0, .c [1, 1, 1, 1, 1, 1, 1]] [(1, vP b_1), (3, vP ra_2), (4, vI i1.1)] [Ee1539 b_1 c, Ea7ba4 ra_2 aw_3 ((List.replicate (sizeOfC c).toNat (0 : Int)).length) cw_4 0 0 0 0 false false 0, E7a681 aw_3 cw_4 i1.2]) (.stop [.c [0, 1, 0, 1, 1, 1, 1, 1, 1, 1], .b 2, .c [1, 1, 1, 1, 1, 1, 1, 1]] [(3, vP ra_2), (5, vI 0)] [Ee1539 b_1 c, Ea7ba4 ra_2 aw_3 ((List.replicate (sizeOfC c).toNat (0 : Int)).length) cw_4 0 0 0 0 false false 0, E7a681 aw_3 cw_4 i1.2])) (by kernel_rfl) ?_
      refine ok_br (fun h_19 => ?_) (fun h_19 => ?_)
      · replace h_19 := decT h_19
        refine ok_stop ?_
        refine go_quiet (tm' := [(1, vP b_1), (3, vP ra_2), (4, vI i1.1), (60, .bool ((clsOf c i1.1) == (clsOf c (i1.1 + 1))))]) (ps := [b_1 = b_1, b_1 = b_1, InK .i64 (i1.1 + 1)]) (cs := [(50, #[cfgV c, vI i1.1], vI (clsOf c i1.1)), (50, #[cfgV c, vI (i1.1 + 1)], vI (clsOf c (i1.1 + 1)))]) [(0, .h (.e 0)), (1, .h .w), (2, .q (vI (clsOf c i1.1))), (3, .h (.e 0)), (4, .h .w), (5, .h (.n)), (6, .q (vI (clsOf c (i1.1 + 1)))), (7, .h .w)] [1, 3, 4, 60] (by kernel_rfl) (by kernel_rfl) ⟨rfl, rfl, (by have hsz := sizeOfC_ok hc; simp only [Cfg.Ok, InK] at *; first | done | omega), trivial⟩ ⟨⟨Tryz.call50, quiet_of [] (ref_Class c i1.1 (by first | assumption | omega | (simp only [InK] at *; omega))) (by kernel_rfl) (by rintro v post ⟨rfl, rfl⟩; exact ⟨rfl, rfl⟩)⟩, ⟨Tryz.call50, quiet_of [] (ref_Class c (i1.1 + 1) (by first | assumption | omega | (simp only [InK] at *; omega))) (by kernel_rfl) (by rintro v post ⟨rfl, rfl⟩; exact ⟨rfl, rfl⟩)⟩, trivial⟩ ?_
        refine go_exec (rs := [.tmp 2]) (by kernel_rfl) 4000 [.sp [60] [.z [0, 1, 0, 0, 1, 0, 0, 1, 0, 1, 1, 1, 1, 1, 1] 0 [1, 3, 4]] [.n, .z [] 0 [1, 3, 4]]] (o := .br ((clsOf c i1.1) == (clsOf c (i1.1 + 1))) (.stop [.c [0, 1, 0, 0, 1, 0, 0, 1, 0, 1, 1, 1, 1, 1, 1], .b 1, .c [1, 1, 0, 0, 1, 0, 1, 1, 1, 1, 1, 1], .j J_18, .b 0, .c [1, 1, 1, 1, 1, 1, 1]] [(1, vP b_1), (3, vP ra_2), (4, vI i1.1)] [Ee1539 b_1 c, Ea7ba4 ra_2 aw_3 ((List.replicate (sizeOfC c).toNat (0 : Int)).length) cw_4 0 0 0 0 false false 0, E7a681 aw_3 cw_4 i1.2]) (.obl (InK .i64 (i1.1 + 1)) (.stop [.j J_18, .b 0, .c [1, 1, 1, 1, 1, 1, 1]] [(1, vP b_1), (3, vP ra_2), (4, vI (i1.1 + 1))] [Ee1539 b_1 c, Ea7ba4 ra_2 aw_3 ((List.replicate (sizeOfC c).toNat (0 : Int)).length) cw_4 0 0 0 0 false false 0, E7a681 aw_3 cw_4 i1.2]))) (by kernel_rfl) ?_
        refine ok_br (fun h_20 => ?_) (fun h_20 => ?_)
        · replace h_20 := beqT h_20
          refine ok_stop ?_
          refine go_tail_op (so := .obl (slAt aw_3 ((blockAt c i1.1).toNat) 1 = slAt aw_3 ((blockAt c i1.1).toNat) 1) (.obl ((blockAt c i1.1).toNat < i1.2.length) (.ex fun x_21 : Int => .obl ([vU (i1.1 + 1)] = (encI .u64) x_21) (.ok .skip [Ee1539 b_1 c, Ea7ba4 ra_2 aw_3 ((List.replicate (sizeOfC c).toNat (0 : Int)).length) cw_4 0 0 0 0 false false 0, E7a681 aw_3 cw_4 (i1.2.set ((blockAt c i1.1).toNat) x_21)])))) (dst := none) (ps := [ra_2 = ra_2, b_1 = b_1, InK .i64 (i1.1 + 1), InK .u64 (i1.1 + 1), aw_3 = aw_3 ∧ (List.replicate (sizeOfC c).toNat (0 : Int)).length = i1.2.length, (0 : Int) ≤ (blockAt c i1.1) ∧ (blockAt c i1.1) < ((i1.2.length : Nat) : Int)]) (cs := [(51, #[cfgV c, vI i1.1], vI (blockAt c i1.1))]) [(0, .h .w), (1, .h .w), (2, .h .w), (3, .h (.e 1)), (4, .h (.e 0)), (5, .h .w), (6, .q (vI (blockAt c i1.1))), (7, .h .w), (8, .h (.n)), (9, .h (.n)), (10, .h (.s 2))] 11 [] (.j 2 ((blockAt c i1.1).toNat)) [1, 3, 4] (by kernel_rfl) (by kernel_rfl) ⟨rfl, rfl, (by have hsz := sizeOfC_ok hc; simp only [Cfg.Ok, InK] at *; first | done | omega), (by have hsz := sizeOfC_ok hc; simp only [Cfg.Ok, InK] at *; first | done | omega), ⟨rfl, (by first | rfl | omega | (simp; done) | (simp; omega))⟩, (by have := sizeOfC_ok hc; first | omega | (simp; omega) | (have hq := blockAt_ok hc (clsOf_pos (c := c) (b := i1.1) (by omega)); first | omega | (simp; omega))), trivial⟩ ⟨⟨Tryz.call51, quiet_of [] (ref_Block c i1.1 (by first | assumption | omega | (simp only [InK] at *; omega)) (by omega)) (by kernel_rfl) (by rintro v post ⟨rfl, rfl⟩; exact ⟨rfl, rfl⟩)⟩, trivial⟩ ?_
          refine sat_obl rfl ?_
          refine sat_obl (by have := sizeOfC_ok hc; first | omega | (simp; omega) | (have hq := blockAt_ok hc (clsOf_pos (c := c) (b := i1.1) (by omega)); first | omega | (simp; omega))) ?_
          refine sat_ex ((i1.1 + 1) : Int) ?_
          refine sat_obl rfl ?_
          refine sat_skip ?_
          refine tail_next (tm' := [(1, vP b_1), (3, vP ra_2), (4, vI i1.1)]) (ps2 := []) (by kernel_rfl) trivial ?_
          refine go_exec (rs := [.tmp 2]) (by kernel_rfl) 4000 [.n, .z [] 0 [1, 3, 4]] (o := .obl (InK .i64 (i1.1 + 1)) (.stop [.j J_18, .b 0, .c [1, 1, 1, 1, 1, 1, 1]] [(1, vP b_1), (3, vP ra_2), (4, vI (i1.1 + 1))] [Ee1539 b_1 c, Ea7ba4 ra_2 aw_3 ((List.replicate (sizeOfC c).toNat (0 : Int)).length) cw_4 0 0 0 0 false false 0, E7a681 aw_3 cw_4 (i1.2.set ((blockAt c i1.1).toNat) (i1.1 + 1))])) (by kernel_rfl) ?_
          refine ok_obl (by have hsz := sizeOfC_ok hc; simp only [Cfg.Ok, InK] at *; first | done | omega) ?_
          refine ok_stop ?_
          exact go_back hJ_18 ((i1.1 + 1), i1.2.set ((blockAt c i1.1).toNat) (i1.1 + 1)) [0, 1, 2] (by kernel_rfl) (by kernel_rfl) (by kernel_rfl) ⟨(by dsimp only; rw [← hx1.1, rmLink_next (c := c) (b := i1.1) (W := i1.2) (by omega), if_pos (by assumption)]), (by dsimp only; omega), (by dsimp only; first | exact hx1.2.2 | (rw [List.length_set]; exact hx1.2.2))⟩ (by dsimp only; omega)
        · replace h_20 := beqF h_20
          refine ok_obl (by have hsz := sizeOfC_ok hc; simp only [Cfg.Ok, InK] at *; first | done | omega) ?_
          refine ok_stop ?_
          exact go_back hJ_18 ((i1.1 + 1), i1.2) [0, 1, 2] (by kernel_rfl) (by kernel_rfl) (by kernel_rfl) ⟨(by dsimp only; rw [← hx1.1, rmLink_next (c := c) (b := i1.1) (W := i1.2) (by omega), if_neg (by assumption)]), (by dsimp only; omega), (by dsimp only; first | exact hx1.2.2 | (rw [List.length_set]; exact hx1.2.2))⟩ (by dsimp only; omega)
      · replace h_19 := decF h_19
        refine ok_stop ?_
        refine go_loop (ι := Int × Ar) (fun i2 => [(3, vP ra_2), (5, vI i2.1)]) (fun i2 => [E3ba87 ra_2 i2.2 false 0, E671ef i2.2]) (fun i2 => rmCnt (sizeOfC c - i2.1).toNat i2.1 i2.2 = rmAr c (rpackW c) aw_3 cw_4 ∧ (0 ≤ i2.1 ∧ i2.1 ≤ sizeOfC c) ∧ i2.2.ws.length = i2.2.n ∧ (i2.2.n : Int) = sizeOfC c ∧ (0 ≤ i2.2.steps ∧ i2.2.steps ≤ i2.1)) (fun i2 => (sizeOfC c - i2.1).toNat) (0, (⟨aw_3, cw_4, (List.replicate (sizeOfC c).toNat (0 : Int)).length, i1.2, 0, 0, 0, 0, false⟩ : Ar)) [3, 5] [1, 2] (by kernel_rfl) (by kernel_rfl) (by kernel_rfl) (by kernel_rfl) ⟨(by dsimp only; unfold rmAr; rw [← hx1.1, rmLink_end (c := c) (b := i1.1) (W := i1.2) (by omega), Int.sub_zero]), (by have := sizeOfC_ok hc; dsimp only; omega), hlen1, hN1, (by dsimp only; omega)⟩ ?_
        intro i2 J_22 hIJ_22 hJ_22
        have hx2 := hIJ_22
        have hn2 := hx2.2.2.1
        have hz2 := hx2.2.2.2.1
        have hs2 := hx2.2.2.2.2
        refine go_exec (rs := [.tmp 2]) (by kernel_rfl) 4000 [.e 0, .sp [78] [.e 0, .s 1, .j 1 i2.1.toNat, .sp [88] [.e 0, .n, .e 0, .e 0, .s 1, .j 1 i2.1.toNat, .e 0, .n, .z [] 0 [3, 5]] [.n, .z [] 0 [3, 5]]] []] (o := .obl (ra_2 = ra_2) (.br (decide (i2.1 < ((i2.2.n : Nat) : Int))) (.obl (ra_2 = ra_2) (.obl (i2.2.aw = i2.2.aw ∧ i2.2.n = i2.2.ws.length) (.obl ((0 : Int) ≤ i2.1 ∧ i2.1 < ((i2.2.ws.length : Nat) : Int)) (.obl (slAt i2.2.aw i2.1.toNat 1 = slAt i2.2.aw i2.1.toNat 1) (.obl (i2.1.toNat < i2.2.ws.length) (.br ((i2.2.ws.getD i2.1.toNat 0) != 0) (.obl (ra_2 = ra_2) (.obl (InK .i64 (i2.2.steps + 1)) (.obl (ra_2 = ra_2) (.obl (ra_2 = ra_2) (.obl (i2.2.aw = i2.2.aw ∧ i2.2.n = i2.2.ws.length) (.obl ((0 : Int) ≤ i2.1 ∧ i2.1 < ((i2.2.ws.length : Nat) : Int)) (.obl (slAt i2.2.aw i2.1.toNat 1 = slAt i2.2.aw i2.1.toNat 1) (.obl (i2.1.toNat < i2.2.ws.length) (.obl (ra_2 = ra_2) (.obl (InK .i64 (i2.1 + 1)) (.stop [.j J_22, .b 2, .c [1, 1, 1, 1, 1, 1, 1, 1]] [(3, vP ra_2), (5, vI (i2.1 + 1))] [Ea51e4 ra_2 i2.2 (i2.2.steps + 1) 2 i2.1 (i2.2.ws.getD i2.1.toNat 0) true false 0, E671ef i2.2]))))))))))) (.obl (InK .i64 (i2.1 + 1)) (.stop [.j J_22, .b 2, .c [1, 1, 1, 1, 1, 1, 1, 1]] [(3, vP ra_2), (5, vI (i2.1 + 1))] [E3ba87 ra_2 i2.2 false 0, E671ef i2.2])))))))) (.ret (vP ra_2) [E3ba87 ra_2 i2.2 false 0, E671ef i2.2]))) (by kernel_rfl) ?_
        refine ok_obl rfl ?_
        refine ok_br (fun h_23 => ?_) (fun h_23 => ?_)
        · replace h_23 := decT h_23
          refine ok_obl rfl ?_
          refine ok_obl ⟨rfl, (by first | rfl | omega | (simp; done) | (simp; omega))⟩ ?_
          refine ok_obl (by have := sizeOfC_ok hc; first | omega | (simp; omega) | (have hq := blockAt_ok hc (clsOf_pos (c := c) (b := i1.1) (by omega)); first | omega | (simp; omega))) ?_
          refine ok_obl rfl ?_
          refine ok_obl (by have := sizeOfC_ok hc; first | omega | (simp; omega) | (have hq := blockAt_ok hc (clsOf_pos (c := c) (b := i1.1) (by omega)); first | omega | (simp; omega))) ?_
          refine ok_br (fun h_24 => ?_) (fun h_24 => ?_)
          · replace h_24 := bneT h_24
            refine ok_obl rfl ?_
            refine ok_obl (by have hsz := sizeOfC_ok hc; simp only [Cfg.Ok, InK] at *; first | done | omega) ?_
            refine ok_obl rfl ?_
            refine ok_obl rfl ?_
            refine ok_obl ⟨rfl, (by first | rfl | omega | (simp; done) | (simp; omega))⟩ ?_
            refine ok_obl (by have := sizeOfC_ok hc; first | omega | (simp; omega) | (have hq := blockAt_ok hc (clsOf_pos (c := c) (b := i1.1) (by omega)); first | omega | (simp; omega))) ?_
            refine ok_obl rfl ?_
            refine ok_obl (by have := sizeOfC_ok hc; first | omega | (simp; omega) | (have hq := blockAt_ok hc (clsOf_pos (c := c) (b := i1.1) (by omega)); first | omega | (simp; omega))) ?_
            refine ok_obl rfl ?_
            refine ok_obl (by have hsz := sizeOfC_ok hc; simp only [Cfg.Ok, InK] at *; first | done | omega) ?_
            refine ok_stop ?_
            exact go_back hJ_22 ((i2.1 + 1), (⟨i2.2.aw, i2.2.cw, i2.2.n, i2.2.ws, (i2.2.steps + 1), 2, i2.1, (i2.2.ws.getD i2.1.toNat 0), true⟩ : Ar)) [0, 1] (by kernel_rfl) (by kernel_rfl) (by kernel_rfl) ⟨(by dsimp only; rw [← hx2.1, rmCnt_next (n := sizeOfC c) (i := i2.1) (A := i2.2) (by omega), if_pos (by assumption)]), (by dsimp only; omega), hx2.2.2.1, hx2.2.2.2.1, (by dsimp only; omega)⟩ (by dsimp only; omega)
          · replace h_24 := bneF h_24
            refine ok_obl (by have hsz := sizeOfC_ok hc; simp only [Cfg.Ok, InK] at *; first | done | omega) ?_
            refine ok_stop ?_
            exact go_back hJ_22 ((i2.1 + 1), (⟨i2.2.aw, i2.2.cw, i2.2.n, i2.2.ws, i2.2.steps, i2.2.lk, i2.2.lw, i2.2.lv, i2.2.lc⟩ : Ar)) [0, 1] (by kernel_rfl) (by kernel_rfl) (by kernel_rfl) ⟨(by dsimp only; rw [← hx2.1, rmCnt_next (n := sizeOfC c) (i := i2.1) (A := i2.2) (by omega), if_neg (fun h => h (by assumption))]), (by dsimp only; omega), hx2.2.2.1, hx2.2.2.2.1, (by dsimp only; omega)⟩ (by dsimp only; omega)
        · replace h_23 := decF h_23
          exact ret_ok (post := [E3ba87 ra_2 i2.2 false 0, E671ef i2.2]) [0, 1] (by kernel_rfl) ⟨ra_2, aw_3, cw_4, rfl, (by rw [← hx2.1, rmCnt_end (n := sizeOfC c) (i := i2.1) (A := i2.2) (by omega)])⟩
  · replace h_8 := decF h_8
    refine ok_obl rfl ?_
    refine ok_br (fun h_25 => ?_) (fun h_25 => ?_)
    · replace h_25 := decT h_25
      refine ok_stop ?_
      refine go_tail_op (so := .obl (slAt aw_3 4 1 = slAt aw_3 4 1) (.obl (4 < (((List.replicate (sizeOfC c).toNat (0 : Int)).set 0 7597137583116413295).set 1 (rpackW c)).length) (.ex fun x_26 : Int => .obl ([vU (c.n0 + 1)] = (encI .u64) x_26) (.ok .skip [Ee1539 b_1 c, Ea7ba4 ra_2 aw_3 ((List.replicate (sizeOfC c).toNat (0 : Int)).length) cw_4 0 0 0 0 false false 0, E7a681 aw_3 cw_4 ((((List.replicate (sizeOfC c).toNat (0 : Int)).set 0 7597137583116413295).set 1 (rpackW c)).set 4 x_26)])))) (dst := none) (ps := [ra_2 = ra_2, b_1 = b_1, InK .i64 (c.n0 + 1), InK .u64 (c.n0 + 1), aw_3 = aw_3 ∧ (List.replicate (sizeOfC c).toNat (0 : Int)).length = (((List.replicate (sizeOfC c).toNat (0 : Int)).set 0 7597137583116413295).set 1 (rpackW c)).length, (0 : Int) ≤ 4 ∧ 4 < (((((List.replicate (sizeOfC c).toNat (0 : Int)).set 0 7597137583116413295).set 1 (rpackW c)).length : Nat) : Int)]) (cs := []) [(0, .h .w), (1, .h .w), (2, .h .w), (3, .h (.e 1)), (4, .h .w), (5, .h (.w)), (6, .h .w), (7, .h (.e 0)), (8, .h (.n)), (9, .h (.n)), (10, .h (.s 2))] 11 [] (.j 2 4) [1, 3] (by kernel_rfl) (by kernel_rfl) ⟨rfl, rfl, (by have hsz := sizeOfC_ok hc; simp only [Cfg.Ok, InK] at *; first | done | omega), (by have hsz := sizeOfC_ok hc; simp only [Cfg.Ok, InK] at *; first | done | omega), ⟨rfl, (by first | rfl | omega | (simp; done) | (simp; omega))⟩, (by have := sizeOfC_ok hc; first | omega | (simp; omega) | (have hq := blockAt_ok hc (clsOf_pos (c := c) (b := i1.1) (by omega)); first | omega | (simp; omega))), trivial⟩ trivial ?_
      refine sat_obl rfl ?_
      refine sat_obl (by have := sizeOfC_ok hc; first | omega | (simp; omega) | (have hq := blockAt_ok hc (clsOf_pos (c := c) (b := i1.1) (by omega)); first | omega | (simp; omega))) ?_
      refine sat_ex ((c.n0 + 1) : Int) ?_
      refine sat_obl rfl ?_
      refine sat_skip ?_
      refine tail_next (tm' := [(1, vP b_1), (3, vP ra_2)]) (ps2 := []) (by kernel_rfl) trivial ?_
      refine go_exec (rs := [.tmp 2]) (by kernel_rfl) 4000 [.z [0, 1, 0, 1, 1, 1, 1, 1, 1] 0 [1, 3, 4]] (o := .stop [.c [0, 1, 0, 1, 1, 1, 1, 1, 1], .b 0, .c [1, 1, 1, 1, 1, 1, 1]] [(1, vP b_1), (3, vP ra_2), (4, vI 1)] [Ee1539 b_1 c, Ea7ba4 ra_2 aw_3 ((List.replicate (sizeOfC c).toNat (0 : Int)).length) cw_4 0 0 0 0 false false 0, E7a681 aw_3 cw_4 ((((List.replicate (sizeOfC c).toNat (0 : Int)).set 0 7597137583116413295).set 1 (rpackW c)).set 4 (c.n0 + 1))]) (by kernel_rfl) ?_
      refine ok_stop ?_
      refine go_loop (ι := Int × List Int) (fun i1 => [(1, vP b_1), (3, vP ra_2), (4, vI i1.1)]) (fun i1 => [Ee1539 b_1 c, Ea7ba4 ra_2 aw_3 ((List.replicate (sizeOfC c).toNat (0 : Int)).length) cw_4 0 0 0 0 false false 0, E7a681 aw_3 cw_4 i1.2]) (fun i1 => rmLink c (c.n0 + c.n1 - i1.1).toNat i1.1 i1.2 = rmLink c (c.n0 + c.n1 - 1).toNat 1 (rmHead c (rpackW c)) ∧ 1 ≤ i1.1 ∧ i1.2.length = (List.replicate (sizeOfC c).toNat (0 : Int)).length) (fun i1 => (c.n0 + c.n1 - i1.1).toNat) (1, (((List.replicate (sizeOfC c).toNat (0 : Int)).set 0 7597137583116413295).set 1 (rpackW c)).set 4 (c.n0 + 1)) [1, 3, 4] [0, 1, 2] (by kernel_rfl) (by kernel_rfl) (by kernel_rfl) (by kernel_rfl) ⟨(by dsimp only; congr 1; unfold rmHead; dsimp only; (repeat' split) <;> first | rfl | (exfalso; omega)), (by dsimp only; omega), (by simp)⟩ ?_
      intro i1 J_27 hIJ_27 hJ_27
      have hx1 := hIJ_27
      have hlen1 := hx1.2.2
      have hN1 : (((List.replicate (sizeOfC c).toNat (0 : Int)).length : Nat) : Int) = sizeOfC c := by have := sizeOfC_ok hc; rw [List.length_replicate]; omega
      refine go_exec (rs := [.tmp 2]) (by kernel_rfl) 4000 [.e 0, .z [0, 0, 0, 0, 1, 0, 1, 1, 1, 1, 1, 1] 2 [1, 3, 4, 47, 48]] (o := .obl (b_1 = b_1) (.stop [.o [0, 0, 0, 0, 1, 0, 1, 1, 1, 1, 1, 1] 2, .c [1, 0, 0, 0, 1, 0, 1, 1, 1, 1, 1, 1], .c [1, 0, 0, 1, 0, 1, 1, 1, 1, 1, 1], .j J_27, .b 0, .c [1, 1, 1, 1, 1, 1, 1]] [(1, vP b_1), (3, vP ra_2), (4, vI i1.1), (47, vI i1.1), (48, cfgV c)] [Ee1539 b_1 c, Ea7ba4 ra_2 aw_3 ((List.replicate (sizeOfC c).toNat (0 : Int)).length) cw_4 0 0 0 0 false false 0, E7a681 aw_3 cw_4 i1.2])) (by kernel_rfl) ?_
      refine ok_obl rfl ?_
      refine ok_stop ?_
      refine go_call (some 49) [] Tryz.call49 (ref_Blocks c (by first | assumption | omega | (simp only [InK] at *; omega))) (by kernel_rfl) ?_
      rintro v post ⟨rfl, rfl⟩
      refine go_exec (rs := [.tmp 2]) (by kernel_rfl) 4000 [.sp [50] [.z [0, 0, 0, 1, 0, 0, 1, 0, 1, 1, 1, 1, 1, 1] 0 [1, 3, 4]] [.z [0, 1, 0, 1, 1, 1, 1, 1, 1, 1] 0 [3, 5]]] (o := .br (decide (i1.1 < (c.n0 + c.n1))) (.stop [.c [0, 0, 0, 1, 0, 0, 1, 0, 1, 1, 1, 1, 1, 1], .c [1, 0, 0, 1, 0, 0, 1, 0, 1, 1, 1, 1, 1, 1], .b 1, .c [1, 1, 0, 0, 1, 0, 1, 1, 1, 1, 1, 1], .j J_27, .b 0, .c [1, 1, 1, 1, 1, 1, 1]] [(1, vP b_1), (3, vP ra_2), (4, vI i1.1)] [Ee1539 b_1 c, Ea7ba4 ra_2 aw_3 ((List.replicate (sizeOfC c).toNat (0 : Int)).length) cw_4 0 0 0 0 false false 0, E7a681 aw_3 cw_4 i1.2]) (.stop [.c [0, 1, 0, 1, 1, 1, 1, 1, 1, 1], .b 2, .c [1, 1, 1, 1, 1, 1, 1, 1]] [(3, vP ra_2), (5, vI 0)] [Ee1539 b_1 c, Ea7ba4 ra_2 aw_3 ((List.replicate (sizeOfC c).toNat (0 : Int)).length) cw_4 0 0 0 0 false false 0, E7a681 aw_3 cw_4 i1.2])) (by kernel_rfl) ?_
      refine ok_br (fun h_28 => ?_) (fun h_28 => ?_)
      · replace h_28 := decT h_28
        refine ok_stop ?_
        refine go_quiet (tm' := [(1, vP b_1), (3, vP ra_2), (4, vI i1.1), (60, .bool ((clsOf c i1.1) == (clsOf c (i1.1 + 1))))]) (ps := [b_1 = b_1, b_1 = b_1, InK .i64 (i1.1 + 1)]) (cs := [(50, #[cfgV c, vI i1.1], vI (clsOf c i1.1)), (50, #[cfgV c, vI (i1.1 + 1)], vI (clsOf c (i1.1 + 1)))]) [(0, .h (.e 0)), (1, .h .w), (2, .q (vI (clsOf c i1.1))), (3, .h (.e 0)), (4, .h .w), (5, .h (.n)), (6, .q (vI (clsOf c (i1.1 + 1)))), (7, .h .w)] [1, 3, 4, 60] (by kernel_rfl) (by kernel_rfl) ⟨rfl, rfl, (by have hsz := sizeOfC_ok hc; simp only [Cfg.Ok, InK] at *; first | done | omega), trivial⟩ ⟨⟨Tryz.call50, quiet_of [] (ref_Class c i1.1 (by first | assumption | omega | (simp only [InK] at *; omega))) (by kernel_rfl) (by rintro v post ⟨rfl, rfl⟩; exact ⟨rfl, rfl⟩)⟩, ⟨Tryz.call50, quiet_of [] (ref_Class c (i1.1 + 1) (by first | assumption | omega | (simp only [InK] at *; omega))) (by kernel_rfl) (by rintro v post ⟨rfl, rfl⟩; exact ⟨rfl, rfl⟩)⟩, trivial⟩ ?_
        refine go_exec (rs := [.tmp 2]) (by kernel_rfl) 4000 [.sp [60] [.z [0, 1, 0, 0, 1, 0, 0, 1, 0, 1, 1, 1, 1, 1, 1] 0 [1, 3, 4]] [.n, .z [] 0 [1, 3, 4]]] (o := .br ((clsOf c i1.1) == (clsOf c (i1.1 + 1))) (.stop [.c [0, 1, 0, 0, 1, 0, 0, 1, 0, 1, 1, 1, 1, 1, 1], .b 1, .c [1, 1, 0, 0, 1, 0, 1, 1, 1, 1, 1, 1], .j J_27, .b 0, .c [1, 1, 1, 1, 1, 1, 1]] [(1, vP b_1), (3, vP ra_2), (4, vI i1.1)] [Ee1539 b_1 c, Ea7ba4 ra_2 aw_3 ((List.replicate (sizeOfC c).toNat (0 : Int)).length) cw_4 0 0 0 0 false false 0, E7a681 aw_3 cw_4 i1.2]) (.obl (InK .i64 (i1.1 + 1)) (.stop [.j J_27, .b 0, .c [1, 1, 1, 1, 1, 1, 1]] [(1, vP b_1), (3, vP ra_2), (4, vI (i1.1 + 1))] [Ee1539 b_1 c, Ea7ba4 ra_2 aw_3 ((List.replicate (sizeOfC c).toNat (0 : Int)).length) cw_4 0 0 0 0 false false 0, E7a681 aw_3 cw_4 i1.2]))) (by kernel_rfl) ?_
        refine ok_br (fun h_29 => ?_) (fun h_29 => ?_)
        · replace h_29 := beqT h_29
          refine ok_stop ?_
          refine go_tail_op (so := .obl (slAt aw_3 ((blockAt c i1.1).toNat) 1 = slAt aw_3 ((blockAt c i1.1).toNat) 1) (.obl ((blockAt c i1.1).toNat < i1.2.length) (.ex fun x_30 : Int => .obl ([vU (i1.1 + 1)] = (encI .u64) x_30) (.ok .skip [Ee1539 b_1 c, Ea7ba4 ra_2 aw_3 ((List.replicate (sizeOfC c).toNat (0 : Int)).length) cw_4 0 0 0 0 false false 0, E7a681 aw_3 cw_4 (i1.2.set ((blockAt c i1.1).toNat) x_30)])))) (dst := none) (ps := [ra_2 = ra_2, b_1 = b_1, InK .i64 (i1.1 + 1), InK .u64 (i1.1 + 1), aw_3 = aw_3 ∧ (List.replicate (sizeOfC c).toNat (0 : Int)).length = i1.2.length, (0 : Int) ≤ (blockAt c i1.1) ∧ (blockAt c i1.1) < ((i1.2.length : Nat) : Int)]) (cs := [(51, #[cfgV c, vI i1.1], vI (blockAt c i1.1))]) [(0, .h .w), (1, .h .w), (2, .h .w), (3, .h (.e 1)), (4, .h (.e 0)), (5, .h .w), (6, .q (vI (blockAt c i1.1))), (7, .h .w), (8, .h (.n)), (9, .h (.n)), (10, .h (.s 2))] 11 [] (.j 2 ((blockAt c i1.1).toNat)) [1, 3, 4] (by kernel_rfl) (by kernel_rfl) ⟨rfl, rfl, (by have hsz := sizeOfC_ok hc; simp only [Cfg.Ok, InK] at *; first | done | omega), (by have hsz := sizeOfC_ok hc; simp only [Cfg.Ok, InK] at *; first | done | omega), ⟨rfl, (by first | rfl | omega | (simp; done) | (simp; omega))⟩, (by have := sizeOfC_ok hc; first | omega | (simp; omega) | (have hq := blockAt_ok hc (clsOf_pos (c := c) (b := i1.1) (by omega)); first | omega | (simp; omega))), trivial⟩ ⟨⟨Tryz.call51, quiet_of [] (ref_Block c i1.1 (by first | assumption | omega | (simp only [InK] at *; omega)) (by omega)) (by kernel_rfl) (by rintro v post ⟨rfl, rfl⟩; exact ⟨rfl, rfl⟩)⟩, trivial⟩ ?_
          refine sat_obl rfl ?_
          refine sat_obl (by have := sizeOfC_ok hc; first | omega | (simp; omega) | (have hq := blockAt_ok hc (clsOf_pos (c := c) (b := i1.1) (by omega)); first | omega | (simp; omega))) ?_
          refine sat_ex ((i1.1 + 1) : Int) ?_
          refine sat_obl rfl ?_
          refine sat_skip ?_
          refine tail_next (tm' := [(1, vP b_1), (3, vP ra_2), (4, vI i1.1)]) (ps2 := []) (by kernel_rfl) trivial ?_
          refine go_exec (rs := [.tmp 2]) (by kernel_rfl) 4000 [.n, .z [] 0 [1, 3, 4]] (o := .obl (InK .i64 (i1.1 + 1)) (.stop [.j J_27, .b 0, .c [1, 1, 1, 1, 1, 1, 1]] [(1, vP b_1), (3, vP ra_2), (4, vI (i1.1 + 1))] [Ee1539 b_1 c, Ea7ba4 ra_2 aw_3 ((List.replicate (sizeOfC c).toNat (0 : Int)).length) cw_4 0 0 0 0 false false 0, E7a681 aw_3 cw_4 (i1.2.set ((blockAt c i1.1).toNat) (i1.1 + 1))])) (by kernel_rfl) ?_
          refine ok_obl (by have hsz := sizeOfC_ok hc; simp only [Cfg.Ok, InK] at *; first | done | omega) ?_
          refine ok_stop ?_
          exact go_back hJ_27 ((i1.1 + 1), i1.2.set ((blockAt c i1.1).toNat) (i1.1 + 1)) [0, 1, 2] (by kernel_rfl) (by kernel_rfl) (by kernel_rfl) ⟨(by dsimp only; rw [← hx1.1, rmLink_next (c := c) (b := i1.1) (W := i1.2) (by omega), if_pos (by assumption)]), (by dsimp only; omega), (by dsimp only; first | exact hx1.2.2 | (rw [List.length_set]; exact hx1.2.2))⟩ (by dsimp only; omega)
        · replace h_29 := beqF h_29
          refine ok_obl (by have hsz := sizeOfC_ok hc; simp only [Cfg.Ok, InK] at *; first | done | omega) ?_
          refine ok_stop ?_
          exact go_back hJ_27 ((i1.1 + 1), i1.2) [0, 1, 2] (by kernel_rfl) (by kernel_rfl) (by kernel_rfl) ⟨(by dsimp only; rw [← hx1.1, rmLink_next (c := c) (b := i1.1) (W := i1.2) (by omega), if_neg (by assumption)]), (by dsimp only; omega), (by dsimp only; first | exact hx1.2.2 | (rw [List.length_set]; exact hx1.2.2))⟩ (by dsimp only; omega)
      · replace h_28 := decF h_28
        refine ok_stop ?_
        refine go_loop (ι := Int × Ar) (fun i2 => [(3, vP ra_2), (5, vI i2.1)]) (fun i2 => [E3ba87 ra_2 i2.2 false 0, E671ef i2.2]) (fun i2 => rmCnt (sizeOfC c - i2.1).toNat i2.1 i2.2 = rmAr c (rpackW c) aw_3 cw_4 ∧ (0 ≤ i2.1 ∧ i2.1 ≤ sizeOfC c) ∧ i2.2.ws.length = i2.2.n ∧ (i2.2.n : Int) = sizeOfC c ∧ (0 ≤ i2.2.steps ∧ i2.2.steps ≤ i2.1)) (fun i2 => (sizeOfC c - i2.1).toNat) (0, (⟨aw_3, cw_4, (List.replicate (sizeOfC c).toNat (0 : Int)).length, i1.2, 0, 0, 0, 0, false⟩ : Ar)) [3, 5] [1, 2] (by kernel_rfl) (by kernel_rfl) (by kernel_rfl) (by kernel_rfl) ⟨(by dsimp only; unfold rmAr; rw [← hx1.1, rmLink_end (c := c) (b := i1.1) (W := i1.2) (by omega), Int.sub_zero]), (by have := sizeOfC_ok hc; dsimp only; omega), hlen1, hN1, (by dsimp only; omega)⟩ ?_
        intro i2 J_31 hIJ_31 hJ_31
        have hx2 := hIJ_31
        have hn2 := hx2.2.2.1
        have hz2 := hx2.2.2.2.1
        have hs2 := hx2.2.2.2.2
        refine go_exec (rs := [.tmp 2]) (by kernel_rfl) 4000 [.e 0, .sp [78] [.e 0, .s 1, .j 1 i2.1.toNat, .sp [88] [.e 0, .n, .e 0, .e 0, .s 1, .j 1 i2.1.toNat, .e 0, .n, .z [] 0 [3, 5]] [.n, .z [] 0 [3, 5]]] []] (o := .obl (ra_2 = ra_2) (.br (decide (i2.1 < ((i2.2.n : Nat) : Int))) (.obl (ra_2 = ra_2) (.obl (i2.2.aw = i2.2.aw ∧ i2.2.n = i2.2.ws.length) (.obl ((0 : Int) ≤ i2.1 ∧ i2.1 < ((i2.2.ws.length : Nat) : Int)) (.obl (slAt i2.2.aw i2.1.toNat 1 = slAt i2.2.aw i2.1.toNat 1) (.obl (i2.1.toNat < i2.2.ws.length) (.br ((i2.2.ws.getD i2.1.toNat 0) != 0) (.obl (ra_2 = ra_2) (.obl (InK .i64 (i2.2.steps + 1)) (.obl (ra_2 = ra_2) (.obl (ra_2 = ra_2) (.obl (i2.2.aw = i2.2.aw ∧ i2.2.n = i2.2.ws.length) (.obl ((0 : Int) ≤ i2.1 ∧ i2.1 < ((i2.2.ws.length : Nat) : Int)) (.obl (slAt i2.2.aw i2.1.toNat 1 = slAt i2.2.aw i2.1.toNat 1) (.obl (i2.1.toNat < i2.2.ws.length) (.obl (ra_2 = ra_2) (.obl (InK .i64 (i2.1 + 1)) (.stop [.j J_31, .b 2, .c [1, 1, 1, 1, 1, 1, 1, 1]] [(3, vP ra_2), (5, vI (i2.1 + 1))] [Ea51e4 ra_2 i2.2 (i2.2.steps + 1) 2 i2.1 (i2.2.ws.getD i2.1.toNat 0) true false 0, E671ef i2.2]))))))))))) (.obl (InK .i64 (i2.1 + 1)) (.stop [.j J_31, .b 2, .c [1, 1, 1, 1, 1, 1, 1, 1]] [(3, vP ra_2), (5, vI (i2.1 + 1))] [E3ba87 ra_2 i2.2 false 0, E671ef i2.2])))))))) (.ret (vP ra_2) [E3ba87 ra_2 i2.2 false 0, E671ef i2.2]))) (by kernel_rfl) ?_
        refine ok_obl rfl ?_
        refine ok_br (fun h_32 => ?_) (fun h_32 => ?_)
        · replace h_32 := decT h_32
          refine ok_obl rfl ?_
          refine ok_obl ⟨rfl, (by first | rfl | omega | (simp; done) | (simp; omega))⟩ ?_
          refine ok_obl (by have := sizeOfC_ok hc; first | omega | (simp; omega) | (have hq := blockAt_ok hc (clsOf_pos (c := c) (b := i1.1) (by omega)); first | omega | (simp; omega))) ?_
          refine ok_obl rfl ?_
          refine ok_obl (by have := sizeOfC_ok hc; first | omega | (simp; omega) | (have hq := blockAt_ok hc (clsOf_pos (c := c) (b := i1.1) (by omega)); first | omega | (simp; omega))) ?_
          refine ok_br (fun h_33 => ?_) (fun h_33 => ?_)
          · replace h_33 := bneT h_33
            refine ok_obl rfl ?_
            refine ok_obl (by have hsz := sizeOfC_ok hc; simp only [Cfg.Ok, InK] at *; first | done | omega) ?_
            refine ok_obl rfl ?_
            refine ok_obl rfl ?_
            refine ok_obl ⟨rfl, (by first | rfl | omega | (simp; done) | (simp; omega))⟩ ?_
            refine ok_obl (by have := sizeOfC_ok hc; first | omega | (simp; omega) | (have hq := blockAt_ok hc (clsOf_pos (c := c) (b := i1.1) (by omega)); first | omega | (simp; omega))) ?_
            refine ok_obl rfl ?_
            refine ok_obl (by have := sizeOfC_ok hc; first | omega | (simp; omega) | (have hq := blockAt_ok hc (clsOf_pos (c := c) (b := i1.1) (by omega)); first | omega | (simp; omega))) ?_
            refine ok_obl rfl ?_
            refine ok_obl (by have hsz := sizeOfC_ok hc; simp only [Cfg.Ok, InK] at *; first | done | omega) ?_
            refine ok_stop ?_
            exact go_back hJ_31 ((i2.1 + 1), (⟨i2.2.aw, i2.2.cw, i2.2.n, i2.2.ws, (i2.2.steps + 1), 2, i2.1, (i2.2.ws.getD i2.1.toNat 0), true⟩ : Ar)) [0, 1] (by kernel_rfl) (by kernel_rfl) (by kernel_rfl) ⟨(by dsimp only; rw [← hx2.1, rmCnt_next (n := sizeOfC c) (i := i2.1) (A := i2.2) (by omega), if_pos (by assumption)]), (by dsimp only; omega), hx2.2.2.1, hx2.2.2.2.1, (by dsimp only; omega)⟩ (by dsimp only; omega)
          · replace h_33 := bneF h_33
            refine ok_obl (by have hsz := sizeOfC_ok hc; simp only [Cfg.Ok, InK] at *; first | done | omega) ?_
            refine ok_stop ?_
            exact go_back hJ_31 ((i2.1 + 1), (⟨i2.2.aw, i2.2.cw, i2.2.n, i2.2.ws, i2.2.steps, i2.2.lk, i2.2.lw, i2.2.lv, i2.2.lc⟩ : Ar)) [0, 1] (by kernel_rfl) (by kernel_rfl) (by kernel_rfl) ⟨(by dsimp only; rw [← hx2.1, rmCnt_next (n := sizeOfC c) (i := i2.1) (A := i2.2) (by omega), if_neg (fun h => h (by assumption))]), (by dsimp only; omega), hx2.2.2.1, hx2.2.2.2.1, (by dsimp only; omega)⟩ (by dsimp only; omega)
        · replace h_32 := decF h_32
          exact ret_ok (post := [E3ba87 ra_2 i2.2 false 0, E671ef i2.2]) [0, 1] (by kernel_rfl) ⟨ra_2, aw_3, cw_4, rfl, (by rw [← hx2.1, rmCnt_end (n := sizeOfC c) (i := i2.1) (A := i2.2) (by omega)])⟩
    · replace h_25 := decF h_25
      refine ok_stop ?_
      refine go_loop (ι := Int × List Int) (fun i1 => [(1, vP b_1), (3, vP ra_2), (4, vI i1.1)]) (fun i1 => [Ee1539 b_1 c, Ea7ba4 ra_2 aw_3 ((List.replicate (sizeOfC c).toNat (0 : Int)).length) cw_4 0 0 0 0 false false 0, E7a681 aw_3 cw_4 i1.2]) (fun i1 => rmLink c (c.n0 + c.n1 - i1.1).toNat i1.1 i1.2 = rmLink c (c.n0 + c.n1 - 1).toNat 1 (rmHead c (rpackW c)) ∧ 1 ≤ i1.1 ∧ i1.2.length = (List.replicate (sizeOfC c).toNat (0 : Int)).length) (fun i1 => (c.n0 + c.n1 - i1.1).toNat) (1, ((List.replicate (sizeOfC c).toNat (0 : Int)).set 0 7597137583116413295).set 1 (rpackW c)) [1, 3, 4] [0, 1, 2] (by kernel_rfl) (by kernel_rfl) (by kernel_rfl) (by kernel_rfl) ⟨(by dsimp only; congr 1; unfold rmHead; dsimp only; (repeat' split) <;> first | rfl | (exfalso; omega)), (by dsimp only; omega), (by simp)⟩ ?_
      intro i1 J_34 hIJ_34 hJ_34
      have hx1 := hIJ_34
      have hlen1 := hx1.2.2
      have hN1 : (((List.replicate (sizeOfC c).toNat (0 : Int)).length : Nat) : Int) = sizeOfC c := by have := sizeOfC_ok hc; rw [List.length_replicate]; omega
      refine go_exec (rs := [.tmp 2]) (by kernel_rfl) 4000 [.e 0, .z [0, 0, 0, 0, 1, 0, 1, 1, 1, 1, 1, 1] 2 [1, 3, 4, 47, 48]] (o := .obl (b_1 = b_1) (.stop [.o [0, 0, 0, 0, 1, 0, 1, 1, 1, 1, 1, 1] 2, .c [1, 0, 0, 0, 1, 0, 1, 1, 1, 1, 1, 1], .c [1, 0, 0, 1, 0, 1, 1, 1, 1, 1, 1], .j J_34, .b 0, .c [1, 1, 1, 1, 1, 1, 1]] [(1, vP b_1), (3, vP ra_2), (4, vI i1.1), (47, vI i1.1), (48, cfgV c)] [Ee1539 b_1 c, Ea7ba4 ra_2 aw_3 ((List.replicate (sizeOfC c).toNat (0 : Int)).length) cw_4 0 0 0 0 false false 0, E7a681 aw_3 cw_4 i1.2])) (by kernel_rfl) ?_
      refine ok_obl rfl ?_
      refine ok_stop ?_
      refine go_call (some 49) [] Tryz.call49 (ref_Blocks c (by first | assumption | omega | (simp only [InK] at *; omega))) (by kernel_rfl) ?_
      rintro v post ⟨rfl, rfl⟩
      refine go_exec (rs := [.tmp 2]) (by kernel_rfl) 4000 [.sp [50] [.z [0, 0, 0, 1, 0, 0, 1, 0, 1, 1, 1, 1, 1, 1] 0 [1, 3, 4]] [.z [0, 1, 0, 1, 1, 1, 1, 1, 1, 1] 0 [3, 5]]] (o := .br (decide (i1.1 < (c.n0 + c.n1))) (.stop [.c [0, 0, 0, 1, 0, 0, 1, 0, 1, 1, 1, 1, 1, 1], .c [1, 0, 0, 1, 0, 0, 1, 0, 1, 1, 1, 1, 1, 1], .b 1, .c [1, 1, 0, 0, 1, 0, 1, 1, 1, 1, 1, 1], .j J_34, .b 0, .c [1, 1, 1, 1, 1, 1, 1]] [(1, vP b_1), (3, vP ra_2), (4, vI i1.1)] [Ee1539 b_1 c, Ea7ba4 ra_2 aw_3 ((List.replicate (sizeOfC c).toNat (0 : Int)).length) cw_4 0 0 0 0 false false 0, E7a681 aw_3 cw_4 i1.2]) (.stop [.c [0, 1, 0, 1, 1, 1, 1, 1, 1, 1], .b 2, .c [1, 1, 1, 1, 1, 1, 1, 1]] [(3, vP ra_2), (5, vI 0)] [Ee1539 b_1 c, Ea7ba4 ra_2 aw_3 ((List.replicate (sizeOfC c).toNat (0 : Int)).length) cw_4 0 0 0 0 false false 0, E7a681 aw_3 cw_4 i1.2])) (by kernel_rfl) ?_
      refine ok_br (fun h_35 => ?_) (fun h_35 => ?_)
      · replace h_35 := decT h_35
        refine ok_stop ?_
        refine go_quiet (tm' := [(1, vP b_1), (3, vP ra_2), (4, vI i1.1), (60, .bool ((clsOf c i1.1) == (clsOf c (i1.1 + 1))))]) (ps := [b_1 = b_1, b_1 = b_1, InK .i64 (i1.1 + 1)]) (cs := [(50, #[cfgV c, vI i1.1], vI (clsOf c i1.1)), (50, #[cfgV c, vI (i1.1 + 1)], vI (clsOf c (i1.1 + 1)))]) [(0, .h (.e 0)), (1, .h .w), (2, .q (vI (clsOf c i1.1))), (3, .h (.e 0)), (4, .h .w), (5, .h (.n)), (6, .q (vI (clsOf c (i1.1 + 1)))), (7, .h .w)] [1, 3, 4, 60] (by kernel_rfl) (by kernel_rfl) ⟨rfl, rfl, (by have hsz := sizeOfC_ok hc; simp only [Cfg.Ok, InK] at *; first | done | omega), trivial⟩ ⟨⟨Tryz.call50, quiet_of [] (ref_Class c i1.1 (by first | assumption | omega | (simp only [InK] at *; omega))) (by kernel_rfl) (by rintro v post ⟨rfl, rfl⟩; exact ⟨rfl, rfl⟩)⟩, ⟨Tryz.call50, quiet_of [] (ref_Class c (i1.1 + 1) (by first | assumption | omega | (simp only [InK] at *; omega))) (by kernel_rfl) (by rintro v post ⟨rfl, rfl⟩; exact ⟨rfl, rfl⟩)⟩, trivial⟩ ?_
        refine go_exec (rs := [.tmp 2]) (by kernel_rfl) 4000 [.sp [60] [.z [0, 1, 0, 0, 1, 0, 0, 1, 0, 1, 1, 1, 1, 1, 1] 0 [1, 3, 4]] [.n, .z [] 0 [1, 3, 4]]] (o := .br ((clsOf c i1.1) == (clsOf c (i1.1 + 1))) (.stop [.c [0, 1, 0, 0, 1, 0, 0, 1, 0, 1, 1, 1, 1, 1, 1], .b 1, .c [1, 1, 0, 0, 1, 0, 1, 1, 1, 1, 1, 1], .j J_34, .b 0, .c [1, 1, 1, 1, 1, 1, 1]] [(1, vP b_1), (3, vP ra_2), (4, vI i1.1)] [Ee1539 b_1 c, Ea7ba4 ra_2 aw_3 ((List.replicate (sizeOfC c).toNat (0 : Int)).length) cw_4 0 0 0 0 false false 0, E7a681 aw_3 cw_4 i1.2]) (.obl (InK .i64 (i1.1 + 1)) (.stop [.j J_34, .b 0, .c [1, 1, 1, 1, 1, 1, 1]] [(1, vP b_1), (3, vP ra_2), (4, vI (i1.1 + 1))] [Ee1539 b_1 c, Ea7ba4 ra_2 aw_3 ((List.replicate (sizeOfC c).toNat (0 : Int)).length) cw_4 0 0 0 0 false false 0, E7a681 aw_3 cw_4 i1.2]))) (by kernel_rfl) ?_
        refine ok_br (fun h_36 => ?_) (fun h_36 => ?_)
        · replace h_36 := beqT h_36
          refine ok_stop ?_
          refine go_tail_op (so := .obl (slAt aw_3 ((blockAt c i1.1).toNat) 1 = slAt aw_3 ((blockAt c i1.1).toNat) 1) (.obl ((blockAt c i1.1).toNat < i1.2.length) (.ex fun x_37 : Int => .obl ([vU (i1.1 + 1)] = (encI .u64) x_37) (.ok .skip [Ee1539 b_1 c, Ea7ba4 ra_2 aw_3 ((List.replicate (sizeOfC c).toNat (0 : Int)).length) cw_4 0 0 0 0 false false 0, E7a681 aw_3 cw_4 (i1.2.set ((blockAt c i1.1).toNat) x_37)])))) (dst := none) (ps := [ra_2 = ra_2, b_1 = b_1, InK .i64 (i1.1 + 1), InK .u64 (i1.1 + 1), aw_3 = aw_3 ∧ (List.replicate (sizeOfC c).toNat (0 : Int)).length = i1.2.length, (0 : Int) ≤ (blockAt c i1.1) ∧ (blockAt c i1.1) < ((i1.2.length : Nat) : Int)]) (cs := [(51, #[cfgV c, vI i1.1], vI (blockAt c i1.1))]) [(0, .h .w), (1, .h .w), (2, .h .w), (3, .h (.e 1)), (4, .h (.e 0)), (5, .h .w), (6, .q (vI (blockAt c i1.1))), (7, .h .w), (8, .h (.n)), (9, .h (.n)), (10, .h (.s 2))] 11 [] (.j 2 ((blockAt c i1.1).toNat)) [1, 3, 4] (by kernel_rfl) (by kernel_rfl) ⟨rfl, rfl, (by have hsz := sizeOfC_ok hc; simp only [Cfg.Ok, InK] at *; first | done | omega), (by have hsz := sizeOfC_ok hc; simp only [Cfg.Ok, InK] at *; first | done | omega), ⟨rfl, (by first | rfl | omega | (simp; done) | (simp; omega))⟩, (by have := sizeOfC_ok hc; first | omega | (simp; omega) | (have hq := blockAt_ok hc (clsOf_pos (c := c) (b := i1.1) (by omega)); first | omega | (simp; omega))), trivial⟩ ⟨⟨Tryz.call51, quiet_of [] (ref_Block c i1.1 (by first | assumption | omega | (simp only [InK] at *; omega)) (by omega)) (by kernel_rfl) (by rintro v post ⟨rfl, rfl⟩; exact ⟨rfl, rfl⟩)⟩, trivial⟩ ?_
          refine sat_obl rfl ?_
          refine sat_obl (by have := sizeOfC_ok hc; first | omega | (simp; omega) | (have hq := blockAt_ok hc (clsOf_pos (c := c) (b := i1.1) (by omega)); first | omega | (simp; omega))) ?_
          refine sat_ex ((i1.1 + 1) : Int) ?_
          refine sat_obl rfl ?_
          refine sat_skip ?_
          refine tail_next (tm' := [(1, vP b_1), (3, vP ra_2), (4, vI i1.1)]) (ps2 := []) (by kernel_rfl) trivial ?_
          refine go_exec (rs := [.tmp 2]) (by kernel_rfl) 4000 [.n, .z [] 0 [1, 3, 4]] (o := .obl (InK .i64 (i1.1 + 1)) (.stop [.j J_34, .b 0, .c [1, 1, 1, 1, 1, 1, 1]] [(1, vP b_1), (3, vP ra_2), (4, vI (i1.1 + 1))] [Ee1539 b_1 c, Ea7ba4 ra_2 aw_3 ((List.replicate (sizeOfC c).toNat (0 : Int)).length) cw_4 0 0 0 0 false false 0, E7a681 aw_3 cw_4 (i1.2.set ((blockAt c i1.1).toNat) (i1.1 + 1))])) (by kernel_rfl) ?_
          refine ok_obl (by have hsz := sizeOfC_ok hc; simp only [Cfg.Ok, InK] at *; first | done | omega) ?_
          refine ok_stop ?_
          exact go_back hJ_34 ((i1.1 + 1), i1.2.set ((blockAt c i1.1).toNat) (i1.1 + 1)) [0, 1, 2] (by kernel_rfl) (by kernel_rfl) (by kernel_rfl) ⟨(by dsimp only; rw [← hx1.1, rmLink_next (c := c) (b := i1.1) (W := i1.2) (by omega), if_pos (by assumption)]), (by dsimp only; omega), (by dsimp only; first | exact hx1.2.2 | (rw [List.length_set]; exact hx1.2.2))⟩ (by dsimp only; omega)
        · replace h_36 := beqF h_36
          refine ok_obl (by have hsz := sizeOfC_ok hc; simp only [Cfg.Ok, InK] at *; first | done | omega) ?_
          refine ok_stop ?_
          exact go_back hJ_34 ((i1.1 + 1), i1.2) [0, 1, 2] (by kernel_rfl) (by kernel_rfl) (by kernel_rfl) ⟨(by dsimp only; rw [← hx1.1, rmLink_next (c := c) (b := i1.1) (W := i1.2) (by omega), if_neg (by assumption)]), (by dsimp only; omega), (by dsimp only; first | exact hx1.2.2 | (rw [List.length_set]; exact hx1.2.2))⟩ (by dsimp only; omega)
      · replace h_35 := decF h_35
        refine ok_stop ?_
        refine go_loop (ι := Int × Ar) (fun i2 => [(3, vP ra_2), (5, vI i2.1)]) (fun i2 => [E3ba87 ra_2 i2.2 false 0, E671ef i2.2]) (fun i2 => rmCnt (sizeOfC c - i2.1).toNat i2.1 i2.2 = rmAr c (rpackW c) aw_3 cw_4 ∧ (0 ≤ i2.1 ∧ i2.1 ≤ sizeOfC c) ∧ i2.2.ws.length = i2.2.n ∧ (i2.2.n : Int) = sizeOfC c ∧ (0 ≤ i2.2.steps ∧ i2.2.steps ≤ i2.1)) (fun i2 => (sizeOfC c - i2.1).toNat) (0, (⟨aw_3, cw_4, (List.replicate (sizeOfC c).toNat (0 : Int)).length, i1.2, 0, 0, 0, 0, false⟩ : Ar)) [3, 5] [1, 2] (by kernel_rfl) (by kernel_rfl) (by kernel_rfl) (by kernel_rfl) ⟨(by dsimp only; unfold rmAr; rw [← hx1.1, rmLink_end (c := c) (b := i1.1) (W := i1.2) (by omega), Int.sub_zero]), (by have := sizeOfC_ok hc; dsimp only; omega), hlen1, hN1, (by dsimp only; omega)⟩ ?_
        intro i2 J_38 hIJ_38 hJ_38
        have hx2 := hIJ_38
        have hn2 := hx2.2.2.1
        have hz2 := hx2.2.2.2.1
        have hs2 := hx2.2.2.2.2
        refine go_exec (rs := [.tmp 2]) (by kernel_rfl) 4000 [.e 0, .sp [78] [.e 0, .s 1, .j 1 i2.1.toNat, .sp [88] [.e 0, .n, .e 0, .e 0, .s 1, .j 1 i2.1.toNat, .e 0, .n, .z [] 0 [3, 5]] [.n, .z [] 0 [3, 5]]] []] (o := .obl (ra_2 = ra_2) (.br (decide (i2.1 < ((i2.2.n : Nat) : Int))) (.obl (ra_2 = ra_2) (.obl (i2.2.aw = i2.2.aw ∧ i2.2.n = i2.2.ws.length) (.obl ((0 : Int) ≤ i2.1 ∧ i2.1 < ((i2.2.ws.length : Nat) : Int)) (.obl (slAt i2.2.aw i2.1.toNat 1 = slAt i2.2.aw i2.1.toNat 1) (.obl (i2.1.toNat < i2.2.ws.length) (.br ((i2.2.ws.getD i2.1.toNat 0) != 0) (.obl (ra_2 = ra_2) (.obl (InK .i64 (i2.2.steps + 1)) (.obl (ra_2 = ra_2) (.obl (ra_2 = ra_2) (.obl (i2.2.aw = i2.2.aw ∧ i2.2.n = i2.2.ws.length) (.obl ((0 : Int) ≤ i2.1 ∧ i2.1 < ((i2.2.ws.length : Nat) : Int)) (.obl (slAt i2.2.aw i2.1.toNat 1 = slAt i2.2.aw i2.1.toNat 1) (.obl (i2.1.toNat < i2.2.ws.length) (.obl (ra_2 = ra_2) (.obl (InK .i64 (i2.1 + 1)) (.stop [.j J_38, .b 2, .c [1, 1, 1, 1, 1, 1, 1, 1]] [(3, vP ra_2), (5, vI (i2.1 + 1))] [Ea51e4 ra_2 i2.2 (i2.2.steps + 1) 2 i2.1 (i2.2.ws.getD i2.1.toNat 0) true false 0, E671ef i2.2]))))))))))) (.obl (InK .i64 (i2.1 + 1)) (.stop [.j J_38, .b 2, .c [1, 1, 1, 1, 1, 1, 1, 1]] [(3, vP ra_2), (5, vI (i2.1 + 1))] [E3ba87 ra_2 i2.2 false 0, E671ef i2.2])))))))) (.ret (vP ra_2) [E3ba87 ra_2 i2.2 false 0, E671ef i2.2]))) (by kernel_rfl) ?_
        refine ok_obl rfl ?_
        refine ok_br (fun h_39 => ?_) (fun h_39 => ?_)
        · replace h_39 := decT h_39
          refine ok_obl rfl ?_
          refine ok_obl ⟨rfl, (by first | rfl | omega | (simp; done) | (simp; omega))⟩ ?_
          refine ok_obl (by have := sizeOfC_ok hc; first | omega | (simp; omega) | (have hq := blockAt_ok hc (clsOf_pos (c := c) (b := i1.1) (by omega)); first | omega | (simp; omega))) ?_
          refine ok_obl rfl ?_
          refine ok_obl (by have := sizeOfC_ok hc; first | omega | (simp; omega) | (have hq := blockAt_ok hc (clsOf_pos (c := c) (b := i1.1) (by omega)); first | omega | (simp; omega))) ?_
          refine ok_br (fun h_40 => ?_) (fun h_40 => ?_)
          · replace h_40 := bneT h_40
            refine ok_obl rfl ?_
            refine ok_obl (by have hsz := sizeOfC_ok hc; simp only [Cfg.Ok, InK] at *; first | done | omega) ?_
            refine ok_obl rfl ?_
            refine ok_obl rfl ?_
            refine ok_obl ⟨rfl, (by first | rfl | omega | (simp; done) | (simp; omega))⟩ ?_
            refine ok_obl (by have := sizeOfC_ok hc; first | omega | (simp; omega) | (have hq := blockAt_ok hc (clsOf_pos (c := c) (b := i1.1) (by omega)); first | omega | (simp; omega))) ?_
            refine ok_obl rfl ?_
            refine ok_obl (by have := sizeOfC_ok hc; first | omega | (simp; omega) | (have hq := blockAt_ok hc (clsOf_pos (c := c) (b := i1.1) (by omega)); first | omega | (simp; omega))) ?_
            refine ok_obl rfl ?_
            refine ok_obl (by have hsz := sizeOfC_ok hc; simp only [Cfg.Ok, InK] at *; first | done | omega) ?_
            refine ok_stop ?_
            exact go_back hJ_38 ((i2.1 + 1), (⟨i2.2.aw, i2.2.cw, i2.2.n, i2.2.ws, (i2.2.steps + 1), 2, i2.1, (i2.2.ws.getD i2.1.toNat 0), true⟩ : Ar)) [0, 1] (by kernel_rfl) (by kernel_rfl) (by kernel_rfl) ⟨(by dsimp only; rw [← hx2.1, rmCnt_next (n := sizeOfC c) (i := i2.1) (A := i2.2) (by omega), if_pos (by assumption)]), (by dsimp only; omega), hx2.2.2.1, hx2.2.2.2.1, (by dsimp only; omega)⟩ (by dsimp only; omega)
          · replace h_40 := bneF h_40
            refine ok_obl (by have hsz := sizeOfC_ok hc; simp only [Cfg.Ok, InK] at *; first | done | omega) ?_
            refine ok_stop ?_
            exact go_back hJ_38 ((i2.1 + 1), (⟨i2.2.aw, i2.2.cw, i2.2.n, i2.2.ws, i2.2.steps, i2.2.lk, i2.2.lw, i2.2.lv, i2.2.lc⟩ : Ar)) [0, 1] (by kernel_rfl) (by kernel_rfl) (by kernel_rfl) ⟨(by dsimp only; rw [← hx2.1, rmCnt_next (n := sizeOfC c) (i := i2.1) (A := i2.2) (by omega), if_neg (fun h => h (by assumption))]), (by dsimp only; omega), hx2.2.2.1, hx2.2.2.2.1, (by dsimp only; omega)⟩ (by dsimp only; omega)
        · replace h_39 := decF h_39
          exact ret_ok (post := [E3ba87 ra_2 i2.2 false 0, E671ef i2.2]) [0, 1] (by kernel_rfl) ⟨ra_2, aw_3, cw_4, rfl, (by rw [← hx2.1, rmCnt_end (n := sizeOfC c) (i := i2.1) (A := i2.2) (by omega)])⟩

end Go.Proofs.YtilaihbbollcnaaGreatDoor


namespace Go.Proofs.YtilaihbbollcnaaGreatDoor
open Go.Sx
noncomputable def B3 : Code := (Tryz.f3.body).getD .skip

set_option maxHeartbeats 4000000 in
theorem law_gplays (o_ : Obj) (q0 q1 e_ g_ k_ : Int) (l_ b_ : Bool) (a : Option Addr) (c0 : Nat) (xs : List GActT) (bt : TypeId) (r : Sx.Rest) (ho : IsH o_) :
    Ctr Tryz.prog 3 #[.agg #[vI q0, vI q1], .agg #[vI e_, vI g_, vI k_, .bool l_, .bool b_], .slice a xs.length c0] [.raw 0 o_, .rd a c0 encGAct dGAct 6 xs bt r] (Ret (.bool true) [.raw 0 o_, .rd a c0 encGAct dGAct 6 xs bt r]) := by
  refine ctr_of (args := [.agg #[vI q0, vI q1], .agg #[vI e_, vI g_, vI k_, .bool l_, .bool b_], .slice a xs.length c0]) (fn := Tryz.f3) (body := B3) (nt := 186) Tryz.func3 (by kernel_rfl) (by kernel_rfl) ?_
  intro F
  have hc := cfgR_ok q0
  refine go_exec (rs := [.tmp 6]) (by kernel_rfl) 4000 [.z [0, 1] 0 [2, 3, 4]] (o := .new fun b_1 => .new fun b_2 => .stop [.o [0, 1] 0, .c [1, 1]] [(2, .slice a xs.length c0), (3, vP b_1), (4, vP b_2)] [.raw 0 o_, .rd a c0 encGAct dGAct 6 xs bt r, .pts b_1 [vI q0, vI q1] 22, E93487 b_2 e_ g_ k_ l_ b_]) (by kernel_rfl) ?_
  refine ok_new fun b_1 => ?_
  refine ok_new fun b_2 => ?_
  refine ok_stop ?_
  refine go_call (some 19) [0] Tryz.call5 (law14_awake o_ (by first | assumption | omega | (simp only [InK] at *; omega))) (by kernel_rfl) ?_
  rintro v post ⟨rfl, rfl⟩
  refine go_exec (rs := [.tmp 6]) (by kernel_rfl) 4000 [.w, .e 1, .z [0, 1, 1] 2 [2, 3, 4, 7, 21]] (o := .obl (b_1 = b_1) (.stop [.o [0, 1, 1] 2, .c [1, 1, 1]] [(2, .slice a xs.length c0), (3, vP b_1), (4, vP b_2), (7, .bool true), (21, vI q0)] [.rd a c0 encGAct dGAct 6 xs bt r, .pts b_1 [vI q0, vI q1] 22, E93487 b_2 e_ g_ k_ l_ b_, .raw 0 o_])) (by kernel_rfl) ?_
  refine ok_obl rfl ?_
  refine ok_stop ?_
  refine go_call (some 22) [] Tryz.call6 (law14_config q0) (by kernel_rfl) ?_
  rintro v post ⟨rfl, rfl⟩
  refine go_exec (rs := [.tmp 6]) (by kernel_rfl) 4000 [.e 4, .e 4, .z [0, 1, 1, 1] 1 [2, 3, 4, 7, 8, 24]] (o := .new fun b_4 => .obl (b_4 = b_4) (.obl (b_4 = b_4) (.stop [.o [0, 1, 1, 1] 1, .c [1, 1, 1, 1]] [(2, .slice a xs.length c0), (3, vP b_1), (4, vP b_2), (7, .bool true), (8, vP b_4), (24, cfgV (cfgR q0))] [.rd a c0 encGAct dGAct 6 xs bt r, .pts b_1 [vI q0, vI q1] 22, E93487 b_2 e_ g_ k_ l_ b_, .raw 0 o_, Ee1539 b_4 (cfgR q0)]))) (by kernel_rfl) ?_
  refine ok_new fun b_4 => ?_
  refine ok_obl rfl ?_
  refine ok_obl rfl ?_
  refine ok_stop ?_
  refine go_call (some 25) [] Tryz.call7 (plan_Make (cfgR q0) hc) (by kernel_rfl) ?_
  rintro v post ⟨ba_5, aw_6, cw_7, rfl, rfl⟩
  refine go_exec (rs := [.tmp 6]) (by kernel_rfl) 4000 [.e 4, .z [0, 1, 1, 1, 1] 1 [2, 3, 4, 7, 8, 9, 28]] (o := .obl (b_4 = b_4) (.stop [.o [0, 1, 1, 1, 1] 1, .c [1, 1, 1, 1, 1]] [(2, .slice a xs.length c0), (3, vP b_1), (4, vP b_2), (7, .bool true), (8, vP b_4), (9, vP ba_5), (28, cfgV (cfgR q0))] [.rd a c0 encGAct dGAct 6 xs bt r, .pts b_1 [vI q0, vI q1] 22, E93487 b_2 e_ g_ k_ l_ b_, .raw 0 o_, Ee1539 b_4 (cfgR q0), E21626 ba_5 (mkAr (cfgR q0) aw_6 cw_7), E671ef (mkAr (cfgR q0) aw_6 cw_7)])) (by kernel_rfl) ?_
  refine ok_obl rfl ?_
  refine ok_stop ?_
  refine go_call (some 29) [] Tryz.call8 (ref_MakeX (cfgR q0) hc) (by kernel_rfl) ?_
  rintro v post ⟨ra_8, aw_9, cw_10, rfl, rfl⟩
  refine go_exec (rs := [.tmp 6]) (by kernel_rfl) 4000 [.z [0, 1, 1, 1, 1, 1, 1] 0 [2, 3, 4, 7, 8, 9, 11]] (o := .stop [.c [0, 1, 1, 1, 1, 1, 1], .c [1, 1, 1, 1, 1, 1, 1]] [(2, .slice a xs.length c0), (3, vP b_1), (4, vP b_2), (7, .bool true), (8, vP b_4), (9, vP ba_5), (11, vP ra_8)] [.rd a c0 encGAct dGAct 6 xs bt r, .pts b_1 [vI q0, vI q1] 22, E93487 b_2 e_ g_ k_ l_ b_, .raw 0 o_, Ee1539 b_4 (cfgR q0), E21626 ba_5 (mkAr (cfgR q0) aw_6 cw_7), E671ef (mkAr (cfgR q0) aw_6 cw_7), E3ba87 ra_8 (rmAr (cfgR q0) (rpackW (cfgR q0)) aw_9 cw_10) false 0, E671ef (rmAr (cfgR q0) (rpackW (cfgR q0)) aw_9 cw_10)]) (by kernel_rfl) ?_
  refine ok_stop ?_
  have hA00 := mkAr_ok hc aw_6 cw_7
  have hT0 := rm_twinR q0 aw_6 aw_9 cw_7 cw_10
  have hB00 := rm_arW hc hA00 hT0
  have hwd0 := ctlAt_ok hc (i := 1) (by show (0 : Int) ≤ 1 ∧ (1 : Int) < 2; decide)
  have hwd1 := ctlAt_pos hc (i := 1) (by show (0 : Int) ≤ 1 ∧ (1 : Int) < 2; decide)
  have hA01 := hA00.1
  have hA02 := hA00.2.1
  have hA03 := hA00.2.2.2
  have hB01 := hB00.1
  have hB02 := hB00.2.1
  have hB03 := hB00.2.2.2
  refine go_tail_call (dst := (some 37)) (ps := [b_4 = b_4, b_2 = b_2]) (cs := [(10, #[cfgV (cfgR q0), vI 1], vI (ctlAt (cfgR q0) 1)), (11, #[.agg #[vI e_, vI g_, vI k_, .bool l_, .bool b_]], vU (ctlW e_ g_ k_ l_ b_))]) [(0, .h .w), (1, .h (.e 4)), (2, .q (vI (ctlAt (cfgR q0) 1))), (3, .h (.e 2)), (4, .q (vU (ctlW e_ g_ k_ l_ b_)))] 5 [] [5, 6] [2, 3, 4, 7, 8, 9, 11] (by kernel_rfl) Tryz.call9 (arena_Store ba_5 (mkAr (cfgR q0) aw_6 cw_7) (ctlAt (cfgR q0) 1) (ctlW e_ g_ k_ l_ b_) (by first | exact hpa | exact hA01) (by omega) (by omega)) (by kernel_rfl) ⟨rfl, rfl, trivial⟩ ⟨⟨Tryz.call10, quiet_of [] (plan_Control (cfgR q0) 1 hc) (by kernel_rfl) (by rintro v post ⟨rfl, rfl⟩; exact ⟨rfl, rfl⟩)⟩, ⟨Tryz.call11, quiet_of [] (law14_word e_ g_ k_ l_ b_) (by kernel_rfl) (by rintro v post ⟨rfl, rfl⟩; exact ⟨rfl, rfl⟩)⟩, trivial⟩ ?_
  rintro v post ⟨rfl, rfl⟩
  refine tail_next (tm' := [(2, .slice a xs.length c0), (3, vP b_1), (4, vP b_2), (7, .bool true), (8, vP b_4), (9, vP ba_5), (11, vP ra_8)]) (ps2 := []) (by kernel_rfl) trivial ?_
  refine go_exec (rs := [.tmp 6]) (by kernel_rfl) 4000 [.z [0, 1, 1, 1, 1, 1, 1, 1] 0 [2, 3, 4, 7, 8, 9, 11]] (o := .stop [.c [0, 1, 1, 1, 1, 1, 1, 1], .c [1, 1, 1, 1, 1, 1, 1, 1]] [(2, .slice a xs.length c0), (3, vP b_1), (4, vP b_2), (7, .bool true), (8, vP b_4), (9, vP ba_5), (11, vP ra_8)] [.rd a c0 encGAct dGAct 6 xs bt r, .pts b_1 [vI q0, vI q1] 22, E93487 b_2 e_ g_ k_ l_ b_, .raw 0 o_, Ee1539 b_4 (cfgR q0), E3ba87 ra_8 (rmAr (cfgR q0) (rpackW (cfgR q0)) aw_9 cw_10) false 0, E671ef (rmAr (cfgR q0) (rpackW (cfgR q0)) aw_9 cw_10), E21626 ba_5 ((mkAr (cfgR q0) aw_6 cw_7).store (ctlAt (cfgR q0) 1) (ctlW e_ g_ k_ l_ b_)), E671ef ((mkAr (cfgR q0) aw_6 cw_7).store (ctlAt (cfgR q0) 1) (ctlW e_ g_ k_ l_ b_))]) (by kernel_rfl) ?_
  refine ok_stop ?_
  refine go_tail_call (dst := (some 43)) (ps := [b_4 = b_4, b_2 = b_2]) (cs := [(13, #[cfgV (cfgR q0), vI 1], vI (ctlAt (cfgR q0) 1)), (11, #[.agg #[vI e_, vI g_, vI k_, .bool l_, .bool b_]], vU (ctlW e_ g_ k_ l_ b_))]) [(0, .h .w), (1, .h (.e 4)), (2, .q (vI (ctlAt (cfgR q0) 1))), (3, .h (.e 2)), (4, .q (vU (ctlW e_ g_ k_ l_ b_)))] 5 [] [5, 6] [2, 3, 7, 8, 9, 11] (by kernel_rfl) Tryz.call12 (ref_Store ra_8 (rmAr (cfgR q0) (rpackW (cfgR q0)) aw_9 cw_10) (ctlAt (cfgR q0) 1) (ctlW e_ g_ k_ l_ b_) (by first | exact hpc | exact hB01) (by omega) (by omega)) (by kernel_rfl) ⟨rfl, rfl, trivial⟩ ⟨⟨Tryz.call13, quiet_of [] (ref_Control (cfgR q0) 1 (by first | assumption | omega | (simp only [InK] at *; omega)) (by show (0 : Int) ≤ 1 ∧ (1 : Int) < 2; decide)) (by kernel_rfl) (by rintro v post ⟨rfl, rfl⟩; exact ⟨rfl, rfl⟩)⟩, ⟨Tryz.call11, quiet_of [] (law14_word e_ g_ k_ l_ b_) (by kernel_rfl) (by rintro v post ⟨rfl, rfl⟩; exact ⟨rfl, rfl⟩)⟩, trivial⟩ ?_
  rintro v post ⟨rfl, rfl⟩
  refine tail_next (tm' := [(2, .slice a xs.length c0), (3, vP b_1), (7, .bool true), (8, vP b_4), (9, vP ba_5), (11, vP ra_8)]) (ps2 := []) (by kernel_rfl) trivial ?_
  refine go_exec (rs := [.tmp 6]) (by kernel_rfl) 4000 [.e 4, .w, .e 1, .z [0, 1, 1, 1, 1, 1, 1, 1, 1] 4 [2, 3, 7, 8, 9, 11, 44, 47]] (o := .obl (b_4 = b_4) (.obl (b_1 = b_1) (.stop [.o [0, 1, 1, 1, 1, 1, 1, 1, 1] 4, .c [1, 1, 1, 1, 1, 1, 1, 1, 1]] [(2, .slice a xs.length c0), (3, vP b_1), (7, .bool true), (8, vP b_4), (9, vP ba_5), (11, vP ra_8), (44, cfgV (cfgR q0)), (47, vI (bAnd .i64 q1 3))] [.rd a c0 encGAct dGAct 6 xs bt r, .pts b_1 [vI q0, vI q1] 22, E93487 b_2 e_ g_ k_ l_ b_, .raw 0 o_, Ee1539 b_4 (cfgR q0), E21626 ba_5 ((mkAr (cfgR q0) aw_6 cw_7).store (ctlAt (cfgR q0) 1) (ctlW e_ g_ k_ l_ b_)), E671ef ((mkAr (cfgR q0) aw_6 cw_7).store (ctlAt (cfgR q0) 1) (ctlW e_ g_ k_ l_ b_)), E3ba87 ra_8 ((rmAr (cfgR q0) (rpackW (cfgR q0)) aw_9 cw_10).store (ctlAt (cfgR q0) 1) (ctlW e_ g_ k_ l_ b_)) false 0, E671ef ((rmAr (cfgR q0) (rpackW (cfgR q0)) aw_9 cw_10).store (ctlAt (cfgR q0) 1) (ctlW e_ g_ k_ l_ b_))]))) (by kernel_rfl) ?_
  refine ok_obl rfl ?_
  refine ok_obl rfl ?_
  refine ok_stop ?_
  refine go_call (some 48) [] Tryz.call14 (guard_New (cfgR q0) 1 0 1 (bAnd .i64 q1 3) hc (by show (0 : Int) ≤ _ ∧ (_ : Int) < 2; decide) (by show (0 : Int) ≤ _ ∧ (_ : Int) < 2; decide) (by show (0 : Int) ≤ _ ∧ (_ : Int) < 2; decide)) (by kernel_rfl) ?_
  rintro v post ⟨g_11, rfl, rfl⟩
  refine go_exec (rs := [.tmp 6]) (by kernel_rfl) 4000 [.e 4, .w, .e 1, .z [0, 1, 1, 1, 1, 1, 1, 1, 1, 1] 4 [2, 7, 8, 9, 11, 12, 49, 52]] (o := .obl (b_4 = b_4) (.obl (b_1 = b_1) (.stop [.o [0, 1, 1, 1, 1, 1, 1, 1, 1, 1] 4, .c [1, 1, 1, 1, 1, 1, 1, 1, 1, 1]] [(2, .slice a xs.length c0), (7, .bool true), (8, vP b_4), (9, vP ba_5), (11, vP ra_8), (12, vP g_11), (49, cfgV (cfgR q0)), (52, vI (bAnd .i64 q1 3))] [.rd a c0 encGAct dGAct 6 xs bt r, .pts b_1 [vI q0, vI q1] 22, E93487 b_2 e_ g_ k_ l_ b_, .raw 0 o_, Ee1539 b_4 (cfgR q0), E21626 ba_5 ((mkAr (cfgR q0) aw_6 cw_7).store (ctlAt (cfgR q0) 1) (ctlW e_ g_ k_ l_ b_)), E671ef ((mkAr (cfgR q0) aw_6 cw_7).store (ctlAt (cfgR q0) 1) (ctlW e_ g_ k_ l_ b_)), E3ba87 ra_8 ((rmAr (cfgR q0) (rpackW (cfgR q0)) aw_9 cw_10).store (ctlAt (cfgR q0) 1) (ctlW e_ g_ k_ l_ b_)) false 0, E671ef ((rmAr (cfgR q0) (rpackW (cfgR q0)) aw_9 cw_10).store (ctlAt (cfgR q0) 1) (ctlW e_ g_ k_ l_ b_)), E6725d g_11 (cfgR q0) ((newGu (cfgR q0) 1 0 1 (bAnd .i64 q1 3)).client) ((newGu (cfgR q0) 1 0 1 (bAnd .i64 q1 3)).epoch) ((newGu (cfgR q0) 1 0 1 (bAnd .i64 q1 3)).slot) ((newGu (cfgR q0) 1 0 1 (bAnd .i64 q1 3)).word) (nxG g_11 (newGu (cfgR q0) 1 0 1 (bAnd .i64 q1 3)).ph) ((newGu (cfgR q0) 1 0 1 (bAnd .i64 q1 3)).seen) ((newGu (cfgR q0) 1 0 1 (bAnd .i64 q1 3)).block) ((newGu (cfgR q0) 1 0 1 (bAnd .i64 q1 3)).failed) ((newGu (cfgR q0) 1 0 1 (bAnd .i64 q1 3)).commit) (errV (newGu (cfgR q0) 1 0 1 (bAnd .i64 q1 3)).code)]))) (by kernel_rfl) ?_
  refine ok_obl rfl ?_
  refine ok_obl rfl ?_
  refine ok_stop ?_
  refine go_call (some 53) [] Tryz.call15 (ref14_New (cfgR q0) 1 0 1 (bAnd .i64 q1 3) hc (by show (0 : Int) ≤ 1 ∧ (1 : Int) < 2; decide) (by show (0 : Int) ≤ 0 ∧ (0 : Int) < 2; decide) (by show (0 : Int) ≤ 1 ∧ (1 : Int) < 2; decide)) (by kernel_rfl) ?_
  rintro v post ⟨g_12, rfl, rfl⟩
  refine go_exec (rs := [.tmp 6]) (by kernel_rfl) 4000 [.z [0, 0, 1, 1, 1, 1, 1, 1, 1, 1, 1, 1] 0 [2, 7, 8, 9, 11, 12, 13]] (o := .stop [.o [0, 0, 1, 1, 1, 1, 1, 1, 1, 1, 1, 1] 0, .c [1, 0, 1, 1, 1, 1, 1, 1, 1, 1, 1, 1], .c [1, 1, 1, 1, 1, 1, 1, 1, 1, 1, 1]] [(2, .slice a xs.length c0), (7, .bool true), (8, vP b_4), (9, vP ba_5), (11, vP ra_8), (12, vP g_11), (13, vP g_12)] [.rd a c0 encGAct dGAct 6 xs bt r, .pts b_1 [vI q0, vI q1] 22, E93487 b_2 e_ g_ k_ l_ b_, .raw 0 o_, Ee1539 b_4 (cfgR q0), E21626 ba_5 ((mkAr (cfgR q0) aw_6 cw_7).store (ctlAt (cfgR q0) 1) (ctlW e_ g_ k_ l_ b_)), E671ef ((mkAr (cfgR q0) aw_6 cw_7).store (ctlAt (cfgR q0) 1) (ctlW e_ g_ k_ l_ b_)), E3ba87 ra_8 ((rmAr (cfgR q0) (rpackW (cfgR q0)) aw_9 cw_10).store (ctlAt (cfgR q0) 1) (ctlW e_ g_ k_ l_ b_)) false 0, E671ef ((rmAr (cfgR q0) (rpackW (cfgR q0)) aw_9 cw_10).store (ctlAt (cfgR q0) 1) (ctlW e_ g_ k_ l_ b_)), E6725d g_11 (cfgR q0) ((newGu (cfgR q0) 1 0 1 (bAnd .i64 q1 3)).client) ((newGu (cfgR q0) 1 0 1 (bAnd .i64 q1 3)).epoch) ((newGu (cfgR q0) 1 0 1 (bAnd .i64 q1 3)).slot) ((newGu (cfgR q0) 1 0 1 (bAnd .i64 q1 3)).word) (nxG g_11 (newGu (cfgR q0) 1 0 1 (bAnd .i64 q1 3)).ph) ((newGu (cfgR q0) 1 0 1 (bAnd .i64 q1 3)).seen) ((newGu (cfgR q0) 1 0 1 (bAnd .i64 q1 3)).block) ((newGu (cfgR q0) 1 0 1 (bAnd .i64 q1 3)).failed) ((newGu (cfgR q0) 1 0 1 (bAnd .i64 q1 3)).commit) (errV (newGu (cfgR q0) 1 0 1 (bAnd .i64 q1 3)).code), Ed23d1 g_12 (cfgR q0) ((newGu (cfgR q0) 1 0 1 (bAnd .i64 q1 3)).client) 0 1 ((newGu (cfgR q0) 1 0 1 (bAnd .i64 q1 3)).epoch) (((newGu (cfgR q0) 1 0 1 (bAnd .i64 q1 3)).ph : Nat) : Int) ((newGu (cfgR q0) 1 0 1 (bAnd .i64 q1 3)).failed) ((newGu (cfgR q0) 1 0 1 (bAnd .i64 q1 3)).block) ((newGu (cfgR q0) 1 0 1 (bAnd .i64 q1 3)).commit) ((newGu (cfgR q0) 1 0 1 (bAnd .i64 q1 3)).seen) ((newGu (cfgR q0) 1 0 1 (bAnd .i64 q1 3)).code)]) (by kernel_rfl) ?_
  refine ok_stop ?_
  have hA0 := mkAr_ok hc aw_6 cw_7
  have hA1 : ArW (cfgR q0) ((mkAr (cfgR q0) aw_6 cw_7).store (ctlAt (cfgR q0) 1) (ctlW e_ g_ k_ l_ b_)) 41 := hA0.store _ (ctlW_rng _ _ _ _ _)
  have hG1 : Gu.Ok (cfgR q0) ((mkAr (cfgR q0) aw_6 cw_7).store (ctlAt (cfgR q0) 1) (ctlW e_ g_ k_ l_ b_)).n (newGu (cfgR q0) 1 0 1 (bAnd .i64 q1 3)) := newGu_ok hc hA1.2.1 (by show (0 : Int) ≤ 1 ∧ (1 : Int) < 2; decide) (by show (0 : Int) ≤ 0 ∧ (0 : Int) < 2; decide) (by show (0 : Int) ≤ 1 ∧ (1 : Int) < 2; decide)
  have hfw := first_ws q0 aw_6 cw_7 (ctlW e_ g_ k_ l_ b_) (i := 1) (by decide)
  obtain ⟨hw0, hw1, hwW, hs0, hs1, hs2, hs3⟩ := hfw
  have hcr := ctl_rng (ctlW_rng e_ g_ k_ l_ b_)
  have hst2 := hA1.2.2.2
  have hst1 := hA1.2.1
  have hB1 : ArW (cfgR q0) ((rmAr (cfgR q0) (rpackW (cfgR q0)) aw_9 cw_10).store (ctlAt (cfgR q0) 1) (ctlW e_ g_ k_ l_ b_)) 41 := hB00.store _ (ctlW_rng _ _ _ _ _)
  have hT1 : Go.Sx.Twin ((mkAr (cfgR q0) aw_6 cw_7).store (ctlAt (cfgR q0) 1) (ctlW e_ g_ k_ l_ b_)) ((rmAr (cfgR q0) (rpackW (cfgR q0)) aw_9 cw_10).store (ctlAt (cfgR q0) 1) (ctlW e_ g_ k_ l_ b_)) 0 := hT0.store _ _
  have hwd : 0 ≤ (ctlAt (cfgR q0) 1) ∧ (ctlAt (cfgR q0) 1) < sizeOfC (cfgR q0) := by omega
  have hp00 : PgOk (cfgR q0) (ctlAt (cfgR q0) 1) (slotAt (cfgR q0) 0) ⟨0, (newGu (cfgR q0) 1 0 1 (bAnd .i64 q1 3)), ((mkAr (cfgR q0) aw_6 cw_7).store (ctlAt (cfgR q0) 1) (ctlW e_ g_ k_ l_ b_)), (newGu (cfgR q0) 1 0 1 (bAnd .i64 q1 3)), ((rmAr (cfgR q0) (rpackW (cfgR q0)) aw_9 cw_10).store (ctlAt (cfgR q0) 1) (ctlW e_ g_ k_ l_ b_))⟩ := ⟨Int.le_refl 0, hG1, hA1.mono (by show (41 : Int) ≤ 50 + 0; decide), hB1.mono (by show (41 : Int) ≤ 50 + 0; decide), hT1, rfl, rfl, rfl⟩
  refine go_exec (rs := [.tmp 6]) (by kernel_rfl) 4000 [.z [0, 1, 0, 1, 1, 1, 1, 1, 1, 1, 1, 1, 1, 1] 0 [2, 7, 8, 9, 11, 12, 13, 14]] (o := .stop [.c [0, 1, 0, 1, 1, 1, 1, 1, 1, 1, 1, 1, 1, 1], .b 0, .c [1, 1, 1, 1, 1, 1, 1, 1, 1, 1, 1, 1]] [(2, .slice a xs.length c0), (7, .bool true), (8, vP b_4), (9, vP ba_5), (11, vP ra_8), (12, vP g_11), (13, vP g_12), (14, vI 0)] [.rd a c0 encGAct dGAct 6 xs bt r, .pts b_1 [vI q0, vI q1] 22, E93487 b_2 e_ g_ k_ l_ b_, .raw 0 o_, Ee1539 b_4 (cfgR q0), E21626 ba_5 ((mkAr (cfgR q0) aw_6 cw_7).store (ctlAt (cfgR q0) 1) (ctlW e_ g_ k_ l_ b_)), E671ef ((mkAr (cfgR q0) aw_6 cw_7).store (ctlAt (cfgR q0) 1) (ctlW e_ g_ k_ l_ b_)), E3ba87 ra_8 ((rmAr (cfgR q0) (rpackW (cfgR q0)) aw_9 cw_10).store (ctlAt (cfgR q0) 1) (ctlW e_ g_ k_ l_ b_)) false 0, E671ef ((rmAr (cfgR q0) (rpackW (cfgR q0)) aw_9 cw_10).store (ctlAt (cfgR q0) 1) (ctlW e_ g_ k_ l_ b_)), E6725d g_11 (cfgR q0) ((newGu (cfgR q0) 1 0 1 (bAnd .i64 q1 3)).client) ((newGu (cfgR q0) 1 0 1 (bAnd .i64 q1 3)).epoch) ((newGu (cfgR q0) 1 0 1 (bAnd .i64 q1 3)).slot) ((newGu (cfgR q0) 1 0 1 (bAnd .i64 q1 3)).word) (nxG g_11 (newGu (cfgR q0) 1 0 1 (bAnd .i64 q1 3)).ph) ((newGu (cfgR q0) 1 0 1 (bAnd .i64 q1 3)).seen) ((newGu (cfgR q0) 1 0 1 (bAnd .i64 q1 3)).block) ((newGu (cfgR q0) 1 0 1 (bAnd .i64 q1 3)).failed) ((newGu (cfgR q0) 1 0 1 (bAnd .i64 q1 3)).commit) (errV (newGu (cfgR q0) 1 0 1 (bAnd .i64 q1 3)).code), Ed23d1 g_12 (cfgR q0) ((newGu (cfgR q0) 1 0 1 (bAnd .i64 q1 3)).client) 0 1 ((newGu (cfgR q0) 1 0 1 (bAnd .i64 q1 3)).epoch) (((newGu (cfgR q0) 1 0 1 (bAnd .i64 q1 3)).ph : Nat) : Int) ((newGu (cfgR q0) 1 0 1 (bAnd .i64 q1 3)).failed) ((newGu (cfgR q0) 1 0 1 (bAnd .i64 q1 3)).block) ((newGu (cfgR q0) 1 0 1 (bAnd .i64 q1 3)).commit) ((newGu (cfgR q0) 1 0 1 (bAnd .i64 q1 3)).seen) ((newGu (cfgR q0) 1 0 1 (bAnd .i64 q1 3)).code)]) (by kernel_rfl) ?_
  refine ok_stop ?_
  refine go_loop (ι := Pg) (fun p => [(2, .slice a xs.length c0), (7, .bool true), (8, vP b_4), (9, vP ba_5), (11, vP ra_8), (12, vP g_11), (13, vP g_12), (14, vI p.i)]) (fun p => [.raw 0 o_, Ee1539 b_4 (cfgR q0), E6725d g_11 (cfgR q0) p.G.client p.G.epoch p.G.slot p.G.word (nxG g_11 p.G.ph) p.G.seen p.G.block p.G.failed p.G.commit (errV p.G.code), E21626 ba_5 p.A, E671ef p.A, .rd a c0 encGAct dGAct 6 xs bt r, Ed23d1 g_12 (cfgR q0) p.H.client 0 1 p.H.epoch ((p.H.ph : Nat) : Int) p.H.failed p.H.block p.H.commit p.H.seen p.H.code, E3ba87 ra_8 p.B false 0, E671ef p.B]) (fun p => PgOk (cfgR q0) (ctlAt (cfgR q0) 1) (slotAt (cfgR q0) 0) p ∧ p.i ≤ 40) (fun p => ((xs.length : Int) - p.i).toNat) (⟨0, (newGu (cfgR q0) 1 0 1 (bAnd .i64 q1 3)), ((mkAr (cfgR q0) aw_6 cw_7).store (ctlAt (cfgR q0) 1) (ctlW e_ g_ k_ l_ b_)), (newGu (cfgR q0) 1 0 1 (bAnd .i64 q1 3)), ((rmAr (cfgR q0) (rpackW (cfgR q0)) aw_9 cw_10).store (ctlAt (cfgR q0) 1) (ctlW e_ g_ k_ l_ b_))⟩ : Pg) [2, 7, 8, 9, 11, 12, 13, 14] [3, 4, 9, 5, 6, 0, 10, 7, 8] (by kernel_rfl) (by kernel_rfl) (by kernel_rfl) (by kernel_rfl) ⟨hp00, (by dsimp only; omega)⟩ ?_
  intro p J_13 hIJ_13 hJ_13
  have hp := hIJ_13.1
  have hpi := hIJ_13.2
  have hp0 := hp.i
  have hpa := hp.a.1
  have hpb := hp.a.2.1
  have hps := hp.a.2.2.2
  have hpc := hp.b.1
  have hpd := hp.b.2.1
  have hpe := hp.b.2.2.2
  have hstep := hp.step hc
  have hh : (p.H.step (cfgR q0).retry p.B).1 = (p.G.step (cfgR q0).retry p.A).1 := hstep.h
  have hts : (p.G.step (cfgR q0).retry p.A).2.steps - (p.H.step (cfgR q0).retry p.B).2.steps = 0 := hstep.tw.steps
  have hqa : (p.G.step (cfgR q0).retry p.A).2.ws.length = (p.G.step (cfgR q0).retry p.A).2.n := hstep.a.1
  have hqb : ((p.G.step (cfgR q0).retry p.A).2.n : Int) = sizeOfC (cfgR q0) := hstep.a.2.1
  have hqs : 0 ≤ (p.G.step (cfgR q0).retry p.A).2.steps ∧ (p.G.step (cfgR q0).retry p.A).2.steps ≤ 50 + (p.i + 1) := hstep.a.2.2.2
  have htl : [((p.G.step (cfgR q0).retry p.A).2.lk == (p.H.step (cfgR q0).retry p.B).2.lk), ((p.G.step (cfgR q0).retry p.A).2.lw == (p.H.step (cfgR q0).retry p.B).2.lw), ((p.G.step (cfgR q0).retry p.A).2.lv == (p.H.step (cfgR q0).retry p.B).2.lv), ((p.G.step (cfgR q0).retry p.A).2.lc == (p.H.step (cfgR q0).retry p.B).2.lc)].all id = true := tw_last hstep.tw
  refine go_exec (rs := [.tmp 6]) (by kernel_rfl) 4000 [.sp [60, 59] [.sp [63, 62] [.s 5, .z [0, 0, 0, 0, 1, 0, 0, 1, 0, 1, 1, 1, 1, 1, 1, 1, 1, 1, 1, 1] 4 [2, 7, 8, 9, 11, 12, 13, 14, 69]] [.z [0, 1, 1, 1, 1, 1, 1, 1, 1, 1, 1, 1, 1] 0 [7, 9, 11]]] [.z [0, 1, 1, 1, 1, 1, 1, 1, 1, 1, 1, 1, 1] 0 [7, 9, 11]]] (o := .obl ((decide (p.i < ((xs.length : Nat) : Int))) = (decide (p.i < ((xs.length : Nat) : Int)))) (.br (decide (p.i < ((xs.length : Nat) : Int))) (.obl ((decide (p.i < 40)) = (decide (p.i < 40))) (.br (decide (p.i < 40)) (.obl (a = a ∧ xs.length = xs.length) (.obl ((0 : Int) ≤ p.i ∧ p.i < ((xs.length : Nat) : Int)) (.stop [.o [0, 0, 0, 0, 1, 0, 0, 1, 0, 1, 1, 1, 1, 1, 1, 1, 1, 1, 1, 1] 4, .c [1, 0, 0, 0, 1, 0, 0, 1, 0, 1, 1, 1, 1, 1, 1, 1, 1, 1, 1, 1], .c [1, 0, 0, 1, 0, 0, 1, 0, 1, 1, 1, 1, 1, 1, 1, 1, 1, 1, 1], .b 1, .c [1, 1, 0, 0, 1, 0, 1, 1, 1, 1, 1, 1, 1, 1, 1, 1, 1], .j J_13, .b 0, .c [1, 1, 1, 1, 1, 1, 1, 1, 1, 1, 1, 1]] [(2, .slice a xs.length c0), (7, .bool true), (8, vP b_4), (9, vP ba_5), (11, vP ra_8), (12, vP g_11), (13, vP g_12), (14, vI p.i), (69, .pointer (some ((slAd a p.i.toNat 6).add 0)))] [.raw 0 o_, Ee1539 b_4 (cfgR q0), E6725d g_11 (cfgR q0) p.G.client p.G.epoch p.G.slot p.G.word (nxG g_11 p.G.ph) p.G.seen p.G.block p.G.failed p.G.commit (errV p.G.code), E21626 ba_5 p.A, E671ef p.A, .rd a c0 encGAct dGAct 6 xs bt r, Ed23d1 g_12 (cfgR q0) p.H.client 0 1 p.H.epoch ((p.H.ph : Nat) : Int) p.H.failed p.H.block p.H.commit p.H.seen p.H.code, E3ba87 ra_8 p.B false 0, E671ef p.B]))) (.stop [.c [0, 1, 1, 1, 1, 1, 1, 1, 1, 1, 1, 1, 1], .c [1, 1, 1, 1, 1, 1, 1, 1, 1, 1, 1, 1, 1]] [(7, .bool true), (9, vP ba_5), (11, vP ra_8)] [.raw 0 o_, Ee1539 b_4 (cfgR q0), E6725d g_11 (cfgR q0) p.G.client p.G.epoch p.G.slot p.G.word (nxG g_11 p.G.ph) p.G.seen p.G.block p.G.failed p.G.commit (errV p.G.code), E21626 ba_5 p.A, E671ef p.A, .rd a c0 encGAct dGAct 6 xs bt r, Ed23d1 g_12 (cfgR q0) p.H.client 0 1 p.H.epoch ((p.H.ph : Nat) : Int) p.H.failed p.H.block p.H.commit p.H.seen p.H.code, E3ba87 ra_8 p.B false 0, E671ef p.B]))) (.stop [.c [0, 1, 1, 1, 1, 1, 1, 1, 1, 1, 1, 1, 1], .c [1, 1, 1, 1, 1, 1, 1, 1, 1, 1, 1, 1, 1]] [(7, .bool true), (9, vP ba_5), (11, vP ra_8)] [.raw 0 o_, Ee1539 b_4 (cfgR q0), E6725d g_11 (cfgR q0) p.G.client p.G.epoch p.G.slot p.G.word (nxG g_11 p.G.ph) p.G.seen p.G.block p.G.failed p.G.commit (errV p.G.code), E21626 ba_5 p.A, E671ef p.A, .rd a c0 encGAct dGAct 6 xs bt r, Ed23d1 g_12 (cfgR q0) p.H.client 0 1 p.H.epoch ((p.H.ph : Nat) : Int) p.H.failed p.H.block p.H.commit p.H.seen p.H.code, E3ba87 ra_8 p.B false 0, E671ef p.B]))) (by kernel_rfl) ?_
  refine ok_obl rfl ?_
  refine ok_br (fun h_14 => ?_) (fun h_14 => ?_)
  · replace h_14 := decT h_14
    refine ok_obl rfl ?_
    refine ok_br (fun h_15 => ?_) (fun h_15 => ?_)
    · replace h_15 := decT h_15
      refine ok_obl ⟨rfl, (by first | rfl | omega | (simp; done) | (simp; omega))⟩ ?_
      refine ok_obl (by first | omega | (simp; done) | (simp; omega)) ?_
      refine ok_stop ?_
      refine go_by (some 70) (ldO Tryz.prog _) (some (.pointer (some ((slAd a p.i.toNat 6).add 0)), false, 1)) (R_ldF 5 (a := a) (c := c0) (enc := encGAct) (d := dGAct) (sz := 6) (xs := xs) (te := bt) (r := r) (by kernel_rfl) p.i.toNat 0 false 1 [vI ((xs.getD p.i.toNat dGAct).kind)] (by rfl) (by rfl) (by decide) (by omega)) (by kernel_rfl) ?_
      rintro v L2 ⟨rfl, rfl⟩
      refine go_cast (tm' := [(70, vI ((xs.getD p.i.toNat dGAct).kind)), (2, .slice a xs.length c0), (7, .bool true), (8, vP b_4), (9, vP ba_5), (11, vP ra_8), (12, vP g_11), (13, vP g_12), (14, vI p.i), (69, .pointer (some ((slAd a p.i.toNat 6).add 0)))]) (L' := [.raw 0 o_, Ee1539 b_4 (cfgR q0), E6725d g_11 (cfgR q0) p.G.client p.G.epoch p.G.slot p.G.word (nxG g_11 p.G.ph) p.G.seen p.G.block p.G.failed p.G.commit (errV p.G.code), E21626 ba_5 p.A, E671ef p.A, .rd a c0 encGAct dGAct 6 xs bt r, Ed23d1 g_12 (cfgR q0) p.H.client 0 1 p.H.epoch ((p.H.ph : Nat) : Int) p.H.failed p.H.block p.H.commit p.H.seen p.H.code, E3ba87 ra_8 p.B false 0, E671ef p.B]) rfl ?_
      refine go_exec (rs := [.tmp 6]) (by kernel_rfl) 4000 [.sp [72] [.z [0, 0, 1, 0, 0, 0, 1, 0, 0, 1, 0, 1, 1, 1, 1, 1, 1, 1, 1, 1, 1, 1] 0 [2, 7, 8, 9, 11, 12, 13, 14]] [.z [0, 1, 0, 0, 1, 0, 0, 1, 0, 1, 1, 1, 1, 1, 1, 1, 1, 1, 1, 1] 2 [2, 7, 8, 9, 11, 12, 13, 14, 93, 94]]] (o := .br ((bAnd .i64 ((xs.getD p.i.toNat dGAct).kind) 3) == 0) (.stop [.c [0, 0, 1, 0, 0, 0, 1, 0, 0, 1, 0, 1, 1, 1, 1, 1, 1, 1, 1, 1, 1, 1], .c [1, 0, 1, 0, 0, 0, 1, 0, 0, 1, 0, 1, 1, 1, 1, 1, 1, 1, 1, 1, 1, 1], .c [1, 0, 0, 1, 0, 0, 1, 0, 1, 1, 1, 1, 1, 1, 1, 1, 1, 1, 1], .b 1, .c [1, 1, 0, 0, 1, 0, 1, 1, 1, 1, 1, 1, 1, 1, 1, 1, 1], .j J_13, .b 0, .c [1, 1, 1, 1, 1, 1, 1, 1, 1, 1, 1, 1]] [(2, .slice a xs.length c0), (7, .bool true), (8, vP b_4), (9, vP ba_5), (11, vP ra_8), (12, vP g_11), (13, vP g_12), (14, vI p.i)] [.raw 0 o_, Ee1539 b_4 (cfgR q0), E6725d g_11 (cfgR q0) p.G.client p.G.epoch p.G.slot p.G.word (nxG g_11 p.G.ph) p.G.seen p.G.block p.G.failed p.G.commit (errV p.G.code), E21626 ba_5 p.A, E671ef p.A, .rd a c0 encGAct dGAct 6 xs bt r, Ed23d1 g_12 (cfgR q0) p.H.client 0 1 p.H.epoch ((p.H.ph : Nat) : Int) p.H.failed p.H.block p.H.commit p.H.seen p.H.code, E3ba87 ra_8 p.B false 0, E671ef p.B]) (.stop [.o [0, 1, 0, 0, 1, 0, 0, 1, 0, 1, 1, 1, 1, 1, 1, 1, 1, 1, 1, 1] 2, .c [1, 1, 0, 0, 1, 0, 0, 1, 0, 1, 1, 1, 1, 1, 1, 1, 1, 1, 1, 1], .b 1, .c [1, 1, 0, 0, 1, 0, 1, 1, 1, 1, 1, 1, 1, 1, 1, 1, 1], .j J_13, .b 0, .c [1, 1, 1, 1, 1, 1, 1, 1, 1, 1, 1, 1]] [(2, .slice a xs.length c0), (7, .bool true), (8, vP b_4), (9, vP ba_5), (11, vP ra_8), (12, vP g_11), (13, vP g_12), (14, vI p.i), (93, vP g_11), (94, vP ba_5)] [.raw 0 o_, Ee1539 b_4 (cfgR q0), E6725d g_11 (cfgR q0) p.G.client p.G.epoch p.G.slot p.G.word (nxG g_11 p.G.ph) p.G.seen p.G.block p.G.failed p.G.commit (errV p.G.code), E21626 ba_5 p.A, E671ef p.A, .rd a c0 encGAct dGAct 6 xs bt r, Ed23d1 g_12 (cfgR q0) p.H.client 0 1 p.H.epoch ((p.H.ph : Nat) : Int) p.H.failed p.H.block p.H.commit p.H.seen p.H.code, E3ba87 ra_8 p.B false 0, E671ef p.B])) (by kernel_rfl) ?_
      refine ok_br (fun h_16 => ?_) (fun h_16 => ?_)
      · replace h_16 := beqT h_16
        refine ok_stop ?_
        refine go_lz (by kernel_rfl) (by kernel_rfl) ?_
        refine lz_node (l' := (mk 10 [0, 1, 2, 3, 4, 5, 6, 7, 8])) (V' := [0, 1, 2, 3, 4, 5, 6, 7, 8]) (T1 := [(2, .slice a xs.length c0), (7, .bool true), (8, vP b_4), (9, vP ba_5), (11, vP ra_8), (12, vP g_11), (13, vP g_12), (14, vI p.i), (73, vP ba_5), (74, cfgV (cfgR q0)), (75, vI (ctlAt (cfgR q0) 1)), (76, .slice a xs.length c0), (77, vI p.i), (78, slAt a p.i.toNat 6), (79, .pointer (some ((slAd a p.i.toNat 6).add 1))), (80, .agg #[vI ((xs.getD p.i.toNat dGAct).c.e), vI ((xs.getD p.i.toNat dGAct).c.g), vI ((xs.getD p.i.toNat dGAct).c.k), .bool ((xs.getD p.i.toNat dGAct).c.l), .bool ((xs.getD p.i.toNat dGAct).c.b)]), (81, vU (ctlW ((xs.getD p.i.toNat dGAct).c.e) ((xs.getD p.i.toNat dGAct).c.g) ((xs.getD p.i.toNat dGAct).c.k) ((xs.getD p.i.toNat dGAct).c.l) ((xs.getD p.i.toNat dGAct).c.b)))]) (ps := [b_4 = b_4, LawQ Tryz.prog F [.raw 0 o_, Ee1539 b_4 (cfgR q0), E6725d g_11 (cfgR q0) p.G.client p.G.epoch p.G.slot p.G.word (nxG g_11 p.G.ph) p.G.seen p.G.block p.G.failed p.G.commit (errV p.G.code), E21626 ba_5 p.A, E671ef p.A, .rd a c0 encGAct dGAct 6 xs bt r, Ed23d1 g_12 (cfgR q0) p.H.client 0 1 p.H.epoch ((p.H.ph : Nat) : Int) p.H.failed p.H.block p.H.commit p.H.seen p.H.code, E3ba87 ra_8 p.B false 0, E671ef p.B] (vI (ctlAt (cfgR q0) 1)) callO (10, #[cfgV (cfgR q0), vI 1]), a = a ∧ xs.length = xs.length, (0 : Int) ≤ p.i ∧ p.i < ((xs.length : Nat) : Int), LawQ Tryz.prog F [.raw 0 o_, Ee1539 b_4 (cfgR q0), E6725d g_11 (cfgR q0) p.G.client p.G.epoch p.G.slot p.G.word (nxG g_11 p.G.ph) p.G.seen p.G.block p.G.failed p.G.commit (errV p.G.code), E21626 ba_5 p.A, E671ef p.A, .rd a c0 encGAct dGAct 6 xs bt r, Ed23d1 g_12 (cfgR q0) p.H.client 0 1 p.H.epoch ((p.H.ph : Nat) : Int) p.H.failed p.H.block p.H.commit p.H.seen p.H.code, E3ba87 ra_8 p.B false 0, E671ef p.B] (.agg #[vI ((xs.getD p.i.toNat dGAct).c.e), vI ((xs.getD p.i.toNat dGAct).c.g), vI ((xs.getD p.i.toNat dGAct).c.k), .bool ((xs.getD p.i.toNat dGAct).c.l), .bool ((xs.getD p.i.toNat dGAct).c.b)]) ldO (.pointer (some ((slAd a p.i.toNat 6).add 1)), true, 5), LawQ Tryz.prog F [.raw 0 o_, Ee1539 b_4 (cfgR q0), E6725d g_11 (cfgR q0) p.G.client p.G.epoch p.G.slot p.G.word (nxG g_11 p.G.ph) p.G.seen p.G.block p.G.failed p.G.commit (errV p.G.code), E21626 ba_5 p.A, E671ef p.A, .rd a c0 encGAct dGAct 6 xs bt r, Ed23d1 g_12 (cfgR q0) p.H.client 0 1 p.H.epoch ((p.H.ph : Nat) : Int) p.H.failed p.H.block p.H.commit p.H.seen p.H.code, E3ba87 ra_8 p.B false 0, E671ef p.B] (vU (ctlW ((xs.getD p.i.toNat dGAct).c.e) ((xs.getD p.i.toNat dGAct).c.g) ((xs.getD p.i.toNat dGAct).c.k) ((xs.getD p.i.toNat dGAct).c.l) ((xs.getD p.i.toNat dGAct).c.b))) callO (11, #[.agg #[vI ((xs.getD p.i.toNat dGAct).c.e), vI ((xs.getD p.i.toNat dGAct).c.g), vI ((xs.getD p.i.toNat dGAct).c.k), .bool ((xs.getD p.i.toNat dGAct).c.l), .bool ((xs.getD p.i.toNat dGAct).c.b)]])]) [0, 1, 2, 3, 4, 5, 6, 7, 8] [(0, .h .w), (1, .h (.e 1)), (2, .q (vI (ctlAt (cfgR q0) 1))), (3, .h .w), (4, .h .w), (5, .h (.s 5)), (6, .h .w), (7, .ld (.agg #[vI ((xs.getD p.i.toNat dGAct).c.e), vI ((xs.getD p.i.toNat dGAct).c.g), vI ((xs.getD p.i.toNat dGAct).c.k), .bool ((xs.getD p.i.toNat dGAct).c.l), .bool ((xs.getD p.i.toNat dGAct).c.b)])), (8, .q (vU (ctlW ((xs.getD p.i.toNat dGAct).c.e) ((xs.getD p.i.toNat dGAct).c.g) ((xs.getD p.i.toNat dGAct).c.k) ((xs.getD p.i.toNat dGAct).c.l) ((xs.getD p.i.toNat dGAct).c.b))))] [2, 7, 8, 9, 11, 12, 13, 14, 73, 74, 75, 76, 77, 78, 79, 80, 81] [9] (by kernel_rfl) ⟨rfl, (law_call Tryz.call10 (quiet_of [] (plan_Control (cfgR q0) 1 hc) (by kernel_rfl) (by rintro v post ⟨rfl, rfl⟩; exact ⟨rfl, rfl⟩))), ⟨rfl, (by first | rfl | omega | (simp; done) | (simp; omega))⟩, (by first | omega | (simp; done) | (simp; omega)), (fun _ => (R_ldF 5 (a := a) (c := c0) (enc := encGAct) (d := dGAct) (sz := 6) (xs := xs) (te := bt) (r := r) (by kernel_rfl) p.i.toNat 1 true 5 [vI ((xs.getD p.i.toNat dGAct).c.e), vI ((xs.getD p.i.toNat dGAct).c.g), vI ((xs.getD p.i.toNat dGAct).c.k), .bool ((xs.getD p.i.toNat dGAct).c.l), .bool ((xs.getD p.i.toNat dGAct).c.b)] (by rfl) (by rfl) (by decide) (by omega))), (law_call Tryz.call11 (quiet_of [] (law14_word ((xs.getD p.i.toNat dGAct).c.e) ((xs.getD p.i.toNat dGAct).c.g) ((xs.getD p.i.toNat dGAct).c.k) ((xs.getD p.i.toNat dGAct).c.l) ((xs.getD p.i.toNat dGAct).c.b)) (by kernel_rfl) (by rintro v post ⟨rfl, rfl⟩; exact ⟨rfl, rfl⟩))), trivial⟩ ⟨?_, trivial⟩
        refine lz_call (l' := (mk 10 [0, 1, 2, 3, 4, 5, 6, 7, 8, 9])) (V' := []) (some 82) [3, 4] Tryz.call9 (arena_Store ba_5 p.A (ctlAt (cfgR q0) 1) (ctlW ((xs.getD p.i.toNat dGAct).c.e) ((xs.getD p.i.toNat dGAct).c.g) ((xs.getD p.i.toNat dGAct).c.k) ((xs.getD p.i.toNat dGAct).c.l) ((xs.getD p.i.toNat dGAct).c.b)) (by first | exact hpa | exact hA01) (by omega) (by omega)) (by kernel_rfl) ?_
        rintro v post ⟨rfl, rfl⟩
        refine lz_end (T1 := [(2, .slice a xs.length c0), (7, .bool true), (8, vP b_4), (9, vP ba_5), (11, vP ra_8), (12, vP g_11), (13, vP g_12), (14, vI p.i)]) (ps := []) [] [] [2, 7, 8, 9, 11, 12, 13, 14] (by kernel_rfl) trivial ?_
        refine go_exec (rs := [.tmp 6]) (by kernel_rfl) 4000 [.z [0, 1, 0, 1, 0, 0, 0, 1, 0, 0, 1, 0, 1, 1, 1, 1, 1, 1, 1, 1, 1, 1, 1] 0 [2, 7, 8, 9, 11, 12, 13, 14]] (o := .stop [.c [0, 1, 0, 1, 0, 0, 0, 1, 0, 0, 1, 0, 1, 1, 1, 1, 1, 1, 1, 1, 1, 1, 1], .c [1, 1, 0, 1, 0, 0, 0, 1, 0, 0, 1, 0, 1, 1, 1, 1, 1, 1, 1, 1, 1, 1, 1], .c [1, 0, 0, 1, 0, 0, 1, 0, 1, 1, 1, 1, 1, 1, 1, 1, 1, 1, 1], .b 1, .c [1, 1, 0, 0, 1, 0, 1, 1, 1, 1, 1, 1, 1, 1, 1, 1, 1], .j J_13, .b 0, .c [1, 1, 1, 1, 1, 1, 1, 1, 1, 1, 1, 1]] [(2, .slice a xs.length c0), (7, .bool true), (8, vP b_4), (9, vP ba_5), (11, vP ra_8), (12, vP g_11), (13, vP g_12), (14, vI p.i)] [.raw 0 o_, Ee1539 b_4 (cfgR q0), E6725d g_11 (cfgR q0) p.G.client p.G.epoch p.G.slot p.G.word (nxG g_11 p.G.ph) p.G.seen p.G.block p.G.failed p.G.commit (errV p.G.code), .rd a c0 encGAct dGAct 6 xs bt r, Ed23d1 g_12 (cfgR q0) p.H.client 0 1 p.H.epoch ((p.H.ph : Nat) : Int) p.H.failed p.H.block p.H.commit p.H.seen p.H.code, E3ba87 ra_8 p.B false 0, E671ef p.B, E21626 ba_5 (p.A.store (ctlAt (cfgR q0) 1) (ctlW ((xs.getD p.i.toNat dGAct).c.e) ((xs.getD p.i.toNat dGAct).c.g) ((xs.getD p.i.toNat dGAct).c.k) ((xs.getD p.i.toNat dGAct).c.l) ((xs.getD p.i.toNat dGAct).c.b))), E671ef (p.A.store (ctlAt (cfgR q0) 1) (ctlW ((xs.getD p.i.toNat dGAct).c.e) ((xs.getD p.i.toNat dGAct).c.g) ((xs.getD p.i.toNat dGAct).c.k) ((xs.getD p.i.toNat dGAct).c.l) ((xs.getD p.i.toNat dGAct).c.b)))]) (by kernel_rfl) ?_
        refine ok_stop ?_
        refine go_lz (by kernel_rfl) (by kernel_rfl) ?_
        refine lz_node (l' := (mk 10 [0, 1, 2, 3, 4, 5, 6, 7, 8])) (V' := [0, 1, 2, 3, 4, 5, 6, 7, 8]) (T1 := [(2, .slice a xs.length c0), (7, .bool true), (8, vP b_4), (9, vP ba_5), (11, vP ra_8), (12, vP g_11), (13, vP g_12), (14, vI p.i), (83, vP ra_8), (84, cfgV (cfgR q0)), (85, vI (ctlAt (cfgR q0) 1)), (86, .slice a xs.length c0), (87, vI p.i), (88, slAt a p.i.toNat 6), (89, .pointer (some ((slAd a p.i.toNat 6).add 1))), (90, .agg #[vI ((xs.getD p.i.toNat dGAct).c.e), vI ((xs.getD p.i.toNat dGAct).c.g), vI ((xs.getD p.i.toNat dGAct).c.k), .bool ((xs.getD p.i.toNat dGAct).c.l), .bool ((xs.getD p.i.toNat dGAct).c.b)]), (91, vU (ctlW ((xs.getD p.i.toNat dGAct).c.e) ((xs.getD p.i.toNat dGAct).c.g) ((xs.getD p.i.toNat dGAct).c.k) ((xs.getD p.i.toNat dGAct).c.l) ((xs.getD p.i.toNat dGAct).c.b)))]) (ps := [b_4 = b_4, LawQ Tryz.prog F [.raw 0 o_, Ee1539 b_4 (cfgR q0), E6725d g_11 (cfgR q0) p.G.client p.G.epoch p.G.slot p.G.word (nxG g_11 p.G.ph) p.G.seen p.G.block p.G.failed p.G.commit (errV p.G.code), .rd a c0 encGAct dGAct 6 xs bt r, Ed23d1 g_12 (cfgR q0) p.H.client 0 1 p.H.epoch ((p.H.ph : Nat) : Int) p.H.failed p.H.block p.H.commit p.H.seen p.H.code, E3ba87 ra_8 p.B false 0, E671ef p.B, E21626 ba_5 (p.A.store (ctlAt (cfgR q0) 1) (ctlW ((xs.getD p.i.toNat dGAct).c.e) ((xs.getD p.i.toNat dGAct).c.g) ((xs.getD p.i.toNat dGAct).c.k) ((xs.getD p.i.toNat dGAct).c.l) ((xs.getD p.i.toNat dGAct).c.b))), E671ef (p.A.store (ctlAt (cfgR q0) 1) (ctlW ((xs.getD p.i.toNat dGAct).c.e) ((xs.getD p.i.toNat dGAct).c.g) ((xs.getD p.i.toNat dGAct).c.k) ((xs.getD p.i.toNat dGAct).c.l) ((xs.getD p.i.toNat dGAct).c.b)))] (vI (ctlAt (cfgR q0) 1)) callO (13, #[cfgV (cfgR q0), vI 1]), a = a ∧ xs.length = xs.length, (0 : Int) ≤ p.i ∧ p.i < ((xs.length : Nat) : Int), LawQ Tryz.prog F [.raw 0 o_, Ee1539 b_4 (cfgR q0), E6725d g_11 (cfgR q0) p.G.client p.G.epoch p.G.slot p.G.word (nxG g_11 p.G.ph) p.G.seen p.G.block p.G.failed p.G.commit (errV p.G.code), .rd a c0 encGAct dGAct 6 xs bt r, Ed23d1 g_12 (cfgR q0) p.H.client 0 1 p.H.epoch ((p.H.ph : Nat) : Int) p.H.failed p.H.block p.H.commit p.H.seen p.H.code, E3ba87 ra_8 p.B false 0, E671ef p.B, E21626 ba_5 (p.A.store (ctlAt (cfgR q0) 1) (ctlW ((xs.getD p.i.toNat dGAct).c.e) ((xs.getD p.i.toNat dGAct).c.g) ((xs.getD p.i.toNat dGAct).c.k) ((xs.getD p.i.toNat dGAct).c.l) ((xs.getD p.i.toNat dGAct).c.b))), E671ef (p.A.store (ctlAt (cfgR q0) 1) (ctlW ((xs.getD p.i.toNat dGAct).c.e) ((xs.getD p.i.toNat dGAct).c.g) ((xs.getD p.i.toNat dGAct).c.k) ((xs.getD p.i.toNat dGAct).c.l) ((xs.getD p.i.toNat dGAct).c.b)))] (.agg #[vI ((xs.getD p.i.toNat dGAct).c.e), vI ((xs.getD p.i.toNat dGAct).c.g), vI ((xs.getD p.i.toNat dGAct).c.k), .bool ((xs.getD p.i.toNat dGAct).c.l), .bool ((xs.getD p.i.toNat dGAct).c.b)]) ldO (.pointer (some ((slAd a p.i.toNat 6).add 1)), true, 5), LawQ Tryz.prog F [.raw 0 o_, Ee1539 b_4 (cfgR q0), E6725d g_11 (cfgR q0) p.G.client p.G.epoch p.G.slot p.G.word (nxG g_11 p.G.ph) p.G.seen p.G.block p.G.failed p.G.commit (errV p.G.code), .rd a c0 encGAct dGAct 6 xs bt r, Ed23d1 g_12 (cfgR q0) p.H.client 0 1 p.H.epoch ((p.H.ph : Nat) : Int) p.H.failed p.H.block p.H.commit p.H.seen p.H.code, E3ba87 ra_8 p.B false 0, E671ef p.B, E21626 ba_5 (p.A.store (ctlAt (cfgR q0) 1) (ctlW ((xs.getD p.i.toNat dGAct).c.e) ((xs.getD p.i.toNat dGAct).c.g) ((xs.getD p.i.toNat dGAct).c.k) ((xs.getD p.i.toNat dGAct).c.l) ((xs.getD p.i.toNat dGAct).c.b))), E671ef (p.A.store (ctlAt (cfgR q0) 1) (ctlW ((xs.getD p.i.toNat dGAct).c.e) ((xs.getD p.i.toNat dGAct).c.g) ((xs.getD p.i.toNat dGAct).c.k) ((xs.getD p.i.toNat dGAct).c.l) ((xs.getD p.i.toNat dGAct).c.b)))] (vU (ctlW ((xs.getD p.i.toNat dGAct).c.e) ((xs.getD p.i.toNat dGAct).c.g) ((xs.getD p.i.toNat dGAct).c.k) ((xs.getD p.i.toNat dGAct).c.l) ((xs.getD p.i.toNat dGAct).c.b))) callO (11, #[.agg #[vI ((xs.getD p.i.toNat dGAct).c.e), vI ((xs.getD p.i.toNat dGAct).c.g), vI ((xs.getD p.i.toNat dGAct).c.k), .bool ((xs.getD p.i.toNat dGAct).c.l), .bool ((xs.getD p.i.toNat dGAct).c.b)]])]) [0, 1, 2, 3, 4, 5, 6, 7, 8] [(0, .h .w), (1, .h (.e 1)), (2, .q (vI (ctlAt (cfgR q0) 1))), (3, .h .w), (4, .h .w), (5, .h (.s 3)), (6, .h .w), (7, .ld (.agg #[vI ((xs.getD p.i.toNat dGAct).c.e), vI ((xs.getD p.i.toNat dGAct).c.g), vI ((xs.getD p.i.toNat dGAct).c.k), .bool ((xs.getD p.i.toNat dGAct).c.l), .bool ((xs.getD p.i.toNat dGAct).c.b)])), (8, .q (vU (ctlW ((xs.getD p.i.toNat dGAct).c.e) ((xs.getD p.i.toNat dGAct).c.g) ((xs.getD p.i.toNat dGAct).c.k) ((xs.getD p.i.toNat dGAct).c.l) ((xs.getD p.i.toNat dGAct).c.b))))] [2, 7, 8, 9, 11, 12, 13, 14, 83, 84, 85, 86, 87, 88, 89, 90, 91] [9] (by kernel_rfl) ⟨rfl, (law_call Tryz.call13 (quiet_of [] (ref_Control (cfgR q0) 1 (by first | assumption | omega | (simp only [InK] at *; omega)) (by show (0 : Int) ≤ 1 ∧ (1 : Int) < 2; decide)) (by kernel_rfl) (by rintro v post ⟨rfl, rfl⟩; exact ⟨rfl, rfl⟩))), ⟨rfl, (by first | rfl | omega | (simp; done) | (simp; omega))⟩, (by first | omega | (simp; done) | (simp; omega)), (fun _ => (R_ldF 3 (a := a) (c := c0) (enc := encGAct) (d := dGAct) (sz := 6) (xs := xs) (te := bt) (r := r) (by kernel_rfl) p.i.toNat 1 true 5 [vI ((xs.getD p.i.toNat dGAct).c.e), vI ((xs.getD p.i.toNat dGAct).c.g), vI ((xs.getD p.i.toNat dGAct).c.k), .bool ((xs.getD p.i.toNat dGAct).c.l), .bool ((xs.getD p.i.toNat dGAct).c.b)] (by rfl) (by rfl) (by decide) (by omega))), (law_call Tryz.call11 (quiet_of [] (law14_word ((xs.getD p.i.toNat dGAct).c.e) ((xs.getD p.i.toNat dGAct).c.g) ((xs.getD p.i.toNat dGAct).c.k) ((xs.getD p.i.toNat dGAct).c.l) ((xs.getD p.i.toNat dGAct).c.b)) (by kernel_rfl) (by rintro v post ⟨rfl, rfl⟩; exact ⟨rfl, rfl⟩))), trivial⟩ ⟨?_, trivial⟩
        refine lz_call (l' := (mk 10 [0, 1, 2, 3, 4, 5, 6, 7, 8, 9])) (V' := []) (some 92) [5, 6] Tryz.call12 (ref_Store ra_8 p.B (ctlAt (cfgR q0) 1) (ctlW ((xs.getD p.i.toNat dGAct).c.e) ((xs.getD p.i.toNat dGAct).c.g) ((xs.getD p.i.toNat dGAct).c.k) ((xs.getD p.i.toNat dGAct).c.l) ((xs.getD p.i.toNat dGAct).c.b)) (by first | exact hpc | exact hB01) (by omega) (by omega)) (by kernel_rfl) ?_
        rintro v post ⟨rfl, rfl⟩
        refine lz_end (T1 := [(2, .slice a xs.length c0), (7, .bool true), (8, vP b_4), (9, vP ba_5), (11, vP ra_8), (12, vP g_11), (13, vP g_12), (14, vI p.i)]) (ps := []) [] [] [2, 7, 8, 9, 11, 12, 13, 14] (by kernel_rfl) trivial ?_
        refine go_exec (rs := [.tmp 6]) (by kernel_rfl) 4000 [.n, .z [] 0 [2, 7, 8, 9, 11, 12, 13, 14]] (o := .obl (InK .i64 (p.i + 1)) (.stop [.j J_13, .b 0, .c [1, 1, 1, 1, 1, 1, 1, 1, 1, 1, 1, 1]] [(2, .slice a xs.length c0), (7, .bool true), (8, vP b_4), (9, vP ba_5), (11, vP ra_8), (12, vP g_11), (13, vP g_12), (14, vI (p.i + 1))] [.raw 0 o_, Ee1539 b_4 (cfgR q0), E6725d g_11 (cfgR q0) p.G.client p.G.epoch p.G.slot p.G.word (nxG g_11 p.G.ph) p.G.seen p.G.block p.G.failed p.G.commit (errV p.G.code), .rd a c0 encGAct dGAct 6 xs bt r, Ed23d1 g_12 (cfgR q0) p.H.client 0 1 p.H.epoch ((p.H.ph : Nat) : Int) p.H.failed p.H.block p.H.commit p.H.seen p.H.code, E21626 ba_5 (p.A.store (ctlAt (cfgR q0) 1) (ctlW ((xs.getD p.i.toNat dGAct).c.e) ((xs.getD p.i.toNat dGAct).c.g) ((xs.getD p.i.toNat dGAct).c.k) ((xs.getD p.i.toNat dGAct).c.l) ((xs.getD p.i.toNat dGAct).c.b))), E671ef (p.A.store (ctlAt (cfgR q0) 1) (ctlW ((xs.getD p.i.toNat dGAct).c.e) ((xs.getD p.i.toNat dGAct).c.g) ((xs.getD p.i.toNat dGAct).c.k) ((xs.getD p.i.toNat dGAct).c.l) ((xs.getD p.i.toNat dGAct).c.b))), E3ba87 ra_8 (p.B.store (ctlAt (cfgR q0) 1) (ctlW ((xs.getD p.i.toNat dGAct).c.e) ((xs.getD p.i.toNat dGAct).c.g) ((xs.getD p.i.toNat dGAct).c.k) ((xs.getD p.i.toNat dGAct).c.l) ((xs.getD p.i.toNat dGAct).c.b))) false 0, E671ef (p.B.store (ctlAt (cfgR q0) 1) (ctlW ((xs.getD p.i.toNat dGAct).c.e) ((xs.getD p.i.toNat dGAct).c.g) ((xs.getD p.i.toNat dGAct).c.k) ((xs.getD p.i.toNat dGAct).c.l) ((xs.getD p.i.toNat dGAct).c.b)))])) (by kernel_rfl) ?_
        refine ok_obl (by have := and3 q1; simp only [InK]; omega) ?_
        refine ok_stop ?_
        exact go_back hJ_13 (⟨(p.i + 1), p.G, (p.A.store (ctlAt (cfgR q0) 1) (ctlW ((xs.getD p.i.toNat dGAct).c.e) ((xs.getD p.i.toNat dGAct).c.g) ((xs.getD p.i.toNat dGAct).c.k) ((xs.getD p.i.toNat dGAct).c.l) ((xs.getD p.i.toNat dGAct).c.b))), p.H, (p.B.store (ctlAt (cfgR q0) 1) (ctlW ((xs.getD p.i.toNat dGAct).c.e) ((xs.getD p.i.toNat dGAct).c.g) ((xs.getD p.i.toNat dGAct).c.k) ((xs.getD p.i.toNat dGAct).c.l) ((xs.getD p.i.toNat dGAct).c.b)))⟩ : Pg) [0, 1, 2, 5, 6, 3, 4, 7, 8] (by kernel_rfl) (by kernel_rfl) (by kernel_rfl) ⟨(by first | exact hstep | exact hp.put _ (ctlW_rng _ _ _ _ _)), (by dsimp only; omega)⟩ (by dsimp only; omega)
      · replace h_16 := beqF h_16
        refine ok_stop ?_
        refine go_call (some 95) [2, 3, 4] Tryz.call16 (guard_Step (cfgR q0) g_11 ba_5 p.G p.A hc hpa (by omega) hp.a.2.2.1 hp.g) (by kernel_rfl) ?_
        rintro v post ⟨rfl, rfl⟩
        refine go_exec (rs := [.tmp 6]) (by kernel_rfl) 4000 [.z [0, 1, 1, 0, 0, 1, 0, 0, 1, 0, 1, 1, 1, 1, 1, 1, 1, 1, 1, 1, 1] 1 [2, 7, 8, 9, 11, 12, 13, 14, 15, 97]] (o := .stop [.o [0, 1, 1, 0, 0, 1, 0, 0, 1, 0, 1, 1, 1, 1, 1, 1, 1, 1, 1, 1, 1] 1, .c [1, 1, 1, 0, 0, 1, 0, 0, 1, 0, 1, 1, 1, 1, 1, 1, 1, 1, 1, 1, 1], .b 1, .c [1, 1, 0, 0, 1, 0, 1, 1, 1, 1, 1, 1, 1, 1, 1, 1, 1], .j J_13, .b 0, .c [1, 1, 1, 1, 1, 1, 1, 1, 1, 1, 1, 1]] [(2, .slice a xs.length c0), (7, .bool true), (8, vP b_4), (9, vP ba_5), (11, vP ra_8), (12, vP g_11), (13, vP g_12), (14, vI p.i), (15, .bool ((p.G.step ((cfgR q0).retry) p.A).1.ph == 0)), (97, vP g_11)] [.raw 0 o_, Ee1539 b_4 (cfgR q0), .rd a c0 encGAct dGAct 6 xs bt r, Ed23d1 g_12 (cfgR q0) p.H.client 0 1 p.H.epoch ((p.H.ph : Nat) : Int) p.H.failed p.H.block p.H.commit p.H.seen p.H.code, E3ba87 ra_8 p.B false 0, E671ef p.B, E6725d g_11 (cfgR q0) ((p.G.step ((cfgR q0).retry) p.A).1.client) ((p.G.step ((cfgR q0).retry) p.A).1.epoch) ((p.G.step ((cfgR q0).retry) p.A).1.slot) ((p.G.step ((cfgR q0).retry) p.A).1.word) (nxG g_11 (p.G.step ((cfgR q0).retry) p.A).1.ph) ((p.G.step ((cfgR q0).retry) p.A).1.seen) ((p.G.step ((cfgR q0).retry) p.A).1.block) ((p.G.step ((cfgR q0).retry) p.A).1.failed) ((p.G.step ((cfgR q0).retry) p.A).1.commit) (errV (p.G.step ((cfgR q0).retry) p.A).1.code), E21626 ba_5 ((p.G.step ((cfgR q0).retry) p.A).2), E671ef ((p.G.step ((cfgR q0).retry) p.A).2)]) (by kernel_rfl) ?_
        refine ok_stop ?_
        refine go_call (some 98) [6] Tryz.call17 (guard_Told (cfgR q0) g_11 ((p.G.step ((cfgR q0).retry) p.A).1) hstep.g.ph) (by kernel_rfl) ?_
        rintro v post ⟨rfl, rfl⟩
        refine go_exec (rs := [.tmp 6]) (by kernel_rfl) 4000 [.z [0, 0, 1, 1, 1, 0, 0, 1, 0, 0, 1, 0, 1, 1, 1, 1, 1, 1, 1, 1, 1, 1, 1] 0 [2, 7, 8, 9, 11, 12, 13, 14, 15, 16, 17]] (o := .stop [.c [0, 0, 1, 1, 1, 0, 0, 1, 0, 0, 1, 0, 1, 1, 1, 1, 1, 1, 1, 1, 1, 1, 1], .c [1, 0, 1, 1, 1, 0, 0, 1, 0, 0, 1, 0, 1, 1, 1, 1, 1, 1, 1, 1, 1, 1, 1], .c [1, 1, 1, 1, 0, 0, 1, 0, 0, 1, 0, 1, 1, 1, 1, 1, 1, 1, 1, 1, 1, 1], .b 1, .c [1, 1, 0, 0, 1, 0, 1, 1, 1, 1, 1, 1, 1, 1, 1, 1, 1], .j J_13, .b 0, .c [1, 1, 1, 1, 1, 1, 1, 1, 1, 1, 1, 1]] [(2, .slice a xs.length c0), (7, .bool true), (8, vP b_4), (9, vP ba_5), (11, vP ra_8), (12, vP g_11), (13, vP g_12), (14, vI p.i), (15, .bool ((p.G.step ((cfgR q0).retry) p.A).1.ph == 0)), (16, vI ((Gu.told ((p.G.step ((cfgR q0).retry) p.A).1)).1)), (17, (errV (Gu.told ((p.G.step ((cfgR q0).retry) p.A).1)).2))] [.raw 0 o_, Ee1539 b_4 (cfgR q0), .rd a c0 encGAct dGAct 6 xs bt r, Ed23d1 g_12 (cfgR q0) p.H.client 0 1 p.H.epoch ((p.H.ph : Nat) : Int) p.H.failed p.H.block p.H.commit p.H.seen p.H.code, E3ba87 ra_8 p.B false 0, E671ef p.B, E21626 ba_5 ((p.G.step ((cfgR q0).retry) p.A).2), E671ef ((p.G.step ((cfgR q0).retry) p.A).2), E6725d g_11 (cfgR q0) ((p.G.step ((cfgR q0).retry) p.A).1.client) ((p.G.step ((cfgR q0).retry) p.A).1.epoch) ((p.G.step ((cfgR q0).retry) p.A).1.slot) ((p.G.step ((cfgR q0).retry) p.A).1.word) (nxG g_11 ((p.G.step ((cfgR q0).retry) p.A).1).ph) ((p.G.step ((cfgR q0).retry) p.A).1.seen) ((p.G.step ((cfgR q0).retry) p.A).1.block) ((p.G.step ((cfgR q0).retry) p.A).1.failed) ((p.G.step ((cfgR q0).retry) p.A).1.commit) (errV ((p.G.step ((cfgR q0).retry) p.A).1).code)]) (by kernel_rfl) ?_
        refine ok_stop ?_
        refine go_lz (by kernel_rfl) (by kernel_rfl) ?_
        refine lz_node (l' := (mk 29 [0, 1, 2])) (V' := [0, 1, 2]) (T1 := [(2, .slice a xs.length c0), (7, .bool true), (8, vP b_4), (9, vP ba_5), (11, vP ra_8), (12, vP g_11), (13, vP g_12), (14, vI p.i), (15, .bool ((p.G.step ((cfgR q0).retry) p.A).1.ph == 0)), (16, vI ((Gu.told ((p.G.step ((cfgR q0).retry) p.A).1)).1)), (17, (errV (Gu.told ((p.G.step ((cfgR q0).retry) p.A).1)).2)), (101, .bool ((p.G.step ((cfgR q0).retry) p.A).1.ph == 0)), (102, vP g_12), (103, vP ra_8)]) (ps := []) [0, 1, 2] [(0, .h .w), (1, .h .w), (2, .h .w)] [2, 7, 8, 9, 11, 12, 13, 14, 15, 16, 17, 101, 102, 103] [3] (by kernel_rfl) trivial ⟨?_, trivial⟩
        refine lz_call (l' := (mk 29 [0, 1, 2, 3])) (V' := [0]) (some 104) [3, 4, 5] Tryz.call18 (ref14_Step (cfgR q0) g_12 ra_8 0 1 p.H p.B hc hpc (by omega) hp.b.2.2.1 hp.hg (by show (0 : Int) ≤ 1 ∧ (1 : Int) < 2; decide) (by simp only [InK]; omega) (by rw [hp.h]; exact hp.wq) (by rw [hp.h]; exact hp.sq)) (by kernel_rfl) ?_
        rintro v post ⟨rfl, rfl⟩
        refine lz_end (T1 := [(2, .slice a xs.length c0), (7, .bool true), (8, vP b_4), (9, vP ba_5), (11, vP ra_8), (12, vP g_11), (13, vP g_12), (14, vI p.i), (15, .bool ((p.G.step ((cfgR q0).retry) p.A).1.ph == 0)), (16, vI ((Gu.told ((p.G.step ((cfgR q0).retry) p.A).1)).1)), (17, (errV (Gu.told ((p.G.step ((cfgR q0).retry) p.A).1)).2)), (129, .bool false)]) (ps := [(!(((p.G.step ((cfgR q0).retry) p.A).1.ph == 0) == ((p.H.step ((cfgR q0).retry) p.B).1.ph == 0))) = false, LawQ Tryz.prog F [.raw 0 o_, Ee1539 b_4 (cfgR q0), .rd a c0 encGAct dGAct 6 xs bt r, E21626 ba_5 ((p.G.step ((cfgR q0).retry) p.A).2), E671ef ((p.G.step ((cfgR q0).retry) p.A).2), E6725d g_11 (cfgR q0) ((p.G.step ((cfgR q0).retry) p.A).1.client) ((p.G.step ((cfgR q0).retry) p.A).1.epoch) ((p.G.step ((cfgR q0).retry) p.A).1.slot) ((p.G.step ((cfgR q0).retry) p.A).1.word) (nxG g_11 ((p.G.step ((cfgR q0).retry) p.A).1).ph) ((p.G.step ((cfgR q0).retry) p.A).1.seen) ((p.G.step ((cfgR q0).retry) p.A).1.block) ((p.G.step ((cfgR q0).retry) p.A).1.failed) ((p.G.step ((cfgR q0).retry) p.A).1.commit) (errV ((p.G.step ((cfgR q0).retry) p.A).1).code), Ed23d1 g_12 (cfgR q0) ((p.H.step ((cfgR q0).retry) p.B).1.client) 0 1 ((p.H.step ((cfgR q0).retry) p.B).1.epoch) (((p.H.step ((cfgR q0).retry) p.B).1.ph : Nat) : Int) ((p.H.step ((cfgR q0).retry) p.B).1.failed) ((p.H.step ((cfgR q0).retry) p.B).1.block) ((p.H.step ((cfgR q0).retry) p.B).1.commit) ((p.H.step ((cfgR q0).retry) p.B).1.seen) ((p.H.step ((cfgR q0).retry) p.B).1.code), E3ba87 ra_8 ((p.H.step ((cfgR q0).retry) p.B).2) false 0, E671ef ((p.H.step ((cfgR q0).retry) p.B).2)] (.bool (((p.G.step ((cfgR q0).retry) p.A).1).ph == 0)) callO (19, #[vP g_11]), (!(((p.G.step ((cfgR q0).retry) p.A).1.ph == 0) == (((p.G.step ((cfgR q0).retry) p.A).1).ph == 0))) = false, LawQ Tryz.prog F [.raw 0 o_, Ee1539 b_4 (cfgR q0), .rd a c0 encGAct dGAct 6 xs bt r, E21626 ba_5 ((p.G.step ((cfgR q0).retry) p.A).2), E671ef ((p.G.step ((cfgR q0).retry) p.A).2), E6725d g_11 (cfgR q0) ((p.G.step ((cfgR q0).retry) p.A).1.client) ((p.G.step ((cfgR q0).retry) p.A).1.epoch) ((p.G.step ((cfgR q0).retry) p.A).1.slot) ((p.G.step ((cfgR q0).retry) p.A).1.word) (nxG g_11 ((p.G.step ((cfgR q0).retry) p.A).1).ph) ((p.G.step ((cfgR q0).retry) p.A).1.seen) ((p.G.step ((cfgR q0).retry) p.A).1.block) ((p.G.step ((cfgR q0).retry) p.A).1.failed) ((p.G.step ((cfgR q0).retry) p.A).1.commit) (errV ((p.G.step ((cfgR q0).retry) p.A).1).code), Ed23d1 g_12 (cfgR q0) ((p.H.step ((cfgR q0).retry) p.B).1.client) 0 1 ((p.H.step ((cfgR q0).retry) p.B).1.epoch) (((p.H.step ((cfgR q0).retry) p.B).1.ph : Nat) : Int) ((p.H.step ((cfgR q0).retry) p.B).1.failed) ((p.H.step ((cfgR q0).retry) p.B).1.block) ((p.H.step ((cfgR q0).retry) p.B).1.commit) ((p.H.step ((cfgR q0).retry) p.B).1.seen) ((p.H.step ((cfgR q0).retry) p.B).1.code), E3ba87 ra_8 ((p.H.step ((cfgR q0).retry) p.B).2) false 0, E671ef ((p.H.step ((cfgR q0).retry) p.B).2)] (.agg #[vI ((p.G.step ((cfgR q0).retry) p.A).2.lk), vI ((p.G.step ((cfgR q0).retry) p.A).2.lw), vU ((p.G.step ((cfgR q0).retry) p.A).2.lv), .bool ((p.G.step ((cfgR q0).retry) p.A).2.lc)]) callO (20, #[vP ba_5]), ra_8 = ra_8, LawQ Tryz.prog F [.raw 0 o_, Ee1539 b_4 (cfgR q0), .rd a c0 encGAct dGAct 6 xs bt r, E21626 ba_5 ((p.G.step ((cfgR q0).retry) p.A).2), E671ef ((p.G.step ((cfgR q0).retry) p.A).2), E6725d g_11 (cfgR q0) ((p.G.step ((cfgR q0).retry) p.A).1.client) ((p.G.step ((cfgR q0).retry) p.A).1.epoch) ((p.G.step ((cfgR q0).retry) p.A).1.slot) ((p.G.step ((cfgR q0).retry) p.A).1.word) (nxG g_11 ((p.G.step ((cfgR q0).retry) p.A).1).ph) ((p.G.step ((cfgR q0).retry) p.A).1.seen) ((p.G.step ((cfgR q0).retry) p.A).1.block) ((p.G.step ((cfgR q0).retry) p.A).1.failed) ((p.G.step ((cfgR q0).retry) p.A).1.commit) (errV ((p.G.step ((cfgR q0).retry) p.A).1).code), Ed23d1 g_12 (cfgR q0) ((p.H.step ((cfgR q0).retry) p.B).1.client) 0 1 ((p.H.step ((cfgR q0).retry) p.B).1.epoch) (((p.H.step ((cfgR q0).retry) p.B).1.ph : Nat) : Int) ((p.H.step ((cfgR q0).retry) p.B).1.failed) ((p.H.step ((cfgR q0).retry) p.B).1.block) ((p.H.step ((cfgR q0).retry) p.B).1.commit) ((p.H.step ((cfgR q0).retry) p.B).1.seen) ((p.H.step ((cfgR q0).retry) p.B).1.code), E3ba87 ra_8 ((p.H.step ((cfgR q0).retry) p.B).2) false 0, E671ef ((p.H.step ((cfgR q0).retry) p.B).2)] (.bool false) eqO (false, 55, .agg #[vI ((p.G.step ((cfgR q0).retry) p.A).2.lk), vI ((p.G.step ((cfgR q0).retry) p.A).2.lw), vU ((p.G.step ((cfgR q0).retry) p.A).2.lv), .bool ((p.G.step ((cfgR q0).retry) p.A).2.lc)], .agg #[vI ((p.H.step ((cfgR q0).retry) p.B).2.lk), vI ((p.H.step ((cfgR q0).retry) p.B).2.lw), vU ((p.H.step ((cfgR q0).retry) p.B).2.lv), .bool ((p.H.step ((cfgR q0).retry) p.B).2.lc)]), LawQ Tryz.prog F [.raw 0 o_, Ee1539 b_4 (cfgR q0), .rd a c0 encGAct dGAct 6 xs bt r, E21626 ba_5 ((p.G.step ((cfgR q0).retry) p.A).2), E671ef ((p.G.step ((cfgR q0).retry) p.A).2), E6725d g_11 (cfgR q0) ((p.G.step ((cfgR q0).retry) p.A).1.client) ((p.G.step ((cfgR q0).retry) p.A).1.epoch) ((p.G.step ((cfgR q0).retry) p.A).1.slot) ((p.G.step ((cfgR q0).retry) p.A).1.word) (nxG g_11 ((p.G.step ((cfgR q0).retry) p.A).1).ph) ((p.G.step ((cfgR q0).retry) p.A).1.seen) ((p.G.step ((cfgR q0).retry) p.A).1.block) ((p.G.step ((cfgR q0).retry) p.A).1.failed) ((p.G.step ((cfgR q0).retry) p.A).1.commit) (errV ((p.G.step ((cfgR q0).retry) p.A).1).code), Ed23d1 g_12 (cfgR q0) ((p.H.step ((cfgR q0).retry) p.B).1.client) 0 1 ((p.H.step ((cfgR q0).retry) p.B).1.epoch) (((p.H.step ((cfgR q0).retry) p.B).1.ph : Nat) : Int) ((p.H.step ((cfgR q0).retry) p.B).1.failed) ((p.H.step ((cfgR q0).retry) p.B).1.block) ((p.H.step ((cfgR q0).retry) p.B).1.commit) ((p.H.step ((cfgR q0).retry) p.B).1.seen) ((p.H.step ((cfgR q0).retry) p.B).1.code), E3ba87 ra_8 ((p.H.step ((cfgR q0).retry) p.B).2) false 0, E671ef ((p.H.step ((cfgR q0).retry) p.B).2)] (vI ((p.G.step ((cfgR q0).retry) p.A).2.steps)) callO (21, #[vP ba_5]), ra_8 = ra_8, (((p.G.step ((cfgR q0).retry) p.A).2.steps) != ((p.H.step ((cfgR q0).retry) p.B).2.steps)) = false]) [4, 5, 6, 7, 8, 9, 10, 11, 12, 13, 14, 15, 16, 17, 18, 19, 20, 21, 22, 23, 24, 25, 26, 27, 28] [(0, .h .w), (4, .h (.t false)), (5, .h .w), (6, .h .w), (7, .h .w), (8, .q (.bool (((p.G.step ((cfgR q0).retry) p.A).1).ph == 0))), (9, .h (.t false)), (10, .h .w), (11, .h .w), (12, .h .w), (13, .q (.agg #[vI ((p.G.step ((cfgR q0).retry) p.A).2.lk), vI ((p.G.step ((cfgR q0).retry) p.A).2.lw), vU ((p.G.step ((cfgR q0).retry) p.A).2.lv), .bool ((p.G.step ((cfgR q0).retry) p.A).2.lc)])), (14, .h .w), (15, .h .w), (16, .h .w), (17, .h (.e 7)), (18, .eq (.bool false)), (19, .h .w), (20, .h .w), (21, .h .w), (22, .q (vI ((p.G.step ((cfgR q0).retry) p.A).2.steps))), (23, .h .w), (24, .h .w), (25, .h .w), (26, .h (.e 7)), (27, .h (.t false)), (28, .h .w)] [2, 7, 8, 9, 11, 12, 13, 14, 15, 16, 17, 129] (by kernel_rfl) ⟨(by rw [hh]; simp), (law_call Tryz.call19 (quiet_of [5] (guard_Done (cfgR q0) g_11 ((p.G.step ((cfgR q0).retry) p.A).1) hstep.g.ph) (by kernel_rfl) (by rintro v post ⟨rfl, rfl⟩; exact ⟨rfl, rfl⟩))), (by simp), (law_call Tryz.call20 (quiet_of [3, 4] (arena_Last ba_5 ((p.G.step ((cfgR q0).retry) p.A).2)) (by kernel_rfl) (by rintro v post ⟨rfl, rfl⟩; exact ⟨rfl, rfl⟩))), rfl, (R_eq (F := F) (L := [.raw 0 o_, Ee1539 b_4 (cfgR q0), .rd a c0 encGAct dGAct 6 xs bt r, E21626 ba_5 ((p.G.step ((cfgR q0).retry) p.A).2), E671ef ((p.G.step ((cfgR q0).retry) p.A).2), E6725d g_11 (cfgR q0) ((p.G.step ((cfgR q0).retry) p.A).1.client) ((p.G.step ((cfgR q0).retry) p.A).1.epoch) ((p.G.step ((cfgR q0).retry) p.A).1.slot) ((p.G.step ((cfgR q0).retry) p.A).1.word) (nxG g_11 ((p.G.step ((cfgR q0).retry) p.A).1).ph) ((p.G.step ((cfgR q0).retry) p.A).1.seen) ((p.G.step ((cfgR q0).retry) p.A).1.block) ((p.G.step ((cfgR q0).retry) p.A).1.failed) ((p.G.step ((cfgR q0).retry) p.A).1.commit) (errV ((p.G.step ((cfgR q0).retry) p.A).1).code), Ed23d1 g_12 (cfgR q0) ((p.H.step ((cfgR q0).retry) p.B).1.client) 0 1 ((p.H.step ((cfgR q0).retry) p.B).1.epoch) (((p.H.step ((cfgR q0).retry) p.B).1.ph : Nat) : Int) ((p.H.step ((cfgR q0).retry) p.B).1.failed) ((p.H.step ((cfgR q0).retry) p.B).1.block) ((p.H.step ((cfgR q0).retry) p.B).1.commit) ((p.H.step ((cfgR q0).retry) p.B).1.seen) ((p.H.step ((cfgR q0).retry) p.B).1.code), E3ba87 ra_8 ((p.H.step ((cfgR q0).retry) p.B).2) false 0, E671ef ((p.H.step ((cfgR q0).retry) p.B).2)]) (bs := [(((p.G.step ((cfgR q0).retry) p.A).2.lk) == ((p.H.step ((cfgR q0).retry) p.B).2.lk)), (((p.G.step ((cfgR q0).retry) p.A).2.lw) == ((p.H.step ((cfgR q0).retry) p.B).2.lw)), (((p.G.step ((cfgR q0).retry) p.A).2.lv) == ((p.H.step ((cfgR q0).retry) p.B).2.lv)), (((p.G.step ((cfgR q0).retry) p.A).2.lc) == ((p.H.step ((cfgR q0).retry) p.B).2.lc))]) false true (by kernel_rfl) htl), (law_call Tryz.call21 (quiet_of [3, 4] (arena_Steps ba_5 ((p.G.step ((cfgR q0).retry) p.A).2)) (by kernel_rfl) (by rintro v post ⟨rfl, rfl⟩; exact ⟨rfl, rfl⟩))), rfl, (bne_eq_false_iff_eq.2 (by omega)), trivial⟩ ?_
        refine go_exec (rs := [.tmp 6]) (by kernel_rfl) 4000 [.z [0, 1, 1, 1, 1, 0, 0, 1, 0, 0, 1, 0, 1, 1, 1, 1, 1, 1, 1, 1, 1, 1, 1] 0 [2, 7, 8, 9, 11, 12, 13, 14, 15, 16, 17]] (o := .stop [.c [0, 1, 1, 1, 1, 0, 0, 1, 0, 0, 1, 0, 1, 1, 1, 1, 1, 1, 1, 1, 1, 1, 1], .c [1, 1, 1, 1, 1, 0, 0, 1, 0, 0, 1, 0, 1, 1, 1, 1, 1, 1, 1, 1, 1, 1, 1], .b 1, .c [1, 1, 0, 0, 1, 0, 1, 1, 1, 1, 1, 1, 1, 1, 1, 1, 1], .j J_13, .b 0, .c [1, 1, 1, 1, 1, 1, 1, 1, 1, 1, 1, 1]] [(2, .slice a xs.length c0), (7, .bool true), (8, vP b_4), (9, vP ba_5), (11, vP ra_8), (12, vP g_11), (13, vP g_12), (14, vI p.i), (15, .bool ((p.G.step ((cfgR q0).retry) p.A).1.ph == 0)), (16, vI ((Gu.told ((p.G.step ((cfgR q0).retry) p.A).1)).1)), (17, (errV (Gu.told ((p.G.step ((cfgR q0).retry) p.A).1)).2))] [.raw 0 o_, Ee1539 b_4 (cfgR q0), .rd a c0 encGAct dGAct 6 xs bt r, E21626 ba_5 ((p.G.step ((cfgR q0).retry) p.A).2), E671ef ((p.G.step ((cfgR q0).retry) p.A).2), E6725d g_11 (cfgR q0) ((p.G.step ((cfgR q0).retry) p.A).1.client) ((p.G.step ((cfgR q0).retry) p.A).1.epoch) ((p.G.step ((cfgR q0).retry) p.A).1.slot) ((p.G.step ((cfgR q0).retry) p.A).1.word) (nxG g_11 ((p.G.step ((cfgR q0).retry) p.A).1).ph) ((p.G.step ((cfgR q0).retry) p.A).1.seen) ((p.G.step ((cfgR q0).retry) p.A).1.block) ((p.G.step ((cfgR q0).retry) p.A).1.failed) ((p.G.step ((cfgR q0).retry) p.A).1.commit) (errV ((p.G.step ((cfgR q0).retry) p.A).1).code), Ed23d1 g_12 (cfgR q0) ((p.H.step ((cfgR q0).retry) p.B).1.client) 0 1 ((p.H.step ((cfgR q0).retry) p.B).1.epoch) (((p.H.step ((cfgR q0).retry) p.B).1.ph : Nat) : Int) ((p.H.step ((cfgR q0).retry) p.B).1.failed) ((p.H.step ((cfgR q0).retry) p.B).1.block) ((p.H.step ((cfgR q0).retry) p.B).1.commit) ((p.H.step ((cfgR q0).retry) p.B).1.seen) ((p.H.step ((cfgR q0).retry) p.B).1.code), E3ba87 ra_8 ((p.H.step ((cfgR q0).retry) p.B).2) false 0, E671ef ((p.H.step ((cfgR q0).retry) p.B).2)]) (by kernel_rfl) ?_
        refine ok_stop ?_
        by_cases hdn : (p.G.step (cfgR q0).retry p.A).1.ph = 0
        · have ht := told_of hdn
          refine go_quiet (tm' := [(2, .slice a xs.length c0), (7, .bool true), (8, vP b_4), (9, vP ba_5), (11, vP ra_8), (12, vP g_11), (13, vP g_12), (14, vI p.i), (174, .bool false)]) (ps := [((p.G.step ((cfgR q0).retry) p.A).1.ph == 0) = true, ((p.G.step ((cfgR q0).retry) p.A).1.ph == 0) = true, g_12 = g_12, (((Gu.told ((p.G.step ((cfgR q0).retry) p.A).1)).1) != ((p.H.step ((cfgR q0).retry) p.B).1.block)) = false, g_12 = g_12, (((Gu.told ((p.G.step ((cfgR q0).retry) p.A).1)).2) != ((p.H.step ((cfgR q0).retry) p.B).1.code)) = false, g_12 = g_12, ((Gu.comm ((p.G.step ((cfgR q0).retry) p.A).1)) != ((p.H.step ((cfgR q0).retry) p.B).1.commit)) = false]) (cs := [(22, #[(errV (Gu.told ((p.G.step ((cfgR q0).retry) p.A).1)).2)], vI ((Gu.told ((p.G.step ((cfgR q0).retry) p.A).1)).2)), (23, #[vP g_11], vI (Gu.comm ((p.G.step ((cfgR q0).retry) p.A).1)))]) [(0, .h (.t true)), (1, .h .w), (2, .h .w), (3, .h .w), (4, .h .w), (5, .h .w), (6, .h .w), (7, .h .w), (8, .h .w), (9, .h .w), (10, .h .w), (11, .h .w), (12, .h .w), (13, .h .w), (14, .h .w), (15, .h .w), (16, .h .w), (17, .h (.t true)), (18, .h .w), (19, .h .w), (20, .h .w), (21, .h .w), (22, .h .w), (23, .h (.e 6)), (24, .h (.t false)), (25, .h .w), (26, .h .w), (27, .q (vI ((Gu.told ((p.G.step ((cfgR q0).retry) p.A).1)).2))), (28, .h .w), (29, .h .w), (30, .h .w), (31, .h (.e 6)), (32, .h (.t false)), (33, .h .w), (34, .h .w), (35, .h .w), (36, .q (vI (Gu.comm ((p.G.step ((cfgR q0).retry) p.A).1)))), (37, .h .w), (38, .h .w), (39, .h .w), (40, .h (.e 6)), (41, .h (.t false)), (42, .h .w), (43, .h .w), (44, .h .w)] [2, 7, 8, 9, 11, 12, 13, 14, 174] (by kernel_rfl) (by kernel_rfl) ⟨(by simp [hdn]), (by simp [hdn]), rfl, (bne_eq_false_iff_eq.2 (by rw [ht.1, hh])), rfl, (bne_eq_false_iff_eq.2 (by rw [ht.1, hh])), rfl, (bne_eq_false_iff_eq.2 (by rw [ht.2, hh])), trivial⟩ ⟨⟨Tryz.call22, quiet_of [0] (cause_Top o_ ((Gu.told ((p.G.step ((cfgR q0).retry) p.A).1)).2) ho) (by kernel_rfl) (by rintro v post ⟨rfl, rfl⟩; exact ⟨rfl, rfl⟩)⟩, ⟨Tryz.call23, quiet_of [5] (guard_Commit (cfgR q0) g_11 ((p.G.step ((cfgR q0).retry) p.A).1) hstep.g.ph) (by kernel_rfl) (by rintro v post ⟨rfl, rfl⟩; exact ⟨rfl, rfl⟩)⟩, trivial⟩ ?_
          refine go_exec (rs := [.tmp 6]) (by kernel_rfl) 4000 [.n, .z [] 0 [2, 7, 8, 9, 11, 12, 13, 14]] (o := .obl (InK .i64 (p.i + 1)) (.stop [.j J_13, .b 0, .c [1, 1, 1, 1, 1, 1, 1, 1, 1, 1, 1, 1]] [(2, .slice a xs.length c0), (7, .bool true), (8, vP b_4), (9, vP ba_5), (11, vP ra_8), (12, vP g_11), (13, vP g_12), (14, vI (p.i + 1))] [.raw 0 o_, Ee1539 b_4 (cfgR q0), .rd a c0 encGAct dGAct 6 xs bt r, E21626 ba_5 ((p.G.step ((cfgR q0).retry) p.A).2), E671ef ((p.G.step ((cfgR q0).retry) p.A).2), E6725d g_11 (cfgR q0) ((p.G.step ((cfgR q0).retry) p.A).1.client) ((p.G.step ((cfgR q0).retry) p.A).1.epoch) ((p.G.step ((cfgR q0).retry) p.A).1.slot) ((p.G.step ((cfgR q0).retry) p.A).1.word) (nxG g_11 ((p.G.step ((cfgR q0).retry) p.A).1).ph) ((p.G.step ((cfgR q0).retry) p.A).1.seen) ((p.G.step ((cfgR q0).retry) p.A).1.block) ((p.G.step ((cfgR q0).retry) p.A).1.failed) ((p.G.step ((cfgR q0).retry) p.A).1.commit) (errV ((p.G.step ((cfgR q0).retry) p.A).1).code), Ed23d1 g_12 (cfgR q0) ((p.H.step ((cfgR q0).retry) p.B).1.client) 0 1 ((p.H.step ((cfgR q0).retry) p.B).1.epoch) (((p.H.step ((cfgR q0).retry) p.B).1.ph : Nat) : Int) ((p.H.step ((cfgR q0).retry) p.B).1.failed) ((p.H.step ((cfgR q0).retry) p.B).1.block) ((p.H.step ((cfgR q0).retry) p.B).1.commit) ((p.H.step ((cfgR q0).retry) p.B).1.seen) ((p.H.step ((cfgR q0).retry) p.B).1.code), E3ba87 ra_8 ((p.H.step ((cfgR q0).retry) p.B).2) false 0, E671ef ((p.H.step ((cfgR q0).retry) p.B).2)])) (by kernel_rfl) ?_
          refine ok_obl (by have := and3 q1; simp only [InK]; omega) ?_
          refine ok_stop ?_
          exact go_back hJ_13 (⟨(p.i + 1), (p.G.step ((cfgR q0).retry) p.A).1, (p.G.step ((cfgR q0).retry) p.A).2, (p.H.step ((cfgR q0).retry) p.B).1, (p.H.step ((cfgR q0).retry) p.B).2⟩ : Pg) [0, 1, 5, 3, 4, 2, 6, 7, 8] (by kernel_rfl) (by kernel_rfl) (by kernel_rfl) ⟨(by first | exact hstep | exact hp.put _ (ctlW_rng _ _ _ _ _)), (by dsimp only; omega)⟩ (by dsimp only; omega)
        · have ht := told_off hdn
          refine go_quiet (tm' := [(2, .slice a xs.length c0), (7, .bool true), (8, vP b_4), (9, vP ba_5), (11, vP ra_8), (12, vP g_11), (13, vP g_12), (14, vI p.i), (174, .bool false)]) (ps := [((p.G.step ((cfgR q0).retry) p.A).1.ph == 0) = false, (((Gu.told ((p.G.step ((cfgR q0).retry) p.A).1)).1) != 0) = false, (((Gu.told ((p.G.step ((cfgR q0).retry) p.A).1)).2) != 13) = false, ((Gu.comm ((p.G.step ((cfgR q0).retry) p.A).1)) != 0) = false, ((p.G.step ((cfgR q0).retry) p.A).1.ph == 0) = false]) (cs := [(22, #[(errV (Gu.told ((p.G.step ((cfgR q0).retry) p.A).1)).2)], vI ((Gu.told ((p.G.step ((cfgR q0).retry) p.A).1)).2)), (23, #[vP g_11], vI (Gu.comm ((p.G.step ((cfgR q0).retry) p.A).1)))]) [(0, .h (.t false)), (1, .h .w), (2, .h .w), (3, .h .w), (4, .h (.t false)), (5, .h .w), (6, .h .w), (7, .q (vI ((Gu.told ((p.G.step ((cfgR q0).retry) p.A).1)).2))), (8, .h (.t false)), (9, .h .w), (10, .h .w), (11, .h .w), (12, .q (vI (Gu.comm ((p.G.step ((cfgR q0).retry) p.A).1)))), (13, .h (.t false)), (14, .h .w), (15, .h .w), (16, .h .w), (17, .h (.t false)), (18, .h .w), (19, .h .w), (20, .h .w), (21, .h .w), (22, .h .w), (23, .h .w), (24, .h .w), (25, .h .w), (26, .h .w), (27, .h .w), (28, .h .w), (29, .h .w), (30, .h .w), (31, .h .w), (32, .h .w), (33, .h .w), (34, .h .w), (35, .h .w), (36, .h .w), (37, .h .w), (38, .h .w), (39, .h .w), (40, .h .w), (41, .h .w), (42, .h .w), (43, .h .w), (44, .h .w)] [2, 7, 8, 9, 11, 12, 13, 14, 174] (by kernel_rfl) (by kernel_rfl) ⟨(by simp [hdn]), (bne_eq_false_iff_eq.2 (by rw [ht.1])), (bne_eq_false_iff_eq.2 (by rw [ht.1])), (bne_eq_false_iff_eq.2 ht.2), (by simp [hdn]), trivial⟩ ⟨⟨Tryz.call22, quiet_of [0] (cause_Top o_ ((Gu.told ((p.G.step ((cfgR q0).retry) p.A).1)).2) ho) (by kernel_rfl) (by rintro v post ⟨rfl, rfl⟩; exact ⟨rfl, rfl⟩)⟩, ⟨Tryz.call23, quiet_of [5] (guard_Commit (cfgR q0) g_11 ((p.G.step ((cfgR q0).retry) p.A).1) hstep.g.ph) (by kernel_rfl) (by rintro v post ⟨rfl, rfl⟩; exact ⟨rfl, rfl⟩)⟩, trivial⟩ ?_
          refine go_exec (rs := [.tmp 6]) (by kernel_rfl) 4000 [.n, .z [] 0 [2, 7, 8, 9, 11, 12, 13, 14]] (o := .obl (InK .i64 (p.i + 1)) (.stop [.j J_13, .b 0, .c [1, 1, 1, 1, 1, 1, 1, 1, 1, 1, 1, 1]] [(2, .slice a xs.length c0), (7, .bool true), (8, vP b_4), (9, vP ba_5), (11, vP ra_8), (12, vP g_11), (13, vP g_12), (14, vI (p.i + 1))] [.raw 0 o_, Ee1539 b_4 (cfgR q0), .rd a c0 encGAct dGAct 6 xs bt r, E21626 ba_5 ((p.G.step ((cfgR q0).retry) p.A).2), E671ef ((p.G.step ((cfgR q0).retry) p.A).2), E6725d g_11 (cfgR q0) ((p.G.step ((cfgR q0).retry) p.A).1.client) ((p.G.step ((cfgR q0).retry) p.A).1.epoch) ((p.G.step ((cfgR q0).retry) p.A).1.slot) ((p.G.step ((cfgR q0).retry) p.A).1.word) (nxG g_11 ((p.G.step ((cfgR q0).retry) p.A).1).ph) ((p.G.step ((cfgR q0).retry) p.A).1.seen) ((p.G.step ((cfgR q0).retry) p.A).1.block) ((p.G.step ((cfgR q0).retry) p.A).1.failed) ((p.G.step ((cfgR q0).retry) p.A).1.commit) (errV ((p.G.step ((cfgR q0).retry) p.A).1).code), Ed23d1 g_12 (cfgR q0) ((p.H.step ((cfgR q0).retry) p.B).1.client) 0 1 ((p.H.step ((cfgR q0).retry) p.B).1.epoch) (((p.H.step ((cfgR q0).retry) p.B).1.ph : Nat) : Int) ((p.H.step ((cfgR q0).retry) p.B).1.failed) ((p.H.step ((cfgR q0).retry) p.B).1.block) ((p.H.step ((cfgR q0).retry) p.B).1.commit) ((p.H.step ((cfgR q0).retry) p.B).1.seen) ((p.H.step ((cfgR q0).retry) p.B).1.code), E3ba87 ra_8 ((p.H.step ((cfgR q0).retry) p.B).2) false 0, E671ef ((p.H.step ((cfgR q0).retry) p.B).2)])) (by kernel_rfl) ?_
          refine ok_obl (by have := and3 q1; simp only [InK]; omega) ?_
          refine ok_stop ?_
          exact go_back hJ_13 (⟨(p.i + 1), (p.G.step ((cfgR q0).retry) p.A).1, (p.G.step ((cfgR q0).retry) p.A).2, (p.H.step ((cfgR q0).retry) p.B).1, (p.H.step ((cfgR q0).retry) p.B).2⟩ : Pg) [0, 1, 5, 3, 4, 2, 6, 7, 8] (by kernel_rfl) (by kernel_rfl) (by kernel_rfl) ⟨(by first | exact hstep | exact hp.put _ (ctlW_rng _ _ _ _ _)), (by dsimp only; omega)⟩ (by dsimp only; omega)
    · replace h_15 := decF h_15
      refine ok_stop ?_
      refine go_lz (by kernel_rfl) (by kernel_rfl) ?_
      refine lz_node (l' := (mk 8 [0, 2, 3, 4, 5])) (V' := [0, 2, 3, 4, 5]) (T1 := [(7, .bool true), (9, vP ba_5), (11, vP ra_8), (175, vP ba_5), (177, vP ra_8), (178, vP ra_8), (179, vP ra_8), (180, .slice p.B.aw p.B.n p.B.cw)]) (ps := [ra_8 = ra_8]) [0, 2, 3, 4, 5] [(0, .h .w), (2, .h .w), (3, .h .w), (4, .h .w), (5, .h (.e 7))] [7, 9, 11, 175, 177, 178, 179, 180] [1] (by kernel_rfl) ⟨rfl, trivial⟩ ⟨?_, trivial⟩
      refine lz_call (l' := (mk 8 [0, 1, 2, 3, 4, 5])) (V' := [2, 3, 4, 5]) (some 176) [3, 4] Tryz.call25 (arena_Words ba_5 p.A hpa (by have := sizeOfC_ok hc; omega)) (by kernel_rfl) ?_
      rintro v post ⟨a2_1_1, c2_1_1, rfl, rfl⟩
      refine lz_end (T1 := [(7, .bool true), (18, .bool true)]) (ps := [ra_8 = ra_8, LawQ Tryz.prog F [.raw 0 o_, Ee1539 b_4 (cfgR q0), E6725d g_11 (cfgR q0) p.G.client p.G.epoch p.G.slot p.G.word (nxG g_11 p.G.ph) p.G.seen p.G.block p.G.failed p.G.commit (errV p.G.code), .rd a c0 encGAct dGAct 6 xs bt r, Ed23d1 g_12 (cfgR q0) p.H.client 0 1 p.H.epoch ((p.H.ph : Nat) : Int) p.H.failed p.H.block p.H.commit p.H.seen p.H.code, E3ba87 ra_8 p.B false 0, E671ef p.B, E21626 ba_5 p.A, E671ef p.A, E7a681 a2_1_1 c2_1_1 p.A.ws] (.bool (p.A.ws == p.B.ws)) callO (24, #[.slice a2_1_1 p.A.ws.length c2_1_1, .slice p.B.aw p.B.n p.B.cw]), (p.A.ws == p.B.ws) = true]) [6, 7] [(2, .h .w), (3, .h .w), (4, .h .w), (5, .h (.e 5)), (6, .q (.bool (p.A.ws == p.B.ws))), (7, .h (.t true))] [7, 18] (by kernel_rfl) ⟨rfl, (law_call Tryz.call24 (quiet_of [9, 6] (same_un a2_1_1 p.B.aw c2_1_1 p.B.cw p.B.n p.A.ws p.B.ws (by have := sizeOfC_ok hc; omega) hpc) (by kernel_rfl) (by rintro v post ⟨rfl, rfl⟩; exact ⟨rfl, rfl⟩))), (tw_ws hp.tw), trivial⟩ ?_
      refine go_exec (rs := [.tmp 6]) (by kernel_rfl) 4000 [] (o := .ret (.bool true) [.raw 0 o_, Ee1539 b_4 (cfgR q0), E6725d g_11 (cfgR q0) p.G.client p.G.epoch p.G.slot p.G.word (nxG g_11 p.G.ph) p.G.seen p.G.block p.G.failed p.G.commit (errV p.G.code), .rd a c0 encGAct dGAct 6 xs bt r, Ed23d1 g_12 (cfgR q0) p.H.client 0 1 p.H.epoch ((p.H.ph : Nat) : Int) p.H.failed p.H.block p.H.commit p.H.seen p.H.code, E3ba87 ra_8 p.B false 0, E671ef p.B, E21626 ba_5 p.A, E671ef p.A, E7a681 a2_1_1 c2_1_1 p.A.ws]) (by kernel_rfl) ?_
      exact ret_ok (post := [.raw 0 o_, .rd a c0 encGAct dGAct 6 xs bt r]) [0, 3] (by kernel_rfl) ⟨rfl, (by kernel_rfl)⟩
  · replace h_14 := decF h_14
    refine ok_stop ?_
    refine go_lz (by kernel_rfl) (by kernel_rfl) ?_
    refine lz_node (l' := (mk 8 [0, 2, 3, 4, 5])) (V' := [0, 2, 3, 4, 5]) (T1 := [(7, .bool true), (9, vP ba_5), (11, vP ra_8), (175, vP ba_5), (177, vP ra_8), (178, vP ra_8), (179, vP ra_8), (180, .slice p.B.aw p.B.n p.B.cw)]) (ps := [ra_8 = ra_8]) [0, 2, 3, 4, 5] [(0, .h .w), (2, .h .w), (3, .h .w), (4, .h .w), (5, .h (.e 7))] [7, 9, 11, 175, 177, 178, 179, 180] [1] (by kernel_rfl) ⟨rfl, trivial⟩ ⟨?_, trivial⟩
    refine lz_call (l' := (mk 8 [0, 1, 2, 3, 4, 5])) (V' := [2, 3, 4, 5]) (some 176) [3, 4] Tryz.call25 (arena_Words ba_5 p.A hpa (by have := sizeOfC_ok hc; omega)) (by kernel_rfl) ?_
    rintro v post ⟨a2_1_1, c2_1_1, rfl, rfl⟩
    refine lz_end (T1 := [(7, .bool true), (18, .bool true)]) (ps := [ra_8 = ra_8, LawQ Tryz.prog F [.raw 0 o_, Ee1539 b_4 (cfgR q0), E6725d g_11 (cfgR q0) p.G.client p.G.epoch p.G.slot p.G.word (nxG g_11 p.G.ph) p.G.seen p.G.block p.G.failed p.G.commit (errV p.G.code), .rd a c0 encGAct dGAct 6 xs bt r, Ed23d1 g_12 (cfgR q0) p.H.client 0 1 p.H.epoch ((p.H.ph : Nat) : Int) p.H.failed p.H.block p.H.commit p.H.seen p.H.code, E3ba87 ra_8 p.B false 0, E671ef p.B, E21626 ba_5 p.A, E671ef p.A, E7a681 a2_1_1 c2_1_1 p.A.ws] (.bool (p.A.ws == p.B.ws)) callO (24, #[.slice a2_1_1 p.A.ws.length c2_1_1, .slice p.B.aw p.B.n p.B.cw]), (p.A.ws == p.B.ws) = true]) [6, 7] [(2, .h .w), (3, .h .w), (4, .h .w), (5, .h (.e 5)), (6, .q (.bool (p.A.ws == p.B.ws))), (7, .h (.t true))] [7, 18] (by kernel_rfl) ⟨rfl, (law_call Tryz.call24 (quiet_of [9, 6] (same_un a2_1_1 p.B.aw c2_1_1 p.B.cw p.B.n p.A.ws p.B.ws (by have := sizeOfC_ok hc; omega) hpc) (by kernel_rfl) (by rintro v post ⟨rfl, rfl⟩; exact ⟨rfl, rfl⟩))), (tw_ws hp.tw), trivial⟩ ?_
    refine go_exec (rs := [.tmp 6]) (by kernel_rfl) 4000 [] (o := .ret (.bool true) [.raw 0 o_, Ee1539 b_4 (cfgR q0), E6725d g_11 (cfgR q0) p.G.client p.G.epoch p.G.slot p.G.word (nxG g_11 p.G.ph) p.G.seen p.G.block p.G.failed p.G.commit (errV p.G.code), .rd a c0 encGAct dGAct 6 xs bt r, Ed23d1 g_12 (cfgR q0) p.H.client 0 1 p.H.epoch ((p.H.ph : Nat) : Int) p.H.failed p.H.block p.H.commit p.H.seen p.H.code, E3ba87 ra_8 p.B false 0, E671ef p.B, E21626 ba_5 p.A, E671ef p.A, E7a681 a2_1_1 c2_1_1 p.A.ws]) (by kernel_rfl) ?_
    exact ret_ok (post := [.raw 0 o_, .rd a c0 encGAct dGAct 6 xs bt r]) [0, 3] (by kernel_rfl) ⟨rfl, (by kernel_rfl)⟩

end Go.Proofs.YtilaihbbollcnaaGreatDoor


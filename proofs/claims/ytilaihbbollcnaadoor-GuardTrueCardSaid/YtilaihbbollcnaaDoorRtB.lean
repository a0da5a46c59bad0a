/- Walks: what functions of the program and of the document compute, part 2 of those on which GuardTrue rests. -/
import Derived.Test.YtilaihbbollcnaaDoorRtA

set_option linter.unusedVariables false
set_option linter.unusedSimpArgs false

namespace Go.Proofs.YtilaihbbollcnaaDoor
open Go.Sx
abbrev Ee565f (x0 : Nat) (c1 : Cfg) (x2 : Int) (x3 : Int) (x4 : Int) (x5 : Int) (x6 : Value) (x7 : Int) (x8 : Int) (x9 : Int) (x10 : Int) (x11 : Value) : Ent := .pts x0 [.int .i64 c1.topics, .int .i64 c1.small, .int .i64 c1.slots, .int .i64 c1.clients, .int .i64 c1.s0, .int .i64 c1.n0, .int .i64 c1.s1, .int .i64 c1.n1, .int .i64 c1.retry, .int .i64 x2, .int .i64 x3, .int .i64 x4, .int .i64 x5, x6, .int .u64 x7, .int .i64 x8, .int .i64 x9, .int .i64 x10, x11] 78
abbrev E52fd0 (x0 : Nat) (c1 : Cfg) (x2 : Int) (x3 : Int) (x4 : Int) (x5 : Int) (x6 : Value) (x7 : Int) (x8 : Int) (x9 : Int) (x10 : Int) : Ent := .pts x0 [.int .i64 c1.topics, .int .i64 c1.small, .int .i64 c1.slots, .int .i64 c1.clients, .int .i64 c1.s0, .int .i64 c1.n0, .int .i64 c1.s1, .int .i64 c1.n1, .int .i64 c1.retry, .int .i64 x2, .int .i64 x3, .int .i64 x4, .int .i64 x5, x6, .int .u64 x7, .int .i64 x8, .int .i64 x9, .int .i64 x10, .nilIface] 78
noncomputable def B66 : Code := (Tryd.f66.body).getD .skip

theorem gEnd0 (c : Cfg) (g : Nat) (cl ep sl wd sn bk fl cm : Int) (nx er : Value)  :
    Ctr Tryd.prog 66 #[vP g, vI 0] [Ee565f g c cl ep sl wd nx sn bk fl cm er] (Ret (undef) [E52fd0 g c cl ep sl wd (.nilFunc) sn bk fl cm]) := by
  refine ctr_of (args := [vP g, vI 0]) (fn := Tryd.f66) (body := B66) (nt := 20) Tryd.func66 (by kernel_rfl) (by kernel_rfl) ?_
  intro F
  refine go_exec (rs := []) (by kernel_rfl) 4000 [.e 0, .z [0, 1] 2 [0, 7, 8]] (o := .obl (g = g) (.stop [.o [0, 1] 2, .c [1, 1]] [(0, vP g), (7, vP g), (8, vI 0)] [Ee565f g c cl ep sl wd (.nilFunc) sn bk fl cm er])) (by kernel_rfl) ?_
  refine ok_obl rfl ?_
  refine ok_stop ?_
  refine go_call (some 9) [] Tryd.call41 (cause_New0) (by kernel_rfl) ?_
  rintro v post ⟨rfl, rfl⟩
  refine go_exec (rs := []) (by kernel_rfl) 4000 [.e 0, .e 0] (o := .obl (g = g) (.obl (g = g) (.ret (undef) [E52fd0 g c cl ep sl wd (.nilFunc) sn bk fl cm]))) (by kernel_rfl) ?_
  refine ok_obl rfl ?_
  refine ok_obl rfl ?_
  exact ret_ok (post := [E52fd0 g c cl ep sl wd (.nilFunc) sn bk fl cm]) [0] (by kernel_rfl) ⟨rfl, (by kernel_rfl)⟩


theorem gEndE (c : Cfg) (g : Nat) (cl ep sl wd sn bk fl cm : Int) (nx er : Value) (k_ : Int) (hk : k_ ≠ 0) :
    Ctr Tryd.prog 66 #[vP g, vI k_] [Ee565f g c cl ep sl wd nx sn bk fl cm er] (Ret (undef) [Ee565f g c cl ep sl wd (.nilFunc) sn 0 fl cm (.iface 49 (vI k_))]) := by
  refine ctr_of (args := [vP g, vI k_]) (fn := Tryd.f66) (body := B66) (nt := 20) Tryd.func66 (by kernel_rfl) (by kernel_rfl) ?_
  intro F
  refine go_exec (rs := []) (by kernel_rfl) 4000 [.e 0, .z [0, 1] 2 [0, 7, 8]] (o := .obl (g = g) (.stop [.o [0, 1] 2, .c [1, 1]] [(0, vP g), (7, vP g), (8, vI k_)] [Ee565f g c cl ep sl wd (.nilFunc) sn bk fl cm er])) (by kernel_rfl) ?_
  refine ok_obl rfl ?_
  refine ok_stop ?_
  refine go_call (some 9) [] Tryd.call41 (cause_NewE k_ (by first | assumption | omega | (simp only [InK] at *; omega))) (by kernel_rfl) ?_
  rintro v post ⟨rfl, rfl⟩
  refine go_exec (rs := []) (by kernel_rfl) 4000 [.e 0, .e 0, .e 0] (o := .obl (g = g) (.obl (g = g) (.obl (g = g) (.ret (undef) [Ee565f g c cl ep sl wd (.nilFunc) sn 0 fl cm (.iface 49 (vI k_))])))) (by kernel_rfl) ?_
  refine ok_obl rfl ?_
  refine ok_obl rfl ?_
  refine ok_obl rfl ?_
  exact ret_ok (post := [Ee565f g c cl ep sl wd (.nilFunc) sn 0 fl cm (.iface 49 (vI k_))]) [0] (by kernel_rfl) ⟨rfl, (by kernel_rfl)⟩

noncomputable def B54 : Code := (Tryd.f54.body).getD .skip

theorem gLookD (c : Cfg) (g : Nat) (cl ep sl wd sn bk fl cm : Int) (nx er : Value) (w_ : Int) (hw : U64 w_) (hl : ctlLive w_ = false) :
    Ctr Tryd.prog 54 #[vP g, vU w_] [Ee565f g c cl ep sl wd nx sn bk fl cm er] (Ret (undef) [Ee565f g c cl ep sl wd (.nilFunc) w_ 0 fl cm (.iface 49 (vI 22))]) := by
  refine ctr_of (args := [vP g, vU w_]) (fn := Tryd.f54) (body := B54) (nt := 42) Tryd.func54 (by kernel_rfl) (by kernel_rfl) ?_
  intro F
  refine go_exec (rs := []) (by kernel_rfl) 4000 [.z [0] 1 [0, 1, 5]] (o := .stop [.o [0] 1, .c [1]] [(0, vP g), (1, vU w_), (5, vU w_)] [Ee565f g c cl ep sl wd nx sn bk fl cm er]) (by kernel_rfl) ?_
  refine ok_stop ?_
  refine go_call (some 6) [] Tryd.call64 (ctl_Unpack w_ (by first | assumption | omega | (simp only [InK] at *; omega))) (by kernel_rfl) ?_
  rintro v post ⟨rfl, rfl⟩
  refine go_exec (rs := []) (by kernel_rfl) 4000 [.e 1, .z [0, 1] 0 [0, 1, 4]] (o := .new fun b_2 => .obl (b_2 = b_2) (.stop [.c [0, 1], .c [1, 1]] [(0, vP g), (1, vU w_), (4, vP b_2)] [Ee565f g c cl ep sl wd nx sn bk fl cm er, Ebee6b b_2 (ctlEpoch w_) (ctlGen w_) (ctlBlock w_) (ctlLive w_) (ctlBusy w_)])) (by kernel_rfl) ?_
  refine ok_new fun b_2 => ?_
  refine ok_obl rfl ?_
  refine ok_stop ?_
  refine go_lz (by kernel_rfl) (by kernel_rfl) ?_
  refine lz_node (l' := (mk 17 [0, 1, 2, 3, 4, 5, 6, 7, 8, 9])) (V' := [0, 1, 2, 3, 4, 5, 6, 7, 8, 9]) (T1 := [(0, vP g), (1, vU w_), (4, vP b_2), (7, vP g), (8, vP g), (9, vP g), (10, vU w_), (11, .pointer (some ⟨b_2, 2, none⟩)), (12, vI (ctlBlock w_)), (13, vP g), (14, .func (.func 65) #[vP g] #[]), (15, vP g), (16, .pointer (some ⟨g, 14, none⟩))]) (ps := [b_2 = b_2]) [0, 1, 2, 3, 4, 5, 6, 7, 8, 9] [(0, .h .w), (1, .h .w), (2, .h .w), (3, .h .w), (4, .h .w), (5, .h (.e 1)), (6, .h .w), (7, .h .w), (8, .h .w), (9, .h .w)] [0, 1, 4, 7, 8, 9, 10, 11, 12, 13, 14, 15, 16] [10] (by kernel_rfl) ⟨rfl, trivial⟩ ⟨?_, trivial⟩
  refine lz_op (l' := (mk 17 [0, 1, 2, 3, 4, 5, 6, 7, 8, 9, 10])) (V' := [1, 2, 4, 5, 6, 7]) (so := .obl (g = g) (.ok .skip [Ee565f g c cl ep sl wd nx w_ bk fl cm er, Ebee6b b_2 (ctlEpoch w_) (ctlGen w_) (ctlBlock w_) (ctlLive w_) (ctlBusy w_)])) (dst := none) (.e 0) (by kernel_rfl) ?_
  refine sat_obl rfl ?_
  refine sat_skip ?_
  refine lz_node (l' := (mk 17 [0, 1, 2, 3, 4, 5, 6, 7, 8, 9, 10, 11, 12])) (V' := [1, 2, 4, 5, 6, 7, 11, 12]) (T1 := [(0, vP g), (4, vP b_2), (8, vP g), (9, vP g), (11, .pointer (some ⟨b_2, 2, none⟩)), (12, vI (ctlBlock w_)), (13, vP g), (14, .func (.func 65) #[vP g] #[]), (17, vP g), (18, .pointer (some ⟨g, 15, none⟩))]) (ps := [b_2 = b_2]) [11, 12] [(1, .h .w), (2, .h .w), (4, .h .w), (5, .h (.e 1)), (6, .h .w), (7, .h .w), (11, .h .w), (12, .h .w)] [0, 4, 8, 9, 11, 12, 13, 14, 17, 18] [13] (by kernel_rfl) ⟨rfl, trivial⟩ ⟨?_, trivial⟩
  refine lz_op (l' := (mk 17 [0, 1, 2, 3, 4, 5, 6, 7, 8, 9, 10, 11, 12, 13])) (V' := [2, 6, 7]) (so := .obl (g = g) (.ok .skip [Ee565f g c cl ep sl wd nx w_ (ctlBlock w_) fl cm er, Ebee6b b_2 (ctlEpoch w_) (ctlGen w_) (ctlBlock w_) (ctlLive w_) (ctlBusy w_)])) (dst := none) (.e 0) (by kernel_rfl) ?_
  refine sat_obl rfl ?_
  refine sat_skip ?_
  refine lz_node (l' := (mk 17 [0, 1, 2, 3, 4, 5, 6, 7, 8, 9, 10, 11, 12, 13, 14, 15])) (V' := [2, 6, 7, 14, 15]) (T1 := [(0, vP g), (4, vP b_2), (9, vP g), (13, vP g), (14, .func (.func 65) #[vP g] #[]), (19, vP g), (20, .pointer (some ⟨g, 13, none⟩))]) (ps := []) [14, 15] [(2, .h .w), (6, .h .w), (7, .h .w), (14, .h .w), (15, .h .w)] [0, 4, 9, 13, 14, 19, 20] [16] (by kernel_rfl) trivial ⟨?_, trivial⟩
  refine lz_op (l' := (mk 17 [0, 1, 2, 3, 4, 5, 6, 7, 8, 9, 10, 11, 12, 13, 14, 15, 16])) (V' := []) (so := .obl (g = g) (.ok .skip [Ee565f g c cl ep sl wd (.func (.func 65) #[vP g] #[]) w_ (ctlBlock w_) fl cm er, Ebee6b b_2 (ctlEpoch w_) (ctlGen w_) (ctlBlock w_) (ctlLive w_) (ctlBusy w_)])) (dst := none) (.e 0) (by kernel_rfl) ?_
  refine sat_obl rfl ?_
  refine sat_skip ?_
  refine lz_end (T1 := [(0, vP g), (4, vP b_2)]) (ps := []) [] [] [0, 4] (by kernel_rfl) trivial ?_
  refine go_exec (rs := []) (by kernel_rfl) 4000 [.z [0, 0, 1, 1] 0 [0, 4]] (o := .stop [.c [0, 0, 1, 1], .c [1, 0, 1, 1], .b 0] [(0, vP g), (4, vP b_2)] [Ee565f g c cl ep sl wd (.func (.func 65) #[vP g] #[]) w_ (ctlBlock w_) fl cm er, Ebee6b b_2 (ctlEpoch w_) (ctlGen w_) (ctlBlock w_) (ctlLive w_) (ctlBusy w_)]) (by kernel_rfl) ?_
  refine ok_stop ?_
  refine go_quiet (tm' := [(0, vP g), (4, vP b_2), (21, .bool true)]) (ps := [b_2 = b_2, (!(ctlLive w_)) = true]) (cs := []) [(0, .h .w), (1, .h (.e 1)), (2, .h (.t true)), (3, .h .w), (4, .h .w), (5, .h .w), (6, .h .w), (7, .h .w), (8, .h .w), (9, .h .w), (10, .h .w), (11, .h .w), (12, .h .w)] [0, 4, 21] (by kernel_rfl) (by kernel_rfl) ⟨rfl, (by simp [hl]), trivial⟩ trivial ?_
  refine go_exec (rs := []) (by kernel_rfl) 4000 [.z [0, 1, 0, 1, 1] 1 [34]] (o := .stop [.o [0, 1, 0, 1, 1] 1, .b 0] [(34, vP g)] [Ee565f g c cl ep sl wd (.func (.func 65) #[vP g] #[]) w_ (ctlBlock w_) fl cm er, Ebee6b b_2 (ctlEpoch w_) (ctlGen w_) (ctlBlock w_) (ctlLive w_) (ctlBusy w_)]) (by kernel_rfl) ?_
  refine ok_stop ?_
  refine go_call (some 35) [0] Tryd.call66 (gEndE c g cl ep sl wd w_ (ctlBlock w_) fl cm (.func (.func 65) #[vP g] #[]) er 22 (by decide)) (by kernel_rfl) ?_
  rintro v post ⟨rfl, rfl⟩
  refine go_exec (rs := []) (by kernel_rfl) 4000 [] (o := .ret (undef) [Ebee6b b_2 (ctlEpoch w_) (ctlGen w_) (ctlBlock w_) (ctlLive w_) (ctlBusy w_), Ee565f g c cl ep sl wd (.nilFunc) w_ 0 fl cm (.iface 49 (vI 22))]) (by kernel_rfl) ?_
  exact ret_ok (post := [Ee565f g c cl ep sl wd (.nilFunc) w_ 0 fl cm (.iface 49 (vI 22))]) [1] (by kernel_rfl) ⟨rfl, (by kernel_rfl)⟩


theorem gLookP (c : Cfg) (g : Nat) (cl ep sl wd sn bk fl cm : Int) (nx er : Value) (w_ : Int) (hw : U64 w_) (hl : ctlLive w_ = true) (he : ctlEpoch w_ ≠ ep) :
    Ctr Tryd.prog 54 #[vP g, vU w_] [Ee565f g c cl ep sl wd nx sn bk fl cm er] (Ret (undef) [Ee565f g c cl ep sl wd (.nilFunc) w_ 0 fl cm (.iface 49 (vI 22))]) := by
  refine ctr_of (args := [vP g, vU w_]) (fn := Tryd.f54) (body := B54) (nt := 42) Tryd.func54 (by kernel_rfl) (by kernel_rfl) ?_
  intro F
  refine go_exec (rs := []) (by kernel_rfl) 4000 [.z [0] 1 [0, 1, 5]] (o := .stop [.o [0] 1, .c [1]] [(0, vP g), (1, vU w_), (5, vU w_)] [Ee565f g c cl ep sl wd nx sn bk fl cm er]) (by kernel_rfl) ?_
  refine ok_stop ?_
  refine go_call (some 6) [] Tryd.call64 (ctl_Unpack w_ (by first | assumption | omega | (simp only [InK] at *; omega))) (by kernel_rfl) ?_
  rintro v post ⟨rfl, rfl⟩
  refine go_exec (rs := []) (by kernel_rfl) 4000 [.e 1, .z [0, 1] 0 [0, 1, 4]] (o := .new fun b_2 => .obl (b_2 = b_2) (.stop [.c [0, 1], .c [1, 1]] [(0, vP g), (1, vU w_), (4, vP b_2)] [Ee565f g c cl ep sl wd nx sn bk fl cm er, Ebee6b b_2 (ctlEpoch w_) (ctlGen w_) (ctlBlock w_) (ctlLive w_) (ctlBusy w_)])) (by kernel_rfl) ?_
  refine ok_new fun b_2 => ?_
  refine ok_obl rfl ?_
  refine ok_stop ?_
  refine go_lz (by kernel_rfl) (by kernel_rfl) ?_
  refine lz_node (l' := (mk 17 [0, 1, 2, 3, 4, 5, 6, 7, 8, 9])) (V' := [0, 1, 2, 3, 4, 5, 6, 7, 8, 9]) (T1 := [(0, vP g), (1, vU w_), (4, vP b_2), (7, vP g), (8, vP g), (9, vP g), (10, vU w_), (11, .pointer (some ⟨b_2, 2, none⟩)), (12, vI (ctlBlock w_)), (13, vP g), (14, .func (.func 65) #[vP g] #[]), (15, vP g), (16, .pointer (some ⟨g, 14, none⟩))]) (ps := [b_2 = b_2]) [0, 1, 2, 3, 4, 5, 6, 7, 8, 9] [(0, .h .w), (1, .h .w), (2, .h .w), (3, .h .w), (4, .h .w), (5, .h (.e 1)), (6, .h .w), (7, .h .w), (8, .h .w), (9, .h .w)] [0, 1, 4, 7, 8, 9, 10, 11, 12, 13, 14, 15, 16] [10] (by kernel_rfl) ⟨rfl, trivial⟩ ⟨?_, trivial⟩
  refine lz_op (l' := (mk 17 [0, 1, 2, 3, 4, 5, 6, 7, 8, 9, 10])) (V' := [1, 2, 4, 5, 6, 7]) (so := .obl (g = g) (.ok .skip [Ee565f g c cl ep sl wd nx w_ bk fl cm er, Ebee6b b_2 (ctlEpoch w_) (ctlGen w_) (ctlBlock w_) (ctlLive w_) (ctlBusy w_)])) (dst := none) (.e 0) (by kernel_rfl) ?_
  refine sat_obl rfl ?_
  refine sat_skip ?_
  refine lz_node (l' := (mk 17 [0, 1, 2, 3, 4, 5, 6, 7, 8, 9, 10, 11, 12])) (V' := [1, 2, 4, 5, 6, 7, 11, 12]) (T1 := [(0, vP g), (4, vP b_2), (8, vP g), (9, vP g), (11, .pointer (some ⟨b_2, 2, none⟩)), (12, vI (ctlBlock w_)), (13, vP g), (14, .func (.func 65) #[vP g] #[]), (17, vP g), (18, .pointer (some ⟨g, 15, none⟩))]) (ps := [b_2 = b_2]) [11, 12] [(1, .h .w), (2, .h .w), (4, .h .w), (5, .h (.e 1)), (6, .h .w), (7, .h .w), (11, .h .w), (12, .h .w)] [0, 4, 8, 9, 11, 12, 13, 14, 17, 18] [13] (by kernel_rfl) ⟨rfl, trivial⟩ ⟨?_, trivial⟩
  refine lz_op (l' := (mk 17 [0, 1, 2, 3, 4, 5, 6, 7, 8, 9, 10, 11, 12, 13])) (V' := [2, 6, 7]) (so := .obl (g = g) (.ok .skip [Ee565f g c cl ep sl wd nx w_ (ctlBlock w_) fl cm er, Ebee6b b_2 (ctlEpoch w_) (ctlGen w_) (ctlBlock w_) (ctlLive w_) (ctlBusy w_)])) (dst := none) (.e 0) (by kernel_rfl) ?_
  refine sat_obl rfl ?_
  refine sat_skip ?_
  refine lz_node (l' := (mk 17 [0, 1, 2, 3, 4, 5, 6, 7, 8, 9, 10, 11, 12, 13, 14, 15])) (V' := [2, 6, 7, 14, 15]) (T1 := [(0, vP g), (4, vP b_2), (9, vP g), (13, vP g), (14, .func (.func 65) #[vP g] #[]), (19, vP g), (20, .pointer (some ⟨g, 13, none⟩))]) (ps := []) [14, 15] [(2, .h .w), (6, .h .w), (7, .h .w), (14, .h .w), (15, .h .w)] [0, 4, 9, 13, 14, 19, 20] [16] (by kernel_rfl) trivial ⟨?_, trivial⟩
  refine lz_op (l' := (mk 17 [0, 1, 2, 3, 4, 5, 6, 7, 8, 9, 10, 11, 12, 13, 14, 15, 16])) (V' := []) (so := .obl (g = g) (.ok .skip [Ee565f g c cl ep sl wd (.func (.func 65) #[vP g] #[]) w_ (ctlBlock w_) fl cm er, Ebee6b b_2 (ctlEpoch w_) (ctlGen w_) (ctlBlock w_) (ctlLive w_) (ctlBusy w_)])) (dst := none) (.e 0) (by kernel_rfl) ?_
  refine sat_obl rfl ?_
  refine sat_skip ?_
  refine lz_end (T1 := [(0, vP g), (4, vP b_2)]) (ps := []) [] [] [0, 4] (by kernel_rfl) trivial ?_
  refine go_exec (rs := []) (by kernel_rfl) 4000 [.z [0, 0, 1, 1] 0 [0, 4]] (o := .stop [.c [0, 0, 1, 1], .c [1, 0, 1, 1], .b 0] [(0, vP g), (4, vP b_2)] [Ee565f g c cl ep sl wd (.func (.func 65) #[vP g] #[]) w_ (ctlBlock w_) fl cm er, Ebee6b b_2 (ctlEpoch w_) (ctlGen w_) (ctlBlock w_) (ctlLive w_) (ctlBusy w_)]) (by kernel_rfl) ?_
  refine ok_stop ?_
  refine go_quiet (tm' := [(0, vP g), (4, vP b_2), (21, .bool true)]) (ps := [b_2 = b_2, (!(ctlLive w_)) = false, b_2 = b_2, g = g, ((ctlEpoch w_) != ep) = true]) (cs := []) [(0, .h .w), (1, .h (.e 1)), (2, .h (.t false)), (3, .h .w), (4, .h .w), (5, .h (.e 1)), (6, .h .w), (7, .h .w), (8, .h .w), (9, .h (.e 0)), (10, .h (.t true)), (11, .h .w), (12, .h .w)] [0, 4, 21] (by kernel_rfl) (by kernel_rfl) ⟨rfl, (by simp [hl]), rfl, rfl, (bne_iff_ne.2 he), trivial⟩ trivial ?_
  refine go_exec (rs := []) (by kernel_rfl) 4000 [.z [0, 1, 0, 1, 1] 1 [34]] (o := .stop [.o [0, 1, 0, 1, 1] 1, .b 0] [(34, vP g)] [Ee565f g c cl ep sl wd (.func (.func 65) #[vP g] #[]) w_ (ctlBlock w_) fl cm er, Ebee6b b_2 (ctlEpoch w_) (ctlGen w_) (ctlBlock w_) (ctlLive w_) (ctlBusy w_)]) (by kernel_rfl) ?_
  refine ok_stop ?_
  refine go_call (some 35) [0] Tryd.call66 (gEndE c g cl ep sl wd w_ (ctlBlock w_) fl cm (.func (.func 65) #[vP g] #[]) er 22 (by decide)) (by kernel_rfl) ?_
  rintro v post ⟨rfl, rfl⟩
  refine go_exec (rs := []) (by kernel_rfl) 4000 [] (o := .ret (undef) [Ebee6b b_2 (ctlEpoch w_) (ctlGen w_) (ctlBlock w_) (ctlLive w_) (ctlBusy w_), Ee565f g c cl ep sl wd (.nilFunc) w_ 0 fl cm (.iface 49 (vI 22))]) (by kernel_rfl) ?_
  exact ret_ok (post := [Ee565f g c cl ep sl wd (.nilFunc) w_ 0 fl cm (.iface 49 (vI 22))]) [1] (by kernel_rfl) ⟨rfl, (by kernel_rfl)⟩


theorem gLookE (c : Cfg) (g : Nat) (cl ep sl wd sn bk fl cm : Int) (nx er : Value) (w_ : Int) (hw : U64 w_) (hl : ctlLive w_ = true) (he : ctlEpoch w_ = ep) (hb : ctlBlock w_ = 0) :
    Ctr Tryd.prog 54 #[vP g, vU w_] [Ee565f g c cl ep sl wd nx sn bk fl cm er] (Ret (undef) [Ee565f g c cl ep sl wd (.nilFunc) w_ 0 fl cm (.iface 49 (vI 20))]) := by
  refine ctr_of (args := [vP g, vU w_]) (fn := Tryd.f54) (body := B54) (nt := 42) Tryd.func54 (by kernel_rfl) (by kernel_rfl) ?_
  intro F
  refine go_exec (rs := []) (by kernel_rfl) 4000 [.z [0] 1 [0, 1, 5]] (o := .stop [.o [0] 1, .c [1]] [(0, vP g), (1, vU w_), (5, vU w_)] [Ee565f g c cl ep sl wd nx sn bk fl cm er]) (by kernel_rfl) ?_
  refine ok_stop ?_
  refine go_call (some 6) [] Tryd.call64 (ctl_Unpack w_ (by first | assumption | omega | (simp only [InK] at *; omega))) (by kernel_rfl) ?_
  rintro v post ⟨rfl, rfl⟩
  refine go_exec (rs := []) (by kernel_rfl) 4000 [.e 1, .z [0, 1] 0 [0, 1, 4]] (o := .new fun b_2 => .obl (b_2 = b_2) (.stop [.c [0, 1], .c [1, 1]] [(0, vP g), (1, vU w_), (4, vP b_2)] [Ee565f g c cl ep sl wd nx sn bk fl cm er, Ebee6b b_2 (ctlEpoch w_) (ctlGen w_) (ctlBlock w_) (ctlLive w_) (ctlBusy w_)])) (by kernel_rfl) ?_
  refine ok_new fun b_2 => ?_
  refine ok_obl rfl ?_
  refine ok_stop ?_
  refine go_lz (by kernel_rfl) (by kernel_rfl) ?_
  refine lz_node (l' := (mk 17 [0, 1, 2, 3, 4, 5, 6, 7, 8, 9])) (V' := [0, 1, 2, 3, 4, 5, 6, 7, 8, 9]) (T1 := [(0, vP g), (1, vU w_), (4, vP b_2), (7, vP g), (8, vP g), (9, vP g), (10, vU w_), (11, .pointer (some ⟨b_2, 2, none⟩)), (12, vI (ctlBlock w_)), (13, vP g), (14, .func (.func 65) #[vP g] #[]), (15, vP g), (16, .pointer (some ⟨g, 14, none⟩))]) (ps := [b_2 = b_2]) [0, 1, 2, 3, 4, 5, 6, 7, 8, 9] [(0, .h .w), (1, .h .w), (2, .h .w), (3, .h .w), (4, .h .w), (5, .h (.e 1)), (6, .h .w), (7, .h .w), (8, .h .w), (9, .h .w)] [0, 1, 4, 7, 8, 9, 10, 11, 12, 13, 14, 15, 16] [10] (by kernel_rfl) ⟨rfl, trivial⟩ ⟨?_, trivial⟩
  refine lz_op (l' := (mk 17 [0, 1, 2, 3, 4, 5, 6, 7, 8, 9, 10])) (V' := [1, 2, 4, 5, 6, 7]) (so := .obl (g = g) (.ok .skip [Ee565f g c cl ep sl wd nx w_ bk fl cm er, Ebee6b b_2 (ctlEpoch w_) (ctlGen w_) (ctlBlock w_) (ctlLive w_) (ctlBusy w_)])) (dst := none) (.e 0) (by kernel_rfl) ?_
  refine sat_obl rfl ?_
  refine sat_skip ?_
  refine lz_node (l' := (mk 17 [0, 1, 2, 3, 4, 5, 6, 7, 8, 9, 10, 11, 12])) (V' := [1, 2, 4, 5, 6, 7, 11, 12]) (T1 := [(0, vP g), (4, vP b_2), (8, vP g), (9, vP g), (11, .pointer (some ⟨b_2, 2, none⟩)), (12, vI (ctlBlock w_)), (13, vP g), (14, .func (.func 65) #[vP g] #[]), (17, vP g), (18, .pointer (some ⟨g, 15, none⟩))]) (ps := [b_2 = b_2]) [11, 12] [(1, .h .w), (2, .h .w), (4, .h .w), (5, .h (.e 1)), (6, .h .w), (7, .h .w), (11, .h .w), (12, .h .w)] [0, 4, 8, 9, 11, 12, 13, 14, 17, 18] [13] (by kernel_rfl) ⟨rfl, trivial⟩ ⟨?_, trivial⟩
  refine lz_op (l' := (mk 17 [0, 1, 2, 3, 4, 5, 6, 7, 8, 9, 10, 11, 12, 13])) (V' := [2, 6, 7]) (so := .obl (g = g) (.ok .skip [Ee565f g c cl ep sl wd nx w_ (ctlBlock w_) fl cm er, Ebee6b b_2 (ctlEpoch w_) (ctlGen w_) (ctlBlock w_) (ctlLive w_) (ctlBusy w_)])) (dst := none) (.e 0) (by kernel_rfl) ?_
  refine sat_obl rfl ?_
  refine sat_skip ?_
  refine lz_node (l' := (mk 17 [0, 1, 2, 3, 4, 5, 6, 7, 8, 9, 10, 11, 12, 13, 14, 15])) (V' := [2, 6, 7, 14, 15]) (T1 := [(0, vP g), (4, vP b_2), (9, vP g), (13, vP g), (14, .func (.func 65) #[vP g] #[]), (19, vP g), (20, .pointer (some ⟨g, 13, none⟩))]) (ps := []) [14, 15] [(2, .h .w), (6, .h .w), (7, .h .w), (14, .h .w), (15, .h .w)] [0, 4, 9, 13, 14, 19, 20] [16] (by kernel_rfl) trivial ⟨?_, trivial⟩
  refine lz_op (l' := (mk 17 [0, 1, 2, 3, 4, 5, 6, 7, 8, 9, 10, 11, 12, 13, 14, 15, 16])) (V' := []) (so := .obl (g = g) (.ok .skip [Ee565f g c cl ep sl wd (.func (.func 65) #[vP g] #[]) w_ (ctlBlock w_) fl cm er, Ebee6b b_2 (ctlEpoch w_) (ctlGen w_) (ctlBlock w_) (ctlLive w_) (ctlBusy w_)])) (dst := none) (.e 0) (by kernel_rfl) ?_
  refine sat_obl rfl ?_
  refine sat_skip ?_
  refine lz_end (T1 := [(0, vP g), (4, vP b_2)]) (ps := []) [] [] [0, 4] (by kernel_rfl) trivial ?_
  refine go_exec (rs := []) (by kernel_rfl) 4000 [.z [0, 0, 1, 1] 0 [0, 4]] (o := .stop [.c [0, 0, 1, 1], .c [1, 0, 1, 1], .b 0] [(0, vP g), (4, vP b_2)] [Ee565f g c cl ep sl wd (.func (.func 65) #[vP g] #[]) w_ (ctlBlock w_) fl cm er, Ebee6b b_2 (ctlEpoch w_) (ctlGen w_) (ctlBlock w_) (ctlLive w_) (ctlBusy w_)]) (by kernel_rfl) ?_
  refine ok_stop ?_
  refine go_quiet (tm' := [(0, vP g), (4, vP b_2), (21, .bool false)]) (ps := [b_2 = b_2, (!(ctlLive w_)) = false, b_2 = b_2, g = g, ((ctlEpoch w_) != ep) = false]) (cs := []) [(0, .h .w), (1, .h (.e 1)), (2, .h (.t false)), (3, .h .w), (4, .h .w), (5, .h (.e 1)), (6, .h .w), (7, .h .w), (8, .h .w), (9, .h (.e 0)), (10, .h (.t false)), (11, .h .w), (12, .h .w)] [0, 4, 21] (by kernel_rfl) (by kernel_rfl) ⟨rfl, (by simp [hl]), rfl, rfl, (bne_eq_false_iff_eq.2 he), trivial⟩ trivial ?_
  refine go_exec (rs := []) (by kernel_rfl) 4000 [.e 1, .sp [36, 39] [.z [0, 1, 1, 1, 0, 1, 1] 1 [40]] [.dead]] (o := .obl (b_2 = b_2) (.obl (((ctlBlock w_) == 0) = ((ctlBlock w_) == 0)) (.br ((ctlBlock w_) == 0) (.stop [.o [0, 1, 1, 1, 0, 1, 1] 1, .b 0] [(40, vP g)] [Ee565f g c cl ep sl wd (.func (.func 65) #[vP g] #[]) w_ (ctlBlock w_) fl cm er, Ebee6b b_2 (ctlEpoch w_) (ctlGen w_) (ctlBlock w_) (ctlLive w_) (ctlBusy w_)]) (.bad)))) (by kernel_rfl) ?_
  refine ok_obl rfl ?_
  refine ok_obl rfl ?_
  refine ok_br (fun _ => ?_) (fun h => absurd (show ((ctlBlock w_) == 0) = true from (beq_iff_eq.2 hb)) (by rw [h]; simp))
  refine ok_stop ?_
  refine go_call (some 41) [0] Tryd.call66 (gEndE c g cl ep sl wd w_ (ctlBlock w_) fl cm (.func (.func 65) #[vP g] #[]) er 20 (by decide)) (by kernel_rfl) ?_
  rintro v post ⟨rfl, rfl⟩
  refine go_exec (rs := []) (by kernel_rfl) 4000 [] (o := .ret (undef) [Ebee6b b_2 (ctlEpoch w_) (ctlGen w_) (ctlBlock w_) (ctlLive w_) (ctlBusy w_), Ee565f g c cl ep sl wd (.nilFunc) w_ 0 fl cm (.iface 49 (vI 20))]) (by kernel_rfl) ?_
  exact ret_ok (post := [Ee565f g c cl ep sl wd (.nilFunc) w_ 0 fl cm (.iface 49 (vI 20))]) [1] (by kernel_rfl) ⟨rfl, (by kernel_rfl)⟩


theorem gLookN (c : Cfg) (g : Nat) (cl ep sl wd sn bk fl cm : Int) (nx er : Value) (w_ : Int) (hw : U64 w_) (hl : ctlLive w_ = true) (he : ctlEpoch w_ = ep) (hb : ctlBlock w_ ≠ 0) :
    Ctr Tryd.prog 54 #[vP g, vU w_] [Ee565f g c cl ep sl wd nx sn bk fl cm er] (Ret (undef) [Ee565f g c cl ep sl wd (.func (.func 65) #[vP g] #[]) w_ (ctlBlock w_) fl cm er]) := by
  refine ctr_of (args := [vP g, vU w_]) (fn := Tryd.f54) (body := B54) (nt := 42) Tryd.func54 (by kernel_rfl) (by kernel_rfl) ?_
  intro F
  refine go_exec (rs := []) (by kernel_rfl) 4000 [.z [0] 1 [0, 1, 5]] (o := .stop [.o [0] 1, .c [1]] [(0, vP g), (1, vU w_), (5, vU w_)] [Ee565f g c cl ep sl wd nx sn bk fl cm er]) (by kernel_rfl) ?_
  refine ok_stop ?_
  refine go_call (some 6) [] Tryd.call64 (ctl_Unpack w_ (by first | assumption | omega | (simp only [InK] at *; omega))) (by kernel_rfl) ?_
  rintro v post ⟨rfl, rfl⟩
  refine go_exec (rs := []) (by kernel_rfl) 4000 [.e 1, .z [0, 1] 0 [0, 1, 4]] (o := .new fun b_2 => .obl (b_2 = b_2) (.stop [.c [0, 1], .c [1, 1]] [(0, vP g), (1, vU w_), (4, vP b_2)] [Ee565f g c cl ep sl wd nx sn bk fl cm er, Ebee6b b_2 (ctlEpoch w_) (ctlGen w_) (ctlBlock w_) (ctlLive w_) (ctlBusy w_)])) (by kernel_rfl) ?_
  refine ok_new fun b_2 => ?_
  refine ok_obl rfl ?_
  refine ok_stop ?_
  refine go_lz (by kernel_rfl) (by kernel_rfl) ?_
  refine lz_node (l' := (mk 17 [0, 1, 2, 3, 4, 5, 6, 7, 8, 9])) (V' := [0, 1, 2, 3, 4, 5, 6, 7, 8, 9]) (T1 := [(0, vP g), (1, vU w_), (4, vP b_2), (7, vP g), (8, vP g), (9, vP g), (10, vU w_), (11, .pointer (some ⟨b_2, 2, none⟩)), (12, vI (ctlBlock w_)), (13, vP g), (14, .func (.func 65) #[vP g] #[]), (15, vP g), (16, .pointer (some ⟨g, 14, none⟩))]) (ps := [b_2 = b_2]) [0, 1, 2, 3, 4, 5, 6, 7, 8, 9] [(0, .h .w), (1, .h .w), (2, .h .w), (3, .h .w), (4, .h .w), (5, .h (.e 1)), (6, .h .w), (7, .h .w), (8, .h .w), (9, .h .w)] [0, 1, 4, 7, 8, 9, 10, 11, 12, 13, 14, 15, 16] [10] (by kernel_rfl) ⟨rfl, trivial⟩ ⟨?_, trivial⟩
  refine lz_op (l' := (mk 17 [0, 1, 2, 3, 4, 5, 6, 7, 8, 9, 10])) (V' := [1, 2, 4, 5, 6, 7]) (so := .obl (g = g) (.ok .skip [Ee565f g c cl ep sl wd nx w_ bk fl cm er, Ebee6b b_2 (ctlEpoch w_) (ctlGen w_) (ctlBlock w_) (ctlLive w_) (ctlBusy w_)])) (dst := none) (.e 0) (by kernel_rfl) ?_
  refine sat_obl rfl ?_
  refine sat_skip ?_
  refine lz_node (l' := (mk 17 [0, 1, 2, 3, 4, 5, 6, 7, 8, 9, 10, 11, 12])) (V' := [1, 2, 4, 5, 6, 7, 11, 12]) (T1 := [(0, vP g), (4, vP b_2), (8, vP g), (9, vP g), (11, .pointer (some ⟨b_2, 2, none⟩)), (12, vI (ctlBlock w_)), (13, vP g), (14, .func (.func 65) #[vP g] #[]), (17, vP g), (18, .pointer (some ⟨g, 15, none⟩))]) (ps := [b_2 = b_2]) [11, 12] [(1, .h .w), (2, .h .w), (4, .h .w), (5, .h (.e 1)), (6, .h .w), (7, .h .w), (11, .h .w), (12, .h .w)] [0, 4, 8, 9, 11, 12, 13, 14, 17, 18] [13] (by kernel_rfl) ⟨rfl, trivial⟩ ⟨?_, trivial⟩
  refine lz_op (l' := (mk 17 [0, 1, 2, 3, 4, 5, 6, 7, 8, 9, 10, 11, 12, 13])) (V' := [2, 6, 7]) (so := .obl (g = g) (.ok .skip [Ee565f g c cl ep sl wd nx w_ (ctlBlock w_) fl cm er, Ebee6b b_2 (ctlEpoch w_) (ctlGen w_) (ctlBlock w_) (ctlLive w_) (ctlBusy w_)])) (dst := none) (.e 0) (by kernel_rfl) ?_
  refine sat_obl rfl ?_
  refine sat_skip ?_
  refine lz_node (l' := (mk 17 [0, 1, 2, 3, 4, 5, 6, 7, 8, 9, 10, 11, 12, 13, 14, 15])) (V' := [2, 6, 7, 14, 15]) (T1 := [(0, vP g), (4, vP b_2), (9, vP g), (13, vP g), (14, .func (.func 65) #[vP g] #[]), (19, vP g), (20, .pointer (some ⟨g, 13, none⟩))]) (ps := []) [14, 15] [(2, .h .w), (6, .h .w), (7, .h .w), (14, .h .w), (15, .h .w)] [0, 4, 9, 13, 14, 19, 20] [16] (by kernel_rfl) trivial ⟨?_, trivial⟩
  refine lz_op (l' := (mk 17 [0, 1, 2, 3, 4, 5, 6, 7, 8, 9, 10, 11, 12, 13, 14, 15, 16])) (V' := []) (so := .obl (g = g) (.ok .skip [Ee565f g c cl ep sl wd (.func (.func 65) #[vP g] #[]) w_ (ctlBlock w_) fl cm er, Ebee6b b_2 (ctlEpoch w_) (ctlGen w_) (ctlBlock w_) (ctlLive w_) (ctlBusy w_)])) (dst := none) (.e 0) (by kernel_rfl) ?_
  refine sat_obl rfl ?_
  refine sat_skip ?_
  refine lz_end (T1 := [(0, vP g), (4, vP b_2)]) (ps := []) [] [] [0, 4] (by kernel_rfl) trivial ?_
  refine go_exec (rs := []) (by kernel_rfl) 4000 [.z [0, 0, 1, 1] 0 [0, 4]] (o := .stop [.c [0, 0, 1, 1], .c [1, 0, 1, 1], .b 0] [(0, vP g), (4, vP b_2)] [Ee565f g c cl ep sl wd (.func (.func 65) #[vP g] #[]) w_ (ctlBlock w_) fl cm er, Ebee6b b_2 (ctlEpoch w_) (ctlGen w_) (ctlBlock w_) (ctlLive w_) (ctlBusy w_)]) (by kernel_rfl) ?_
  refine ok_stop ?_
  refine go_quiet (tm' := [(0, vP g), (4, vP b_2), (21, .bool false)]) (ps := [b_2 = b_2, (!(ctlLive w_)) = false, b_2 = b_2, g = g, ((ctlEpoch w_) != ep) = false]) (cs := []) [(0, .h .w), (1, .h (.e 1)), (2, .h (.t false)), (3, .h .w), (4, .h .w), (5, .h (.e 1)), (6, .h .w), (7, .h .w), (8, .h .w), (9, .h (.e 0)), (10, .h (.t false)), (11, .h .w), (12, .h .w)] [0, 4, 21] (by kernel_rfl) (by kernel_rfl) ⟨rfl, (by simp [hl]), rfl, rfl, (bne_eq_false_iff_eq.2 he), trivial⟩ trivial ?_
  refine go_exec (rs := []) (by kernel_rfl) 4000 [.e 1, .sp [36, 39] [.dead] []] (o := .obl (b_2 = b_2) (.obl (((ctlBlock w_) == 0) = ((ctlBlock w_) == 0)) (.br ((ctlBlock w_) == 0) (.bad) (.ret (undef) [Ee565f g c cl ep sl wd (.func (.func 65) #[vP g] #[]) w_ (ctlBlock w_) fl cm er, Ebee6b b_2 (ctlEpoch w_) (ctlGen w_) (ctlBlock w_) (ctlLive w_) (ctlBusy w_)])))) (by kernel_rfl) ?_
  refine ok_obl rfl ?_
  refine ok_obl rfl ?_
  refine ok_br (fun h => absurd (show ((ctlBlock w_) == 0) = false from (beq_eq_false_iff_ne.2 hb)) (by rw [h]; simp)) (fun _ => ?_)
  exact ret_ok (post := [Ee565f g c cl ep sl wd (.func (.func 65) #[vP g] #[]) w_ (ctlBlock w_) fl cm er]) [0] (by kernel_rfl) ⟨rfl, (by kernel_rfl)⟩

noncomputable def B55 : Code := (Tryd.f55.body).getD .skip

theorem gLoad (c : Cfg) (g ba : Nat) (cl ep sl wd sn bk fl cm : Int) (nx er : Value) (A : Ar) (hn : A.ws.length = A.n) (hs : 0 ≤ A.steps ∧ A.steps ≤ 1000000000) (hwd : 0 ≤ wd ∧ wd < A.n) :
    Ctr Tryd.prog 55 #[vP g, vP ba] [Ee565f g c cl ep sl wd nx sn bk fl cm er, Ed5fc1 ba A, E5552f A] (Ret (vU (A.ws.getD wd.toNat 0)) [Ee565f g c cl ep sl wd nx sn bk fl ((A.load wd).steps) er, Ed5fc1 ba (A.load wd), E5552f (A.load wd)]) := by
  refine ctr_of (args := [vP g, vP ba]) (fn := Tryd.f55) (body := B55) (nt := 18) Tryd.func55 (by kernel_rfl) (by kernel_rfl) ?_
  intro F
  refine go_exec (rs := [.tmp 4]) (by kernel_rfl) 4000 [.e 0, .z [0, 1] 5 [0, 1, 6, 10]] (o := .obl (g = g) (.stop [.o [0, 1] 5, .c [1, 1]] [(0, vP g), (1, vP ba), (6, vP ba), (10, vI wd)] [Ee565f g c cl ep sl wd nx sn bk fl cm er, Ed5fc1 ba A, E5552f A])) (by kernel_rfl) ?_
  refine ok_obl rfl ?_
  refine ok_stop ?_
  refine go_call (some 11) [1, 2] Tryd.call67 (arena_Load ba A wd (by first | assumption | omega | (simp only [InK] at *; omega)) hwd (by first | assumption | omega | (simp only [InK] at *; omega))) (by kernel_rfl) ?_
  rintro v post ⟨rfl, rfl⟩
  refine go_exec (rs := [.tmp 4]) (by kernel_rfl) 4000 [.z [0, 1, 1] 2 [5, 12, 13]] (o := .stop [.o [0, 1, 1] 2, .c [1, 1, 1]] [(5, vU (A.ws.getD wd.toNat 0)), (12, vP g), (13, vP ba)] [Ee565f g c cl ep sl wd nx sn bk fl cm er, Ed5fc1 ba (A.load wd), E5552f (A.load wd)]) (by kernel_rfl) ?_
  refine ok_stop ?_
  refine go_call (some 14) [1, 2] Tryd.call23 (arena_Steps ba (A.load wd)) (by kernel_rfl) ?_
  rintro v post ⟨rfl, rfl⟩
  refine go_exec (rs := [.tmp 4]) (by kernel_rfl) 4000 [.e 0] (o := .obl (g = g) (.ret (vU (A.ws.getD wd.toNat 0)) [Ee565f g c cl ep sl wd nx sn bk fl ((A.load wd).steps) er, Ed5fc1 ba (A.load wd), E5552f (A.load wd)])) (by kernel_rfl) ?_
  refine ok_obl rfl ?_
  exact ret_ok (post := [Ee565f g c cl ep sl wd nx sn bk fl ((A.load wd).steps) er, Ed5fc1 ba (A.load wd), E5552f (A.load wd)]) [0, 1, 2] (by kernel_rfl) ⟨rfl, (by kernel_rfl)⟩

noncomputable def B40 : Code := (Tryd.f40.body).getD .skip

theorem gFirstD (c : Cfg) (g ba : Nat) (cl ep sl wd sn bk fl cm : Int) (nx er : Value) (A : Ar) (hn : A.ws.length = A.n) (hs : 0 ≤ A.steps ∧ A.steps ≤ 1000000000) (hwd : 0 ≤ wd ∧ wd < A.n) (hw : U64 (A.ws.getD wd.toNat 0)) (hl : ctlLive (A.ws.getD wd.toNat 0) = false) :
    Ctr Tryd.prog 40 #[vP g, vP ba] [Ee565f g c cl ep sl wd nx sn bk fl cm er, Ed5fc1 ba A, E5552f A] (Ret (undef) [Ee565f g c cl ep sl wd (.nilFunc) (A.ws.getD wd.toNat 0) 0 fl ((A.load wd).steps) (.iface 49 (vI 22)), Ed5fc1 ba (A.load wd), E5552f (A.load wd)]) := by
  refine ctr_of (args := [vP g, vP ba]) (fn := Tryd.f40) (body := B40) (nt := 9) Tryd.func40 (by kernel_rfl) (by kernel_rfl) ?_
  intro F
  refine go_exec (rs := []) (by kernel_rfl) 4000 [.z [] 3 [4, 5, 6]] (o := .stop [.o [] 3] [(4, vP g), (5, vP g), (6, vP ba)] [Ee565f g c cl ep sl wd nx sn bk fl cm er, Ed5fc1 ba A, E5552f A]) (by kernel_rfl) ?_
  refine ok_stop ?_
  refine go_call (some 7) [0, 1, 2] Tryd.call55 (gLoad c g ba cl ep sl wd sn bk fl cm nx er A (by first | assumption | omega | (simp only [InK] at *; omega)) (by first | assumption | omega | (simp only [InK] at *; omega)) (by first | assumption | omega | (simp only [InK] at *; omega))) (by kernel_rfl) ?_
  rintro v post ⟨rfl, rfl⟩
  refine go_call (some 8) [0] Tryd.call54 (gLookD c g cl ep sl wd sn bk fl ((A.load wd).steps) nx er (A.ws.getD wd.toNat 0) (by first | assumption | omega | (simp only [InK] at *; omega)) (by first | assumption | omega | (simp only [InK] at *; omega))) (by kernel_rfl) ?_
  rintro v post ⟨rfl, rfl⟩
  refine go_exec (rs := []) (by kernel_rfl) 4000 [] (o := .ret (undef) [Ed5fc1 ba (A.load wd), E5552f (A.load wd), Ee565f g c cl ep sl wd (.nilFunc) (A.ws.getD wd.toNat 0) 0 fl ((A.load wd).steps) (.iface 49 (vI 22))]) (by kernel_rfl) ?_
  exact ret_ok (post := [Ee565f g c cl ep sl wd (.nilFunc) (A.ws.getD wd.toNat 0) 0 fl ((A.load wd).steps) (.iface 49 (vI 22)), Ed5fc1 ba (A.load wd), E5552f (A.load wd)]) [2, 0, 1] (by kernel_rfl) ⟨rfl, (by kernel_rfl)⟩


theorem gFirstP (c : Cfg) (g ba : Nat) (cl ep sl wd sn bk fl cm : Int) (nx er : Value) (A : Ar) (hn : A.ws.length = A.n) (hs : 0 ≤ A.steps ∧ A.steps ≤ 1000000000) (hwd : 0 ≤ wd ∧ wd < A.n) (hw : U64 (A.ws.getD wd.toNat 0)) (hl : ctlLive (A.ws.getD wd.toNat 0) = true) (he : ctlEpoch (A.ws.getD wd.toNat 0) ≠ ep) :
    Ctr Tryd.prog 40 #[vP g, vP ba] [Ee565f g c cl ep sl wd nx sn bk fl cm er, Ed5fc1 ba A, E5552f A] (Ret (undef) [Ee565f g c cl ep sl wd (.nilFunc) (A.ws.getD wd.toNat 0) 0 fl ((A.load wd).steps) (.iface 49 (vI 22)), Ed5fc1 ba (A.load wd), E5552f (A.load wd)]) := by
  refine ctr_of (args := [vP g, vP ba]) (fn := Tryd.f40) (body := B40) (nt := 9) Tryd.func40 (by kernel_rfl) (by kernel_rfl) ?_
  intro F
  refine go_exec (rs := []) (by kernel_rfl) 4000 [.z [] 3 [4, 5, 6]] (o := .stop [.o [] 3] [(4, vP g), (5, vP g), (6, vP ba)] [Ee565f g c cl ep sl wd nx sn bk fl cm er, Ed5fc1 ba A, E5552f A]) (by kernel_rfl) ?_
  refine ok_stop ?_
  refine go_call (some 7) [0, 1, 2] Tryd.call55 (gLoad c g ba cl ep sl wd sn bk fl cm nx er A (by first | assumption | omega | (simp only [InK] at *; omega)) (by first | assumption | omega | (simp only [InK] at *; omega)) (by first | assumption | omega | (simp only [InK] at *; omega))) (by kernel_rfl) ?_
  rintro v post ⟨rfl, rfl⟩
  refine go_call (some 8) [0] Tryd.call54 (gLookP c g cl ep sl wd sn bk fl ((A.load wd).steps) nx er (A.ws.getD wd.toNat 0) (by first | assumption | omega | (simp only [InK] at *; omega)) (by first | assumption | omega | (simp only [InK] at *; omega)) (by first | assumption | omega | (simp only [InK] at *; omega))) (by kernel_rfl) ?_
  rintro v post ⟨rfl, rfl⟩
  refine go_exec (rs := []) (by kernel_rfl) 4000 [] (o := .ret (undef) [Ed5fc1 ba (A.load wd), E5552f (A.load wd), Ee565f g c cl ep sl wd (.nilFunc) (A.ws.getD wd.toNat 0) 0 fl ((A.load wd).steps) (.iface 49 (vI 22))]) (by kernel_rfl) ?_
  exact ret_ok (post := [Ee565f g c cl ep sl wd (.nilFunc) (A.ws.getD wd.toNat 0) 0 fl ((A.load wd).steps) (.iface 49 (vI 22)), Ed5fc1 ba (A.load wd), E5552f (A.load wd)]) [2, 0, 1] (by kernel_rfl) ⟨rfl, (by kernel_rfl)⟩


theorem gFirstE (c : Cfg) (g ba : Nat) (cl ep sl wd sn bk fl cm : Int) (nx er : Value) (A : Ar) (hn : A.ws.length = A.n) (hs : 0 ≤ A.steps ∧ A.steps ≤ 1000000000) (hwd : 0 ≤ wd ∧ wd < A.n) (hw : U64 (A.ws.getD wd.toNat 0)) (hl : ctlLive (A.ws.getD wd.toNat 0) = true) (he : ctlEpoch (A.ws.getD wd.toNat 0) = ep) (hb : ctlBlock (A.ws.getD wd.toNat 0) = 0) :
    Ctr Tryd.prog 40 #[vP g, vP ba] [Ee565f g c cl ep sl wd nx sn bk fl cm er, Ed5fc1 ba A, E5552f A] (Ret (undef) [Ee565f g c cl ep sl wd (.nilFunc) (A.ws.getD wd.toNat 0) 0 fl ((A.load wd).steps) (.iface 49 (vI 20)), Ed5fc1 ba (A.load wd), E5552f (A.load wd)]) := by
  refine ctr_of (args := [vP g, vP ba]) (fn := Tryd.f40) (body := B40) (nt := 9) Tryd.func40 (by kernel_rfl) (by kernel_rfl) ?_
  intro F
  refine go_exec (rs := []) (by kernel_rfl) 4000 [.z [] 3 [4, 5, 6]] (o := .stop [.o [] 3] [(4, vP g), (5, vP g), (6, vP ba)] [Ee565f g c cl ep sl wd nx sn bk fl cm er, Ed5fc1 ba A, E5552f A]) (by kernel_rfl) ?_
  refine ok_stop ?_
  refine go_call (some 7) [0, 1, 2] Tryd.call55 (gLoad c g ba cl ep sl wd sn bk fl cm nx er A (by first | assumption | omega | (simp only [InK] at *; omega)) (by first | assumption | omega | (simp only [InK] at *; omega)) (by first | assumption | omega | (simp only [InK] at *; omega))) (by kernel_rfl) ?_
  rintro v post ⟨rfl, rfl⟩
  refine go_call (some 8) [0] Tryd.call54 (gLookE c g cl ep sl wd sn bk fl ((A.load wd).steps) nx er (A.ws.getD wd.toNat 0) (by first | assumption | omega | (simp only [InK] at *; omega)) (by first | assumption | omega | (simp only [InK] at *; omega)) (by first | assumption | omega | (simp only [InK] at *; omega)) (by first | assumption | omega | (simp only [InK] at *; omega))) (by kernel_rfl) ?_
  rintro v post ⟨rfl, rfl⟩
  refine go_exec (rs := []) (by kernel_rfl) 4000 [] (o := .ret (undef) [Ed5fc1 ba (A.load wd), E5552f (A.load wd), Ee565f g c cl ep sl wd (.nilFunc) (A.ws.getD wd.toNat 0) 0 fl ((A.load wd).steps) (.iface 49 (vI 20))]) (by kernel_rfl) ?_
  exact ret_ok (post := [Ee565f g c cl ep sl wd (.nilFunc) (A.ws.getD wd.toNat 0) 0 fl ((A.load wd).steps) (.iface 49 (vI 20)), Ed5fc1 ba (A.load wd), E5552f (A.load wd)]) [2, 0, 1] (by kernel_rfl) ⟨rfl, (by kernel_rfl)⟩


theorem gFirstN (c : Cfg) (g ba : Nat) (cl ep sl wd sn bk fl cm : Int) (nx er : Value) (A : Ar) (hn : A.ws.length = A.n) (hs : 0 ≤ A.steps ∧ A.steps ≤ 1000000000) (hwd : 0 ≤ wd ∧ wd < A.n) (hw : U64 (A.ws.getD wd.toNat 0)) (hl : ctlLive (A.ws.getD wd.toNat 0) = true) (he : ctlEpoch (A.ws.getD wd.toNat 0) = ep) (hb : ctlBlock (A.ws.getD wd.toNat 0) ≠ 0) :
    Ctr Tryd.prog 40 #[vP g, vP ba] [Ee565f g c cl ep sl wd nx sn bk fl cm er, Ed5fc1 ba A, E5552f A] (Ret (undef) [Ee565f g c cl ep sl wd (.func (.func 65) #[vP g] #[]) (A.ws.getD wd.toNat 0) (ctlBlock (A.ws.getD wd.toNat 0)) fl ((A.load wd).steps) er, Ed5fc1 ba (A.load wd), E5552f (A.load wd)]) := by
  refine ctr_of (args := [vP g, vP ba]) (fn := Tryd.f40) (body := B40) (nt := 9) Tryd.func40 (by kernel_rfl) (by kernel_rfl) ?_
  intro F
  refine go_exec (rs := []) (by kernel_rfl) 4000 [.z [] 3 [4, 5, 6]] (o := .stop [.o [] 3] [(4, vP g), (5, vP g), (6, vP ba)] [Ee565f g c cl ep sl wd nx sn bk fl cm er, Ed5fc1 ba A, E5552f A]) (by kernel_rfl) ?_
  refine ok_stop ?_
  refine go_call (some 7) [0, 1, 2] Tryd.call55 (gLoad c g ba cl ep sl wd sn bk fl cm nx er A (by first | assumption | omega | (simp only [InK] at *; omega)) (by first | assumption | omega | (simp only [InK] at *; omega)) (by first | assumption | omega | (simp only [InK] at *; omega))) (by kernel_rfl) ?_
  rintro v post ⟨rfl, rfl⟩
  refine go_call (some 8) [0] Tryd.call54 (gLookN c g cl ep sl wd sn bk fl ((A.load wd).steps) nx er (A.ws.getD wd.toNat 0) (by first | assumption | omega | (simp only [InK] at *; omega)) (by first | assumption | omega | (simp only [InK] at *; omega)) (by first | assumption | omega | (simp only [InK] at *; omega)) (by first | assumption | omega | (simp only [InK] at *; omega))) (by kernel_rfl) ?_
  rintro v post ⟨rfl, rfl⟩
  refine go_exec (rs := []) (by kernel_rfl) 4000 [] (o := .ret (undef) [Ed5fc1 ba (A.load wd), E5552f (A.load wd), Ee565f g c cl ep sl wd (.func (.func 65) #[vP g] #[]) (A.ws.getD wd.toNat 0) (ctlBlock (A.ws.getD wd.toNat 0)) fl ((A.load wd).steps) er]) (by kernel_rfl) ?_
  exact ret_ok (post := [Ee565f g c cl ep sl wd (.func (.func 65) #[vP g] #[]) (A.ws.getD wd.toNat 0) (ctlBlock (A.ws.getD wd.toNat 0)) fl ((A.load wd).steps) er, Ed5fc1 ba (A.load wd), E5552f (A.load wd)]) [2, 0, 1] (by kernel_rfl) ⟨rfl, (by kernel_rfl)⟩

noncomputable def B65 : Code := (Tryd.f65.body).getD .skip

theorem gSecond (c : Cfg) (g ba : Nat) (cl ep sl wd sn bk fl cm : Int) (nx er : Value) (A : Ar) (hn : A.ws.length = A.n) (hs : 0 ≤ A.steps ∧ A.steps ≤ 1000000000) (hsl : 0 ≤ sl ∧ sl < A.n) (hcl : 0 ≤ cl ∧ cl ≤ 1000) (hbk : 0 ≤ bk ∧ bk ≤ 65535) :
    Ctr Tryd.prog 65 #[vP g, vP ba] [Ee565f g c cl ep sl wd nx sn bk fl cm er, Ed5fc1 ba A, E5552f A] (Ret (undef) [Ee565f g c cl ep sl wd (.func (.func 74) #[vP g] #[]) sn bk fl cm er, Ed5fc1 ba (A.store sl (markW cl bk)), E5552f (A.store sl (markW cl bk))]) := by
  refine ctr_of (args := [vP g, vP ba]) (fn := Tryd.f65) (body := B65) (nt := 24) Tryd.func65 (by kernel_rfl) (by kernel_rfl) ?_
  intro F
  refine go_exec (rs := []) (by kernel_rfl) 4000 [.z [0] 0 [0, 1]] (o := .stop [.c [0], .c [1]] [(0, vP g), (1, vP ba)] [Ee565f g c cl ep sl wd nx sn bk fl cm er, Ed5fc1 ba A, E5552f A]) (by kernel_rfl) ?_
  refine ok_stop ?_
  refine go_tail_call (dst := (some 18)) (ps := [g = g, g = g, g = g]) (cs := [(73, #[vI cl, vI bk], vU (markW cl bk))]) [(0, .h .w), (1, .h .w), (2, .h .w), (3, .h .w), (4, .h (.e 0)), (5, .h .w), (6, .h .w), (7, .h .w), (8, .h (.e 0)), (9, .h .w), (10, .h .w), (11, .h .w), (12, .h (.e 0)), (13, .q (vU (markW cl bk)))] 14 [] [1, 2] [0] (by kernel_rfl) Tryd.call10 (arena_Store ba A sl (markW cl bk) (by first | assumption | omega | (simp only [InK] at *; omega)) hsl (by first | assumption | omega | (simp only [InK] at *; omega))) (by kernel_rfl) ⟨rfl, rfl, rfl, trivial⟩ ⟨⟨Tryd.call73, quiet_of [] (slots_Mark cl bk (by omega) (by omega)) (by kernel_rfl) (by rintro v post ⟨rfl, rfl⟩; exact ⟨rfl, rfl⟩)⟩, trivial⟩ ?_
  rintro v post ⟨rfl, rfl⟩
  refine tail_next (tm' := [(0, vP g)]) (ps2 := []) (by kernel_rfl) trivial ?_
  refine go_exec (rs := []) (by kernel_rfl) 4000 [.e 0] (o := .obl (g = g) (.ret (undef) [Ee565f g c cl ep sl wd (.func (.func 74) #[vP g] #[]) sn bk fl cm er, Ed5fc1 ba (A.store sl (markW cl bk)), E5552f (A.store sl (markW cl bk))])) (by kernel_rfl) ?_
  refine ok_obl rfl ?_
  exact ret_ok (post := [Ee565f g c cl ep sl wd (.func (.func 74) #[vP g] #[]) sn bk fl cm er, Ed5fc1 ba (A.store sl (markW cl bk)), E5552f (A.store sl (markW cl bk))]) [0, 1, 2] (by kernel_rfl) ⟨rfl, (by kernel_rfl)⟩

noncomputable def B74 : Code := (Tryd.f74.body).getD .skip

theorem gThirdK (c : Cfg) (g ba : Nat) (cl ep sl wd sn bk fl cm : Int) (nx er : Value) (A : Ar) (hn : A.ws.length = A.n) (hs : 0 ≤ A.steps ∧ A.steps ≤ 1000000000) (hwd : 0 ≤ wd ∧ wd < A.n) (hw : U64 (A.ws.getD wd.toNat 0)) (hf0 : 0 ≤ fl ∧ fl ≤ 1000) (hq : (A.ws.getD wd.toNat 0) = sn) :
    Ctr Tryd.prog 74 #[vP g, vP ba] [Ee565f g c cl ep sl wd nx sn bk fl cm er, Ed5fc1 ba A, E5552f A] (Ret (undef) [E52fd0 g c cl ep sl wd (.nilFunc) sn bk fl ((A.load wd).steps), Ed5fc1 ba (A.load wd), E5552f (A.load wd)]) := by
  refine ctr_of (args := [vP g, vP ba]) (fn := Tryd.f74) (body := B74) (nt := 38) Tryd.func74 (by kernel_rfl) (by kernel_rfl) ?_
  intro F
  refine go_exec (rs := []) (by kernel_rfl) 4000 [.z [0] 2 [0, 5, 6]] (o := .stop [.o [0] 2, .c [1]] [(0, vP g), (5, vP g), (6, vP ba)] [Ee565f g c cl ep sl wd nx sn bk fl cm er, Ed5fc1 ba A, E5552f A]) (by kernel_rfl) ?_
  refine ok_stop ?_
  refine go_call (some 7) [0, 1, 2] Tryd.call55 (gLoad c g ba cl ep sl wd sn bk fl cm nx er A (by first | assumption | omega | (simp only [InK] at *; omega)) (by first | assumption | omega | (simp only [InK] at *; omega)) (by first | assumption | omega | (simp only [InK] at *; omega))) (by kernel_rfl) ?_
  rintro v post ⟨rfl, rfl⟩
  refine go_exec (rs := []) (by kernel_rfl) 4000 [.e 0, .sp [13] [.z [0, 0, 1, 0, 1] 1 [14]] [.dead]] (o := .obl (g = g) (.br ((A.ws.getD wd.toNat 0) == sn) (.stop [.o [0, 0, 1, 0, 1] 1, .c [1, 0, 1, 0, 1], .c [1, 1]] [(14, vP g)] [Ee565f g c cl ep sl wd nx sn bk fl ((A.load wd).steps) er, Ed5fc1 ba (A.load wd), E5552f (A.load wd)]) (.bad))) (by kernel_rfl) ?_
  refine ok_obl rfl ?_
  refine ok_br (fun _ => ?_) (fun h => absurd (show ((A.ws.getD wd.toNat 0) == sn) = true from (beq_iff_eq.2 hq)) (by rw [h]; simp))
  refine ok_stop ?_
  refine go_call (some 15) [0] Tryd.call66 (gEnd0 c g cl ep sl wd sn bk fl ((A.load wd).steps) nx er) (by kernel_rfl) ?_
  rintro v post ⟨rfl, rfl⟩
  refine go_exec (rs := []) (by kernel_rfl) 4000 [] (o := .ret (undef) [Ed5fc1 ba (A.load wd), E5552f (A.load wd), E52fd0 g c cl ep sl wd (.nilFunc) sn bk fl ((A.load wd).steps)]) (by kernel_rfl) ?_
  exact ret_ok (post := [E52fd0 g c cl ep sl wd (.nilFunc) sn bk fl ((A.load wd).steps), Ed5fc1 ba (A.load wd), E5552f (A.load wd)]) [2, 0, 1] (by kernel_rfl) ⟨rfl, (by kernel_rfl)⟩


theorem gThirdR (c : Cfg) (g ba : Nat) (cl ep sl wd sn bk fl cm : Int) (nx er : Value) (A : Ar) (hn : A.ws.length = A.n) (hs : 0 ≤ A.steps ∧ A.steps ≤ 1000000000) (hwd : 0 ≤ wd ∧ wd < A.n) (hw : U64 (A.ws.getD wd.toNat 0)) (hf0 : 0 ≤ fl ∧ fl ≤ 1000) (hq : (A.ws.getD wd.toNat 0) ≠ sn) (hr : fl + 1 = c.retry) :
    Ctr Tryd.prog 74 #[vP g, vP ba] [Ee565f g c cl ep sl wd nx sn bk fl cm er, Ed5fc1 ba A, E5552f A] (Ret (undef) [Ee565f g c cl ep sl wd (.nilFunc) sn 0 (fl + 1) ((A.load wd).steps) (.iface 49 (vI 17)), Ed5fc1 ba (A.load wd), E5552f (A.load wd)]) := by
  refine ctr_of (args := [vP g, vP ba]) (fn := Tryd.f74) (body := B74) (nt := 38) Tryd.func74 (by kernel_rfl) (by kernel_rfl) ?_
  intro F
  refine go_exec (rs := []) (by kernel_rfl) 4000 [.z [0] 2 [0, 5, 6]] (o := .stop [.o [0] 2, .c [1]] [(0, vP g), (5, vP g), (6, vP ba)] [Ee565f g c cl ep sl wd nx sn bk fl cm er, Ed5fc1 ba A, E5552f A]) (by kernel_rfl) ?_
  refine ok_stop ?_
  refine go_call (some 7) [0, 1, 2] Tryd.call55 (gLoad c g ba cl ep sl wd sn bk fl cm nx er A (by first | assumption | omega | (simp only [InK] at *; omega)) (by first | assumption | omega | (simp only [InK] at *; omega)) (by first | assumption | omega | (simp only [InK] at *; omega))) (by kernel_rfl) ?_
  rintro v post ⟨rfl, rfl⟩
  refine go_exec (rs := []) (by kernel_rfl) 4000 [.e 0, .sp [13] [.dead] [.e 0, .n, .e 0, .z [0, 0, 1, 1, 1] 0 [0, 4]]] (o := .obl (g = g) (.br ((A.ws.getD wd.toNat 0) == sn) (.bad) (.obl (g = g) (.obl (InK .i64 (fl + 1)) (.obl (g = g) (.stop [.c [0, 0, 1, 1, 1], .c [1, 0, 1, 1, 1], .c [1, 1, 1, 1]] [(0, vP g), (4, vU (A.ws.getD wd.toNat 0))] [Ee565f g c cl ep sl wd nx sn bk (fl + 1) ((A.load wd).steps) er, Ed5fc1 ba (A.load wd), E5552f (A.load wd)])))))) (by kernel_rfl) ?_
  refine ok_obl rfl ?_
  refine ok_br (fun h => absurd (show ((A.ws.getD wd.toNat 0) == sn) = false from (beq_eq_false_iff_ne.2 hq)) (by rw [h]; simp)) (fun _ => ?_)
  refine ok_obl rfl ?_
  refine ok_obl (by simp only [InK]; omega) ?_
  refine ok_obl rfl ?_
  refine ok_stop ?_
  refine go_quiet (tm' := [(0, vP g), (4, vU (A.ws.getD wd.toNat 0)), (32, .bool true)]) (ps := [g = g, g = g, ((fl + 1) == c.retry) = true]) (cs := []) [(0, .h .w), (1, .h .w), (2, .h .w), (3, .h (.e 0)), (4, .h .w), (5, .h .w), (6, .h .w), (7, .h .w), (8, .h (.e 0)), (9, .h (.t true))] [0, 4, 32] (by kernel_rfl) (by kernel_rfl) ⟨rfl, rfl, (beq_iff_eq.2 hr), trivial⟩ trivial ?_
  refine go_exec (rs := []) (by kernel_rfl) 4000 [.z [0, 0, 1, 0, 1, 1, 1] 1 [33]] (o := .stop [.o [0, 0, 1, 0, 1, 1, 1] 1, .c [1, 0, 1, 0, 1, 1, 1], .c [1, 1, 1, 1]] [(33, vP g)] [Ee565f g c cl ep sl wd nx sn bk (fl + 1) ((A.load wd).steps) er, Ed5fc1 ba (A.load wd), E5552f (A.load wd)]) (by kernel_rfl) ?_
  refine ok_stop ?_
  refine go_call (some 34) [0] Tryd.call66 (gEndE c g cl ep sl wd sn bk (fl + 1) ((A.load wd).steps) nx er 17 (by decide)) (by kernel_rfl) ?_
  rintro v post ⟨rfl, rfl⟩
  refine go_exec (rs := []) (by kernel_rfl) 4000 [] (o := .ret (undef) [Ed5fc1 ba (A.load wd), E5552f (A.load wd), Ee565f g c cl ep sl wd (.nilFunc) sn 0 (fl + 1) ((A.load wd).steps) (.iface 49 (vI 17))]) (by kernel_rfl) ?_
  exact ret_ok (post := [Ee565f g c cl ep sl wd (.nilFunc) sn 0 (fl + 1) ((A.load wd).steps) (.iface 49 (vI 17)), Ed5fc1 ba (A.load wd), E5552f (A.load wd)]) [2, 0, 1] (by kernel_rfl) ⟨rfl, (by kernel_rfl)⟩


theorem gThirdD (c : Cfg) (g ba : Nat) (cl ep sl wd sn bk fl cm : Int) (nx er : Value) (A : Ar) (hn : A.ws.length = A.n) (hs : 0 ≤ A.steps ∧ A.steps ≤ 1000000000) (hwd : 0 ≤ wd ∧ wd < A.n) (hw : U64 (A.ws.getD wd.toNat 0)) (hf0 : 0 ≤ fl ∧ fl ≤ 1000) (hq : (A.ws.getD wd.toNat 0) ≠ sn) (hr : fl + 1 ≠ c.retry) (hl : ctlLive (A.ws.getD wd.toNat 0) = false) :
    Ctr Tryd.prog 74 #[vP g, vP ba] [Ee565f g c cl ep sl wd nx sn bk fl cm er, Ed5fc1 ba A, E5552f A] (Ret (undef) [Ee565f g c cl ep sl wd (.nilFunc) (A.ws.getD wd.toNat 0) 0 (fl + 1) ((A.load wd).steps) (.iface 49 (vI 22)), Ed5fc1 ba (A.load wd), E5552f (A.load wd)]) := by
  refine ctr_of (args := [vP g, vP ba]) (fn := Tryd.f74) (body := B74) (nt := 38) Tryd.func74 (by kernel_rfl) (by kernel_rfl) ?_
  intro F
  refine go_exec (rs := []) (by kernel_rfl) 4000 [.z [0] 2 [0, 5, 6]] (o := .stop [.o [0] 2, .c [1]] [(0, vP g), (5, vP g), (6, vP ba)] [Ee565f g c cl ep sl wd nx sn bk fl cm er, Ed5fc1 ba A, E5552f A]) (by kernel_rfl) ?_
  refine ok_stop ?_
  refine go_call (some 7) [0, 1, 2] Tryd.call55 (gLoad c g ba cl ep sl wd sn bk fl cm nx er A (by first | assumption | omega | (simp only [InK] at *; omega)) (by first | assumption | omega | (simp only [InK] at *; omega)) (by first | assumption | omega | (simp only [InK] at *; omega))) (by kernel_rfl) ?_
  rintro v post ⟨rfl, rfl⟩
  refine go_exec (rs := []) (by kernel_rfl) 4000 [.e 0, .sp [13] [.dead] [.e 0, .n, .e 0, .z [0, 0, 1, 1, 1] 0 [0, 4]]] (o := .obl (g = g) (.br ((A.ws.getD wd.toNat 0) == sn) (.bad) (.obl (g = g) (.obl (InK .i64 (fl + 1)) (.obl (g = g) (.stop [.c [0, 0, 1, 1, 1], .c [1, 0, 1, 1, 1], .c [1, 1, 1, 1]] [(0, vP g), (4, vU (A.ws.getD wd.toNat 0))] [Ee565f g c cl ep sl wd nx sn bk (fl + 1) ((A.load wd).steps) er, Ed5fc1 ba (A.load wd), E5552f (A.load wd)])))))) (by kernel_rfl) ?_
  refine ok_obl rfl ?_
  refine ok_br (fun h => absurd (show ((A.ws.getD wd.toNat 0) == sn) = false from (beq_eq_false_iff_ne.2 hq)) (by rw [h]; simp)) (fun _ => ?_)
  refine ok_obl rfl ?_
  refine ok_obl (by simp only [InK]; omega) ?_
  refine ok_obl rfl ?_
  refine ok_stop ?_
  refine go_quiet (tm' := [(0, vP g), (4, vU (A.ws.getD wd.toNat 0)), (32, .bool false)]) (ps := [g = g, g = g, ((fl + 1) == c.retry) = false]) (cs := []) [(0, .h .w), (1, .h .w), (2, .h .w), (3, .h (.e 0)), (4, .h .w), (5, .h .w), (6, .h .w), (7, .h .w), (8, .h (.e 0)), (9, .h (.t false))] [0, 4, 32] (by kernel_rfl) (by kernel_rfl) ⟨rfl, rfl, (beq_eq_false_iff_ne.2 hr), trivial⟩ trivial ?_
  refine go_exec (rs := []) (by kernel_rfl) 4000 [.z [1, 1, 1, 1] 2 [35, 36]] (o := .stop [.o [1, 1, 1, 1] 2] [(35, vP g), (36, vU (A.ws.getD wd.toNat 0))] [Ee565f g c cl ep sl wd nx sn bk (fl + 1) ((A.load wd).steps) er, Ed5fc1 ba (A.load wd), E5552f (A.load wd)]) (by kernel_rfl) ?_
  refine ok_stop ?_
  refine go_call (some 37) [0] Tryd.call54 (gLookD c g cl ep sl wd sn bk (fl + 1) ((A.load wd).steps) nx er (A.ws.getD wd.toNat 0) (by first | assumption | omega | (simp only [InK] at *; omega)) (by first | assumption | omega | (simp only [InK] at *; omega))) (by kernel_rfl) ?_
  rintro v post ⟨rfl, rfl⟩
  refine go_exec (rs := []) (by kernel_rfl) 4000 [] (o := .ret (undef) [Ed5fc1 ba (A.load wd), E5552f (A.load wd), Ee565f g c cl ep sl wd (.nilFunc) (A.ws.getD wd.toNat 0) 0 (fl + 1) ((A.load wd).steps) (.iface 49 (vI 22))]) (by kernel_rfl) ?_
  exact ret_ok (post := [Ee565f g c cl ep sl wd (.nilFunc) (A.ws.getD wd.toNat 0) 0 (fl + 1) ((A.load wd).steps) (.iface 49 (vI 22)), Ed5fc1 ba (A.load wd), E5552f (A.load wd)]) [2, 0, 1] (by kernel_rfl) ⟨rfl, (by kernel_rfl)⟩


theorem gThirdP (c : Cfg) (g ba : Nat) (cl ep sl wd sn bk fl cm : Int) (nx er : Value) (A : Ar) (hn : A.ws.length = A.n) (hs : 0 ≤ A.steps ∧ A.steps ≤ 1000000000) (hwd : 0 ≤ wd ∧ wd < A.n) (hw : U64 (A.ws.getD wd.toNat 0)) (hf0 : 0 ≤ fl ∧ fl ≤ 1000) (hq : (A.ws.getD wd.toNat 0) ≠ sn) (hr : fl + 1 ≠ c.retry) (hl : ctlLive (A.ws.getD wd.toNat 0) = true) (he : ctlEpoch (A.ws.getD wd.toNat 0) ≠ ep) :
    Ctr Tryd.prog 74 #[vP g, vP ba] [Ee565f g c cl ep sl wd nx sn bk fl cm er, Ed5fc1 ba A, E5552f A] (Ret (undef) [Ee565f g c cl ep sl wd (.nilFunc) (A.ws.getD wd.toNat 0) 0 (fl + 1) ((A.load wd).steps) (.iface 49 (vI 22)), Ed5fc1 ba (A.load wd), E5552f (A.load wd)]) := by
  refine ctr_of (args := [vP g, vP ba]) (fn := Tryd.f74) (body := B74) (nt := 38) Tryd.func74 (by kernel_rfl) (by kernel_rfl) ?_
  intro F
  refine go_exec (rs := []) (by kernel_rfl) 4000 [.z [0] 2 [0, 5, 6]] (o := .stop [.o [0] 2, .c [1]] [(0, vP g), (5, vP g), (6, vP ba)] [Ee565f g c cl ep sl wd nx sn bk fl cm er, Ed5fc1 ba A, E5552f A]) (by kernel_rfl) ?_
  refine ok_stop ?_
  refine go_call (some 7) [0, 1, 2] Tryd.call55 (gLoad c g ba cl ep sl wd sn bk fl cm nx er A (by first | assumption | omega | (simp only [InK] at *; omega)) (by first | assumption | omega | (simp only [InK] at *; omega)) (by first | assumption | omega | (simp only [InK] at *; omega))) (by kernel_rfl) ?_
  rintro v post ⟨rfl, rfl⟩
  refine go_exec (rs := []) (by kernel_rfl) 4000 [.e 0, .sp [13] [.dead] [.e 0, .n, .e 0, .z [0, 0, 1, 1, 1] 0 [0, 4]]] (o := .obl (g = g) (.br ((A.ws.getD wd.toNat 0) == sn) (.bad) (.obl (g = g) (.obl (InK .i64 (fl + 1)) (.obl (g = g) (.stop [.c [0, 0, 1, 1, 1], .c [1, 0, 1, 1, 1], .c [1, 1, 1, 1]] [(0, vP g), (4, vU (A.ws.getD wd.toNat 0))] [Ee565f g c cl ep sl wd nx sn bk (fl + 1) ((A.load wd).steps) er, Ed5fc1 ba (A.load wd), E5552f (A.load wd)])))))) (by kernel_rfl) ?_
  refine ok_obl rfl ?_
  refine ok_br (fun h => absurd (show ((A.ws.getD wd.toNat 0) == sn) = false from (beq_eq_false_iff_ne.2 hq)) (by rw [h]; simp)) (fun _ => ?_)
  refine ok_obl rfl ?_
  refine ok_obl (by simp only [InK]; omega) ?_
  refine ok_obl rfl ?_
  refine ok_stop ?_
  refine go_quiet (tm' := [(0, vP g), (4, vU (A.ws.getD wd.toNat 0)), (32, .bool false)]) (ps := [g = g, g = g, ((fl + 1) == c.retry) = false]) (cs := []) [(0, .h .w), (1, .h .w), (2, .h .w), (3, .h (.e 0)), (4, .h .w), (5, .h .w), (6, .h .w), (7, .h .w), (8, .h (.e 0)), (9, .h (.t false))] [0, 4, 32] (by kernel_rfl) (by kernel_rfl) ⟨rfl, rfl, (beq_eq_false_iff_ne.2 hr), trivial⟩ trivial ?_
  refine go_exec (rs := []) (by kernel_rfl) 4000 [.z [1, 1, 1, 1] 2 [35, 36]] (o := .stop [.o [1, 1, 1, 1] 2] [(35, vP g), (36, vU (A.ws.getD wd.toNat 0))] [Ee565f g c cl ep sl wd nx sn bk (fl + 1) ((A.load wd).steps) er, Ed5fc1 ba (A.load wd), E5552f (A.load wd)]) (by kernel_rfl) ?_
  refine ok_stop ?_
  refine go_call (some 37) [0] Tryd.call54 (gLookP c g cl ep sl wd sn bk (fl + 1) ((A.load wd).steps) nx er (A.ws.getD wd.toNat 0) (by first | assumption | omega | (simp only [InK] at *; omega)) (by first | assumption | omega | (simp only [InK] at *; omega)) (by first | assumption | omega | (simp only [InK] at *; omega))) (by kernel_rfl) ?_
  rintro v post ⟨rfl, rfl⟩
  refine go_exec (rs := []) (by kernel_rfl) 4000 [] (o := .ret (undef) [Ed5fc1 ba (A.load wd), E5552f (A.load wd), Ee565f g c cl ep sl wd (.nilFunc) (A.ws.getD wd.toNat 0) 0 (fl + 1) ((A.load wd).steps) (.iface 49 (vI 22))]) (by kernel_rfl) ?_
  exact ret_ok (post := [Ee565f g c cl ep sl wd (.nilFunc) (A.ws.getD wd.toNat 0) 0 (fl + 1) ((A.load wd).steps) (.iface 49 (vI 22)), Ed5fc1 ba (A.load wd), E5552f (A.load wd)]) [2, 0, 1] (by kernel_rfl) ⟨rfl, (by kernel_rfl)⟩


theorem gThirdE (c : Cfg) (g ba : Nat) (cl ep sl wd sn bk fl cm : Int) (nx er : Value) (A : Ar) (hn : A.ws.length = A.n) (hs : 0 ≤ A.steps ∧ A.steps ≤ 1000000000) (hwd : 0 ≤ wd ∧ wd < A.n) (hw : U64 (A.ws.getD wd.toNat 0)) (hf0 : 0 ≤ fl ∧ fl ≤ 1000) (hq : (A.ws.getD wd.toNat 0) ≠ sn) (hr : fl + 1 ≠ c.retry) (hl : ctlLive (A.ws.getD wd.toNat 0) = true) (he : ctlEpoch (A.ws.getD wd.toNat 0) = ep) (hb : ctlBlock (A.ws.getD wd.toNat 0) = 0) :
    Ctr Tryd.prog 74 #[vP g, vP ba] [Ee565f g c cl ep sl wd nx sn bk fl cm er, Ed5fc1 ba A, E5552f A] (Ret (undef) [Ee565f g c cl ep sl wd (.nilFunc) (A.ws.getD wd.toNat 0) 0 (fl + 1) ((A.load wd).steps) (.iface 49 (vI 20)), Ed5fc1 ba (A.load wd), E5552f (A.load wd)]) := by
  refine ctr_of (args := [vP g, vP ba]) (fn := Tryd.f74) (body := B74) (nt := 38) Tryd.func74 (by kernel_rfl) (by kernel_rfl) ?_
  intro F
  refine go_exec (rs := []) (by kernel_rfl) 4000 [.z [0] 2 [0, 5, 6]] (o := .stop [.o [0] 2, .c [1]] [(0, vP g), (5, vP g), (6, vP ba)] [Ee565f g c cl ep sl wd nx sn bk fl cm er, Ed5fc1 ba A, E5552f A]) (by kernel_rfl) ?_
  refine ok_stop ?_
  refine go_call (some 7) [0, 1, 2] Tryd.call55 (gLoad c g ba cl ep sl wd sn bk fl cm nx er A (by first | assumption | omega | (simp only [InK] at *; omega)) (by first | assumption | omega | (simp only [InK] at *; omega)) (by first | assumption | omega | (simp only [InK] at *; omega))) (by kernel_rfl) ?_
  rintro v post ⟨rfl, rfl⟩
  refine go_exec (rs := []) (by kernel_rfl) 4000 [.e 0, .sp [13] [.dead] [.e 0, .n, .e 0, .z [0, 0, 1, 1, 1] 0 [0, 4]]] (o := .obl (g = g) (.br ((A.ws.getD wd.toNat 0) == sn) (.bad) (.obl (g = g) (.obl (InK .i64 (fl + 1)) (.obl (g = g) (.stop [.c [0, 0, 1, 1, 1], .c [1, 0, 1, 1, 1], .c [1, 1, 1, 1]] [(0, vP g), (4, vU (A.ws.getD wd.toNat 0))] [Ee565f g c cl ep sl wd nx sn bk (fl + 1) ((A.load wd).steps) er, Ed5fc1 ba (A.load wd), E5552f (A.load wd)])))))) (by kernel_rfl) ?_
  refine ok_obl rfl ?_
  refine ok_br (fun h => absurd (show ((A.ws.getD wd.toNat 0) == sn) = false from (beq_eq_false_iff_ne.2 hq)) (by rw [h]; simp)) (fun _ => ?_)
  refine ok_obl rfl ?_
  refine ok_obl (by simp only [InK]; omega) ?_
  refine ok_obl rfl ?_
  refine ok_stop ?_
  refine go_quiet (tm' := [(0, vP g), (4, vU (A.ws.getD wd.toNat 0)), (32, .bool false)]) (ps := [g = g, g = g, ((fl + 1) == c.retry) = false]) (cs := []) [(0, .h .w), (1, .h .w), (2, .h .w), (3, .h (.e 0)), (4, .h .w), (5, .h .w), (6, .h .w), (7, .h .w), (8, .h (.e 0)), (9, .h (.t false))] [0, 4, 32] (by kernel_rfl) (by kernel_rfl) ⟨rfl, rfl, (beq_eq_false_iff_ne.2 hr), trivial⟩ trivial ?_
  refine go_exec (rs := []) (by kernel_rfl) 4000 [.z [1, 1, 1, 1] 2 [35, 36]] (o := .stop [.o [1, 1, 1, 1] 2] [(35, vP g), (36, vU (A.ws.getD wd.toNat 0))] [Ee565f g c cl ep sl wd nx sn bk (fl + 1) ((A.load wd).steps) er, Ed5fc1 ba (A.load wd), E5552f (A.load wd)]) (by kernel_rfl) ?_
  refine ok_stop ?_
  refine go_call (some 37) [0] Tryd.call54 (gLookE c g cl ep sl wd sn bk (fl + 1) ((A.load wd).steps) nx er (A.ws.getD wd.toNat 0) (by first | assumption | omega | (simp only [InK] at *; omega)) (by first | assumption | omega | (simp only [InK] at *; omega)) (by first | assumption | omega | (simp only [InK] at *; omega)) (by first | assumption | omega | (simp only [InK] at *; omega))) (by kernel_rfl) ?_
  rintro v post ⟨rfl, rfl⟩
  refine go_exec (rs := []) (by kernel_rfl) 4000 [] (o := .ret (undef) [Ed5fc1 ba (A.load wd), E5552f (A.load wd), Ee565f g c cl ep sl wd (.nilFunc) (A.ws.getD wd.toNat 0) 0 (fl + 1) ((A.load wd).steps) (.iface 49 (vI 20))]) (by kernel_rfl) ?_
  exact ret_ok (post := [Ee565f g c cl ep sl wd (.nilFunc) (A.ws.getD wd.toNat 0) 0 (fl + 1) ((A.load wd).steps) (.iface 49 (vI 20)), Ed5fc1 ba (A.load wd), E5552f (A.load wd)]) [2, 0, 1] (by kernel_rfl) ⟨rfl, (by kernel_rfl)⟩


theorem gThirdN (c : Cfg) (g ba : Nat) (cl ep sl wd sn bk fl cm : Int) (nx er : Value) (A : Ar) (hn : A.ws.length = A.n) (hs : 0 ≤ A.steps ∧ A.steps ≤ 1000000000) (hwd : 0 ≤ wd ∧ wd < A.n) (hw : U64 (A.ws.getD wd.toNat 0)) (hf0 : 0 ≤ fl ∧ fl ≤ 1000) (hq : (A.ws.getD wd.toNat 0) ≠ sn) (hr : fl + 1 ≠ c.retry) (hl : ctlLive (A.ws.getD wd.toNat 0) = true) (he : ctlEpoch (A.ws.getD wd.toNat 0) = ep) (hb : ctlBlock (A.ws.getD wd.toNat 0) ≠ 0) :
    Ctr Tryd.prog 74 #[vP g, vP ba] [Ee565f g c cl ep sl wd nx sn bk fl cm er, Ed5fc1 ba A, E5552f A] (Ret (undef) [Ee565f g c cl ep sl wd (.func (.func 65) #[vP g] #[]) (A.ws.getD wd.toNat 0) (ctlBlock (A.ws.getD wd.toNat 0)) (fl + 1) ((A.load wd).steps) er, Ed5fc1 ba (A.load wd), E5552f (A.load wd)]) := by
  refine ctr_of (args := [vP g, vP ba]) (fn := Tryd.f74) (body := B74) (nt := 38) Tryd.func74 (by kernel_rfl) (by kernel_rfl) ?_
  intro F
  refine go_exec (rs := []) (by kernel_rfl) 4000 [.z [0] 2 [0, 5, 6]] (o := .stop [.o [0] 2, .c [1]] [(0, vP g), (5, vP g), (6, vP ba)] [Ee565f g c cl ep sl wd nx sn bk fl cm er, Ed5fc1 ba A, E5552f A]) (by kernel_rfl) ?_
  refine ok_stop ?_
  refine go_call (some 7) [0, 1, 2] Tryd.call55 (gLoad c g ba cl ep sl wd sn bk fl cm nx er A (by first | assumption | omega | (simp only [InK] at *; omega)) (by first | assumption | omega | (simp only [InK] at *; omega)) (by first | assumption | omega | (simp only [InK] at *; omega))) (by kernel_rfl) ?_
  rintro v post ⟨rfl, rfl⟩
  refine go_exec (rs := []) (by kernel_rfl) 4000 [.e 0, .sp [13] [.dead] [.e 0, .n, .e 0, .z [0, 0, 1, 1, 1] 0 [0, 4]]] (o := .obl (g = g) (.br ((A.ws.getD wd.toNat 0) == sn) (.bad) (.obl (g = g) (.obl (InK .i64 (fl + 1)) (.obl (g = g) (.stop [.c [0, 0, 1, 1, 1], .c [1, 0, 1, 1, 1], .c [1, 1, 1, 1]] [(0, vP g), (4, vU (A.ws.getD wd.toNat 0))] [Ee565f g c cl ep sl wd nx sn bk (fl + 1) ((A.load wd).steps) er, Ed5fc1 ba (A.load wd), E5552f (A.load wd)])))))) (by kernel_rfl) ?_
  refine ok_obl rfl ?_
  refine ok_br (fun h => absurd (show ((A.ws.getD wd.toNat 0) == sn) = false from (beq_eq_false_iff_ne.2 hq)) (by rw [h]; simp)) (fun _ => ?_)
  refine ok_obl rfl ?_
  refine ok_obl (by simp only [InK]; omega) ?_
  refine ok_obl rfl ?_
  refine ok_stop ?_
  refine go_quiet (tm' := [(0, vP g), (4, vU (A.ws.getD wd.toNat 0)), (32, .bool false)]) (ps := [g = g, g = g, ((fl + 1) == c.retry) = false]) (cs := []) [(0, .h .w), (1, .h .w), (2, .h .w), (3, .h (.e 0)), (4, .h .w), (5, .h .w), (6, .h .w), (7, .h .w), (8, .h (.e 0)), (9, .h (.t false))] [0, 4, 32] (by kernel_rfl) (by kernel_rfl) ⟨rfl, rfl, (beq_eq_false_iff_ne.2 hr), trivial⟩ trivial ?_
  refine go_exec (rs := []) (by kernel_rfl) 4000 [.z [1, 1, 1, 1] 2 [35, 36]] (o := .stop [.o [1, 1, 1, 1] 2] [(35, vP g), (36, vU (A.ws.getD wd.toNat 0))] [Ee565f g c cl ep sl wd nx sn bk (fl + 1) ((A.load wd).steps) er, Ed5fc1 ba (A.load wd), E5552f (A.load wd)]) (by kernel_rfl) ?_
  refine ok_stop ?_
  refine go_call (some 37) [0] Tryd.call54 (gLookN c g cl ep sl wd sn bk (fl + 1) ((A.load wd).steps) nx er (A.ws.getD wd.toNat 0) (by first | assumption | omega | (simp only [InK] at *; omega)) (by first | assumption | omega | (simp only [InK] at *; omega)) (by first | assumption | omega | (simp only [InK] at *; omega)) (by first | assumption | omega | (simp only [InK] at *; omega))) (by kernel_rfl) ?_
  rintro v post ⟨rfl, rfl⟩
  refine go_exec (rs := []) (by kernel_rfl) 4000 [] (o := .ret (undef) [Ed5fc1 ba (A.load wd), E5552f (A.load wd), Ee565f g c cl ep sl wd (.func (.func 65) #[vP g] #[]) (A.ws.getD wd.toNat 0) (ctlBlock (A.ws.getD wd.toNat 0)) (fl + 1) ((A.load wd).steps) er]) (by kernel_rfl) ?_
  exact ret_ok (post := [Ee565f g c cl ep sl wd (.func (.func 65) #[vP g] #[]) (A.ws.getD wd.toNat 0) (ctlBlock (A.ws.getD wd.toNat 0)) (fl + 1) ((A.load wd).steps) er, Ed5fc1 ba (A.load wd), E5552f (A.load wd)]) [2, 0, 1] (by kernel_rfl) ⟨rfl, (by kernel_rfl)⟩

noncomputable def B14 : Code := (Tryd.f14.body).getD .skip

theorem gDone0 (c : Cfg) (g : Nat) (cl ep sl wd sn bk fl cm : Int) (er : Value)  :
    Ctr Tryd.prog 14 #[vP g] [Ee565f g c cl ep sl wd (.nilFunc) sn bk fl cm er] (Ret (.bool true) [Ee565f g c cl ep sl wd (.nilFunc) sn bk fl cm er]) := by
  refine ctr_of (args := [vP g]) (fn := Tryd.f14) (body := B14) (nt := 12) Tryd.func14 (by kernel_rfl) (by kernel_rfl) ?_
  intro F
  refine go_exec (rs := [.tmp 2]) (by kernel_rfl) 4000 [.e 0] (o := .obl (g = g) (.ret (.bool true) [Ee565f g c cl ep sl wd (.nilFunc) sn bk fl cm er])) (by kernel_rfl) ?_
  refine ok_obl rfl ?_
  exact ret_ok (post := [Ee565f g c cl ep sl wd (.nilFunc) sn bk fl cm er]) [0] (by kernel_rfl) ⟨rfl, (by kernel_rfl)⟩


theorem gDone1 (c : Cfg) (g : Nat) (cl ep sl wd sn bk fl cm : Int) (er : Value)  :
    Ctr Tryd.prog 14 #[vP g] [Ee565f g c cl ep sl wd (.func (.func 40) #[vP g] #[]) sn bk fl cm er] (Ret (.bool false) [Ee565f g c cl ep sl wd (.func (.func 40) #[vP g] #[]) sn bk fl cm er]) := by
  refine ctr_of (args := [vP g]) (fn := Tryd.f14) (body := B14) (nt := 12) Tryd.func14 (by kernel_rfl) (by kernel_rfl) ?_
  intro F
  refine go_exec (rs := [.tmp 2]) (by kernel_rfl) 4000 [.e 0] (o := .obl (g = g) (.ret (.bool false) [Ee565f g c cl ep sl wd (.func (.func 40) #[vP g] #[]) sn bk fl cm er])) (by kernel_rfl) ?_
  refine ok_obl rfl ?_
  exact ret_ok (post := [Ee565f g c cl ep sl wd (.func (.func 40) #[vP g] #[]) sn bk fl cm er]) [0] (by kernel_rfl) ⟨rfl, (by kernel_rfl)⟩


theorem gDone2 (c : Cfg) (g : Nat) (cl ep sl wd sn bk fl cm : Int) (er : Value)  :
    Ctr Tryd.prog 14 #[vP g] [Ee565f g c cl ep sl wd (.func (.func 65) #[vP g] #[]) sn bk fl cm er] (Ret (.bool false) [Ee565f g c cl ep sl wd (.func (.func 65) #[vP g] #[]) sn bk fl cm er]) := by
  refine ctr_of (args := [vP g]) (fn := Tryd.f14) (body := B14) (nt := 12) Tryd.func14 (by kernel_rfl) (by kernel_rfl) ?_
  intro F
  refine go_exec (rs := [.tmp 2]) (by kernel_rfl) 4000 [.e 0] (o := .obl (g = g) (.ret (.bool false) [Ee565f g c cl ep sl wd (.func (.func 65) #[vP g] #[]) sn bk fl cm er])) (by kernel_rfl) ?_
  refine ok_obl rfl ?_
  exact ret_ok (post := [Ee565f g c cl ep sl wd (.func (.func 65) #[vP g] #[]) sn bk fl cm er]) [0] (by kernel_rfl) ⟨rfl, (by kernel_rfl)⟩


theorem gDone3 (c : Cfg) (g : Nat) (cl ep sl wd sn bk fl cm : Int) (er : Value)  :
    Ctr Tryd.prog 14 #[vP g] [Ee565f g c cl ep sl wd (.func (.func 74) #[vP g] #[]) sn bk fl cm er] (Ret (.bool false) [Ee565f g c cl ep sl wd (.func (.func 74) #[vP g] #[]) sn bk fl cm er]) := by
  refine ctr_of (args := [vP g]) (fn := Tryd.f14) (body := B14) (nt := 12) Tryd.func14 (by kernel_rfl) (by kernel_rfl) ?_
  intro F
  refine go_exec (rs := [.tmp 2]) (by kernel_rfl) 4000 [.e 0] (o := .obl (g = g) (.ret (.bool false) [Ee565f g c cl ep sl wd (.func (.func 74) #[vP g] #[]) sn bk fl cm er])) (by kernel_rfl) ?_
  refine ok_obl rfl ?_
  exact ret_ok (post := [Ee565f g c cl ep sl wd (.func (.func 74) #[vP g] #[]) sn bk fl cm er]) [0] (by kernel_rfl) ⟨rfl, (by kernel_rfl)⟩


theorem gDone_nil   :
    Ctr Tryd.prog 14 #[.pointer none] [] (Ret (.bool true) []) := by
  refine ctr_of (args := [.pointer none]) (fn := Tryd.f14) (body := B14) (nt := 12) Tryd.func14 (by kernel_rfl) (by kernel_rfl) ?_
  intro F
  refine go_exec (rs := [.tmp 2]) (by kernel_rfl) 4000 [] (o := .ret (.bool true) []) (by kernel_rfl) ?_
  exact ret_ok (post := []) [] (by kernel_rfl) ⟨rfl, (by kernel_rfl)⟩

noncomputable def B15 : Code := (Tryd.f15.body).getD .skip

theorem gStep0 (c : Cfg) (g ba : Nat) (cl ep sl wd sn bk fl cm : Int) (er : Value) (A : Ar)  :
    Ctr Tryd.prog 15 #[vP g, vP ba] [Ee565f g c cl ep sl wd (.nilFunc) sn bk fl cm er, Ed5fc1 ba A, E5552f A] (Ret (.bool true) [Ee565f g c cl ep sl wd (.nilFunc) sn bk fl cm er, Ed5fc1 ba A, E5552f A]) := by
  refine ctr_of (args := [vP g, vP ba]) (fn := Tryd.f15) (body := B15) (nt := 16) Tryd.func15 (by kernel_rfl) (by kernel_rfl) ?_
  intro F
  refine go_exec (rs := [.tmp 4]) (by kernel_rfl) 4000 [.z [0, 0, 1] 1 [0, 1, 5]] (o := .stop [.o [0, 0, 1] 1, .c [1, 0, 1], .c [1, 1]] [(0, vP g), (1, vP ba), (5, vP g)] [Ee565f g c cl ep sl wd (.nilFunc) sn bk fl cm er, Ed5fc1 ba A, E5552f A]) (by kernel_rfl) ?_
  refine ok_stop ?_
  refine go_call (some 6) [0] Tryd.call14 (gDone0 c g cl ep sl wd sn bk fl cm er) (by kernel_rfl) ?_
  rintro v post ⟨rfl, rfl⟩
  refine go_exec (rs := [.tmp 4]) (by kernel_rfl) 4000 [.z [0, 1, 1] 1 [14]] (o := .stop [.o [0, 1, 1] 1, .c [1, 1, 1]] [(14, vP g)] [Ed5fc1 ba A, E5552f A, Ee565f g c cl ep sl wd (.nilFunc) sn bk fl cm er]) (by kernel_rfl) ?_
  refine ok_stop ?_
  refine go_call (some 15) [2] Tryd.call14 (gDone0 c g cl ep sl wd sn bk fl cm er) (by kernel_rfl) ?_
  rintro v post ⟨rfl, rfl⟩
  refine go_exec (rs := [.tmp 4]) (by kernel_rfl) 4000 [] (o := .ret (.bool true) [Ed5fc1 ba A, E5552f A, Ee565f g c cl ep sl wd (.nilFunc) sn bk fl cm er]) (by kernel_rfl) ?_
  exact ret_ok (post := [Ee565f g c cl ep sl wd (.nilFunc) sn bk fl cm er, Ed5fc1 ba A, E5552f A]) [2, 0, 1] (by kernel_rfl) ⟨rfl, (by kernel_rfl)⟩


theorem gStep1D (c : Cfg) (g ba : Nat) (cl ep sl wd sn bk fl cm : Int) (er : Value) (A : Ar) (hn : A.ws.length = A.n) (hs : 0 ≤ A.steps ∧ A.steps ≤ 1000000000) (hwd : 0 ≤ wd ∧ wd < A.n) (hw : U64 (A.ws.getD wd.toNat 0)) (hl : ctlLive (A.ws.getD wd.toNat 0) = false) :
    Ctr Tryd.prog 15 #[vP g, vP ba] [Ee565f g c cl ep sl wd (.func (.func 40) #[vP g] #[]) sn bk fl cm er, Ed5fc1 ba A, E5552f A] (Ret (.bool true) [Ee565f g c cl ep sl wd (.nilFunc) (A.ws.getD wd.toNat 0) 0 fl ((A.load wd).steps) (.iface 49 (vI 22)), Ed5fc1 ba (A.load wd), E5552f (A.load wd)]) := by
  refine ctr_of (args := [vP g, vP ba]) (fn := Tryd.f15) (body := B15) (nt := 16) Tryd.func15 (by kernel_rfl) (by kernel_rfl) ?_
  intro F
  refine go_exec (rs := [.tmp 4]) (by kernel_rfl) 4000 [.z [0, 0, 1] 1 [0, 1, 5]] (o := .stop [.o [0, 0, 1] 1, .c [1, 0, 1], .c [1, 1]] [(0, vP g), (1, vP ba), (5, vP g)] [Ee565f g c cl ep sl wd (.func (.func 40) #[vP g] #[]) sn bk fl cm er, Ed5fc1 ba A, E5552f A]) (by kernel_rfl) ?_
  refine ok_stop ?_
  refine go_call (some 6) [0] Tryd.call14 (gDone1 c g cl ep sl wd sn bk fl cm er) (by kernel_rfl) ?_
  rintro v post ⟨rfl, rfl⟩
  refine go_exec (rs := [.tmp 4]) (by kernel_rfl) 4000 [.e 2, .z [0, 1, 0, 1] 5 [0, 11, 12]] (o := .obl (g = g) (.stop [.o [0, 1, 0, 1] 5, .c [1, 1]] [(0, vP g), (11, .func (.func 40) #[vP g] #[]), (12, vP ba)] [Ed5fc1 ba A, E5552f A, Ee565f g c cl ep sl wd (.func (.func 40) #[vP g] #[]) sn bk fl cm er])) (by kernel_rfl) ?_
  refine ok_obl rfl ?_
  refine ok_stop ?_
  refine go_call (some 13) [2, 0, 1] Tryd.call40 (gFirstD c g ba cl ep sl wd sn bk fl cm (.func (.func 40) #[vP g] #[]) er A (by first | assumption | omega | (simp only [InK] at *; omega)) (by first | assumption | omega | (simp only [InK] at *; omega)) (by first | assumption | omega | (simp only [InK] at *; omega)) (by first | assumption | omega | (simp only [InK] at *; omega)) (by first | assumption | omega | (simp only [InK] at *; omega))) (by kernel_rfl) ?_
  rintro v post ⟨rfl, rfl⟩
  refine go_exec (rs := [.tmp 4]) (by kernel_rfl) 4000 [.z [0, 1, 1] 1 [14]] (o := .stop [.o [0, 1, 1] 1, .c [1, 1, 1]] [(14, vP g)] [Ee565f g c cl ep sl wd (.nilFunc) (A.ws.getD wd.toNat 0) 0 fl ((A.load wd).steps) (.iface 49 (vI 22)), Ed5fc1 ba (A.load wd), E5552f (A.load wd)]) (by kernel_rfl) ?_
  refine ok_stop ?_
  refine go_call (some 15) [0] Tryd.call14 (gDone0 c g cl ep sl wd (A.ws.getD wd.toNat 0) 0 fl ((A.load wd).steps) (.iface 49 (vI 22))) (by kernel_rfl) ?_
  rintro v post ⟨rfl, rfl⟩
  refine go_exec (rs := [.tmp 4]) (by kernel_rfl) 4000 [] (o := .ret (.bool true) [Ed5fc1 ba (A.load wd), E5552f (A.load wd), Ee565f g c cl ep sl wd (.nilFunc) (A.ws.getD wd.toNat 0) 0 fl ((A.load wd).steps) (.iface 49 (vI 22))]) (by kernel_rfl) ?_
  exact ret_ok (post := [Ee565f g c cl ep sl wd (.nilFunc) (A.ws.getD wd.toNat 0) 0 fl ((A.load wd).steps) (.iface 49 (vI 22)), Ed5fc1 ba (A.load wd), E5552f (A.load wd)]) [2, 0, 1] (by kernel_rfl) ⟨rfl, (by kernel_rfl)⟩


theorem gStep1P (c : Cfg) (g ba : Nat) (cl ep sl wd sn bk fl cm : Int) (er : Value) (A : Ar) (hn : A.ws.length = A.n) (hs : 0 ≤ A.steps ∧ A.steps ≤ 1000000000) (hwd : 0 ≤ wd ∧ wd < A.n) (hw : U64 (A.ws.getD wd.toNat 0)) (hl : ctlLive (A.ws.getD wd.toNat 0) = true) (he : ctlEpoch (A.ws.getD wd.toNat 0) ≠ ep) :
    Ctr Tryd.prog 15 #[vP g, vP ba] [Ee565f g c cl ep sl wd (.func (.func 40) #[vP g] #[]) sn bk fl cm er, Ed5fc1 ba A, E5552f A] (Ret (.bool true) [Ee565f g c cl ep sl wd (.nilFunc) (A.ws.getD wd.toNat 0) 0 fl ((A.load wd).steps) (.iface 49 (vI 22)), Ed5fc1 ba (A.load wd), E5552f (A.load wd)]) := by
  refine ctr_of (args := [vP g, vP ba]) (fn := Tryd.f15) (body := B15) (nt := 16) Tryd.func15 (by kernel_rfl) (by kernel_rfl) ?_
  intro F
  refine go_exec (rs := [.tmp 4]) (by kernel_rfl) 4000 [.z [0, 0, 1] 1 [0, 1, 5]] (o := .stop [.o [0, 0, 1] 1, .c [1, 0, 1], .c [1, 1]] [(0, vP g), (1, vP ba), (5, vP g)] [Ee565f g c cl ep sl wd (.func (.func 40) #[vP g] #[]) sn bk fl cm er, Ed5fc1 ba A, E5552f A]) (by kernel_rfl) ?_
  refine ok_stop ?_
  refine go_call (some 6) [0] Tryd.call14 (gDone1 c g cl ep sl wd sn bk fl cm er) (by kernel_rfl) ?_
  rintro v post ⟨rfl, rfl⟩
  refine go_exec (rs := [.tmp 4]) (by kernel_rfl) 4000 [.e 2, .z [0, 1, 0, 1] 5 [0, 11, 12]] (o := .obl (g = g) (.stop [.o [0, 1, 0, 1] 5, .c [1, 1]] [(0, vP g), (11, .func (.func 40) #[vP g] #[]), (12, vP ba)] [Ed5fc1 ba A, E5552f A, Ee565f g c cl ep sl wd (.func (.func 40) #[vP g] #[]) sn bk fl cm er])) (by kernel_rfl) ?_
  refine ok_obl rfl ?_
  refine ok_stop ?_
  refine go_call (some 13) [2, 0, 1] Tryd.call40 (gFirstP c g ba cl ep sl wd sn bk fl cm (.func (.func 40) #[vP g] #[]) er A (by first | assumption | omega | (simp only [InK] at *; omega)) (by first | assumption | omega | (simp only [InK] at *; omega)) (by first | assumption | omega | (simp only [InK] at *; omega)) (by first | assumption | omega | (simp only [InK] at *; omega)) (by first | assumption | omega | (simp only [InK] at *; omega)) (by first | assumption | omega | (simp only [InK] at *; omega))) (by kernel_rfl) ?_
  rintro v post ⟨rfl, rfl⟩
  refine go_exec (rs := [.tmp 4]) (by kernel_rfl) 4000 [.z [0, 1, 1] 1 [14]] (o := .stop [.o [0, 1, 1] 1, .c [1, 1, 1]] [(14, vP g)] [Ee565f g c cl ep sl wd (.nilFunc) (A.ws.getD wd.toNat 0) 0 fl ((A.load wd).steps) (.iface 49 (vI 22)), Ed5fc1 ba (A.load wd), E5552f (A.load wd)]) (by kernel_rfl) ?_
  refine ok_stop ?_
  refine go_call (some 15) [0] Tryd.call14 (gDone0 c g cl ep sl wd (A.ws.getD wd.toNat 0) 0 fl ((A.load wd).steps) (.iface 49 (vI 22))) (by kernel_rfl) ?_
  rintro v post ⟨rfl, rfl⟩
  refine go_exec (rs := [.tmp 4]) (by kernel_rfl) 4000 [] (o := .ret (.bool true) [Ed5fc1 ba (A.load wd), E5552f (A.load wd), Ee565f g c cl ep sl wd (.nilFunc) (A.ws.getD wd.toNat 0) 0 fl ((A.load wd).steps) (.iface 49 (vI 22))]) (by kernel_rfl) ?_
  exact ret_ok (post := [Ee565f g c cl ep sl wd (.nilFunc) (A.ws.getD wd.toNat 0) 0 fl ((A.load wd).steps) (.iface 49 (vI 22)), Ed5fc1 ba (A.load wd), E5552f (A.load wd)]) [2, 0, 1] (by kernel_rfl) ⟨rfl, (by kernel_rfl)⟩


theorem gStep1E (c : Cfg) (g ba : Nat) (cl ep sl wd sn bk fl cm : Int) (er : Value) (A : Ar) (hn : A.ws.length = A.n) (hs : 0 ≤ A.steps ∧ A.steps ≤ 1000000000) (hwd : 0 ≤ wd ∧ wd < A.n) (hw : U64 (A.ws.getD wd.toNat 0)) (hl : ctlLive (A.ws.getD wd.toNat 0) = true) (he : ctlEpoch (A.ws.getD wd.toNat 0) = ep) (hb : ctlBlock (A.ws.getD wd.toNat 0) = 0) :
    Ctr Tryd.prog 15 #[vP g, vP ba] [Ee565f g c cl ep sl wd (.func (.func 40) #[vP g] #[]) sn bk fl cm er, Ed5fc1 ba A, E5552f A] (Ret (.bool true) [Ee565f g c cl ep sl wd (.nilFunc) (A.ws.getD wd.toNat 0) 0 fl ((A.load wd).steps) (.iface 49 (vI 20)), Ed5fc1 ba (A.load wd), E5552f (A.load wd)]) := by
  refine ctr_of (args := [vP g, vP ba]) (fn := Tryd.f15) (body := B15) (nt := 16) Tryd.func15 (by kernel_rfl) (by kernel_rfl) ?_
  intro F
  refine go_exec (rs := [.tmp 4]) (by kernel_rfl) 4000 [.z [0, 0, 1] 1 [0, 1, 5]] (o := .stop [.o [0, 0, 1] 1, .c [1, 0, 1], .c [1, 1]] [(0, vP g), (1, vP ba), (5, vP g)] [Ee565f g c cl ep sl wd (.func (.func 40) #[vP g] #[]) sn bk fl cm er, Ed5fc1 ba A, E5552f A]) (by kernel_rfl) ?_
  refine ok_stop ?_
  refine go_call (some 6) [0] Tryd.call14 (gDone1 c g cl ep sl wd sn bk fl cm er) (by kernel_rfl) ?_
  rintro v post ⟨rfl, rfl⟩
  refine go_exec (rs := [.tmp 4]) (by kernel_rfl) 4000 [.e 2, .z [0, 1, 0, 1] 5 [0, 11, 12]] (o := .obl (g = g) (.stop [.o [0, 1, 0, 1] 5, .c [1, 1]] [(0, vP g), (11, .func (.func 40) #[vP g] #[]), (12, vP ba)] [Ed5fc1 ba A, E5552f A, Ee565f g c cl ep sl wd (.func (.func 40) #[vP g] #[]) sn bk fl cm er])) (by kernel_rfl) ?_
  refine ok_obl rfl ?_
  refine ok_stop ?_
  refine go_call (some 13) [2, 0, 1] Tryd.call40 (gFirstE c g ba cl ep sl wd sn bk fl cm (.func (.func 40) #[vP g] #[]) er A (by first | assumption | omega | (simp only [InK] at *; omega)) (by first | assumption | omega | (simp only [InK] at *; omega)) (by first | assumption | omega | (simp only [InK] at *; omega)) (by first | assumption | omega | (simp only [InK] at *; omega)) (by first | assumption | omega | (simp only [InK] at *; omega)) (by first | assumption | omega | (simp only [InK] at *; omega)) (by first | assumption | omega | (simp only [InK] at *; omega))) (by kernel_rfl) ?_
  rintro v post ⟨rfl, rfl⟩
  refine go_exec (rs := [.tmp 4]) (by kernel_rfl) 4000 [.z [0, 1, 1] 1 [14]] (o := .stop [.o [0, 1, 1] 1, .c [1, 1, 1]] [(14, vP g)] [Ee565f g c cl ep sl wd (.nilFunc) (A.ws.getD wd.toNat 0) 0 fl ((A.load wd).steps) (.iface 49 (vI 20)), Ed5fc1 ba (A.load wd), E5552f (A.load wd)]) (by kernel_rfl) ?_
  refine ok_stop ?_
  refine go_call (some 15) [0] Tryd.call14 (gDone0 c g cl ep sl wd (A.ws.getD wd.toNat 0) 0 fl ((A.load wd).steps) (.iface 49 (vI 20))) (by kernel_rfl) ?_
  rintro v post ⟨rfl, rfl⟩
  refine go_exec (rs := [.tmp 4]) (by kernel_rfl) 4000 [] (o := .ret (.bool true) [Ed5fc1 ba (A.load wd), E5552f (A.load wd), Ee565f g c cl ep sl wd (.nilFunc) (A.ws.getD wd.toNat 0) 0 fl ((A.load wd).steps) (.iface 49 (vI 20))]) (by kernel_rfl) ?_
  exact ret_ok (post := [Ee565f g c cl ep sl wd (.nilFunc) (A.ws.getD wd.toNat 0) 0 fl ((A.load wd).steps) (.iface 49 (vI 20)), Ed5fc1 ba (A.load wd), E5552f (A.load wd)]) [2, 0, 1] (by kernel_rfl) ⟨rfl, (by kernel_rfl)⟩


theorem gStep1N (c : Cfg) (g ba : Nat) (cl ep sl wd sn bk fl cm : Int) (er : Value) (A : Ar) (hn : A.ws.length = A.n) (hs : 0 ≤ A.steps ∧ A.steps ≤ 1000000000) (hwd : 0 ≤ wd ∧ wd < A.n) (hw : U64 (A.ws.getD wd.toNat 0)) (hl : ctlLive (A.ws.getD wd.toNat 0) = true) (he : ctlEpoch (A.ws.getD wd.toNat 0) = ep) (hb : ctlBlock (A.ws.getD wd.toNat 0) ≠ 0) :
    Ctr Tryd.prog 15 #[vP g, vP ba] [Ee565f g c cl ep sl wd (.func (.func 40) #[vP g] #[]) sn bk fl cm er, Ed5fc1 ba A, E5552f A] (Ret (.bool false) [Ee565f g c cl ep sl wd (.func (.func 65) #[vP g] #[]) (A.ws.getD wd.toNat 0) (ctlBlock (A.ws.getD wd.toNat 0)) fl ((A.load wd).steps) er, Ed5fc1 ba (A.load wd), E5552f (A.load wd)]) := by
  refine ctr_of (args := [vP g, vP ba]) (fn := Tryd.f15) (body := B15) (nt := 16) Tryd.func15 (by kernel_rfl) (by kernel_rfl) ?_
  intro F
  refine go_exec (rs := [.tmp 4]) (by kernel_rfl) 4000 [.z [0, 0, 1] 1 [0, 1, 5]] (o := .stop [.o [0, 0, 1] 1, .c [1, 0, 1], .c [1, 1]] [(0, vP g), (1, vP ba), (5, vP g)] [Ee565f g c cl ep sl wd (.func (.func 40) #[vP g] #[]) sn bk fl cm er, Ed5fc1 ba A, E5552f A]) (by kernel_rfl) ?_
  refine ok_stop ?_
  refine go_call (some 6) [0] Tryd.call14 (gDone1 c g cl ep sl wd sn bk fl cm er) (by kernel_rfl) ?_
  rintro v post ⟨rfl, rfl⟩
  refine go_exec (rs := [.tmp 4]) (by kernel_rfl) 4000 [.e 2, .z [0, 1, 0, 1] 5 [0, 11, 12]] (o := .obl (g = g) (.stop [.o [0, 1, 0, 1] 5, .c [1, 1]] [(0, vP g), (11, .func (.func 40) #[vP g] #[]), (12, vP ba)] [Ed5fc1 ba A, E5552f A, Ee565f g c cl ep sl wd (.func (.func 40) #[vP g] #[]) sn bk fl cm er])) (by kernel_rfl) ?_
  refine ok_obl rfl ?_
  refine ok_stop ?_
  refine go_call (some 13) [2, 0, 1] Tryd.call40 (gFirstN c g ba cl ep sl wd sn bk fl cm (.func (.func 40) #[vP g] #[]) er A (by first | assumption | omega | (simp only [InK] at *; omega)) (by first | assumption | omega | (simp only [InK] at *; omega)) (by first | assumption | omega | (simp only [InK] at *; omega)) (by first | assumption | omega | (simp only [InK] at *; omega)) (by first | assumption | omega | (simp only [InK] at *; omega)) (by first | assumption | omega | (simp only [InK] at *; omega)) (by first | assumption | omega | (simp only [InK] at *; omega))) (by kernel_rfl) ?_
  rintro v post ⟨rfl, rfl⟩
  refine go_exec (rs := [.tmp 4]) (by kernel_rfl) 4000 [.z [0, 1, 1] 1 [14]] (o := .stop [.o [0, 1, 1] 1, .c [1, 1, 1]] [(14, vP g)] [Ee565f g c cl ep sl wd (.func (.func 65) #[vP g] #[]) (A.ws.getD wd.toNat 0) (ctlBlock (A.ws.getD wd.toNat 0)) fl ((A.load wd).steps) er, Ed5fc1 ba (A.load wd), E5552f (A.load wd)]) (by kernel_rfl) ?_
  refine ok_stop ?_
  refine go_call (some 15) [0] Tryd.call14 (gDone2 c g cl ep sl wd (A.ws.getD wd.toNat 0) (ctlBlock (A.ws.getD wd.toNat 0)) fl ((A.load wd).steps) er) (by kernel_rfl) ?_
  rintro v post ⟨rfl, rfl⟩
  refine go_exec (rs := [.tmp 4]) (by kernel_rfl) 4000 [] (o := .ret (.bool false) [Ed5fc1 ba (A.load wd), E5552f (A.load wd), Ee565f g c cl ep sl wd (.func (.func 65) #[vP g] #[]) (A.ws.getD wd.toNat 0) (ctlBlock (A.ws.getD wd.toNat 0)) fl ((A.load wd).steps) er]) (by kernel_rfl) ?_
  exact ret_ok (post := [Ee565f g c cl ep sl wd (.func (.func 65) #[vP g] #[]) (A.ws.getD wd.toNat 0) (ctlBlock (A.ws.getD wd.toNat 0)) fl ((A.load wd).steps) er, Ed5fc1 ba (A.load wd), E5552f (A.load wd)]) [2, 0, 1] (by kernel_rfl) ⟨rfl, (by kernel_rfl)⟩


theorem gStep2 (c : Cfg) (g ba : Nat) (cl ep sl wd sn bk fl cm : Int) (er : Value) (A : Ar) (hn : A.ws.length = A.n) (hs : 0 ≤ A.steps ∧ A.steps ≤ 1000000000) (hsl : 0 ≤ sl ∧ sl < A.n) (hcl : 0 ≤ cl ∧ cl ≤ 1000) (hbk : 0 ≤ bk ∧ bk ≤ 65535) :
    Ctr Tryd.prog 15 #[vP g, vP ba] [Ee565f g c cl ep sl wd (.func (.func 65) #[vP g] #[]) sn bk fl cm er, Ed5fc1 ba A, E5552f A] (Ret (.bool false) [Ee565f g c cl ep sl wd (.func (.func 74) #[vP g] #[]) sn bk fl cm er, Ed5fc1 ba (A.store sl (markW cl bk)), E5552f (A.store sl (markW cl bk))]) := by
  refine ctr_of (args := [vP g, vP ba]) (fn := Tryd.f15) (body := B15) (nt := 16) Tryd.func15 (by kernel_rfl) (by kernel_rfl) ?_
  intro F
  refine go_exec (rs := [.tmp 4]) (by kernel_rfl) 4000 [.z [0, 0, 1] 1 [0, 1, 5]] (o := .stop [.o [0, 0, 1] 1, .c [1, 0, 1], .c [1, 1]] [(0, vP g), (1, vP ba), (5, vP g)] [Ee565f g c cl ep sl wd (.func (.func 65) #[vP g] #[]) sn bk fl cm er, Ed5fc1 ba A, E5552f A]) (by kernel_rfl) ?_
  refine ok_stop ?_
  refine go_call (some 6) [0] Tryd.call14 (gDone2 c g cl ep sl wd sn bk fl cm er) (by kernel_rfl) ?_
  rintro v post ⟨rfl, rfl⟩
  refine go_exec (rs := [.tmp 4]) (by kernel_rfl) 4000 [.e 2, .z [0, 1, 0, 1] 5 [0, 11, 12]] (o := .obl (g = g) (.stop [.o [0, 1, 0, 1] 5, .c [1, 1]] [(0, vP g), (11, .func (.func 65) #[vP g] #[]), (12, vP ba)] [Ed5fc1 ba A, E5552f A, Ee565f g c cl ep sl wd (.func (.func 65) #[vP g] #[]) sn bk fl cm er])) (by kernel_rfl) ?_
  refine ok_obl rfl ?_
  refine ok_stop ?_
  refine go_call (some 13) [2, 0, 1] Tryd.call65 (gSecond c g ba cl ep sl wd sn bk fl cm (.func (.func 65) #[vP g] #[]) er A (by first | assumption | omega | (simp only [InK] at *; omega)) (by first | assumption | omega | (simp only [InK] at *; omega)) (by first | assumption | omega | (simp only [InK] at *; omega)) (by first | assumption | omega | (simp only [InK] at *; omega)) (by first | assumption | omega | (simp only [InK] at *; omega))) (by kernel_rfl) ?_
  rintro v post ⟨rfl, rfl⟩
  refine go_exec (rs := [.tmp 4]) (by kernel_rfl) 4000 [.z [0, 1, 1] 1 [14]] (o := .stop [.o [0, 1, 1] 1, .c [1, 1, 1]] [(14, vP g)] [Ee565f g c cl ep sl wd (.func (.func 74) #[vP g] #[]) sn bk fl cm er, Ed5fc1 ba (A.store sl (markW cl bk)), E5552f (A.store sl (markW cl bk))]) (by kernel_rfl) ?_
  refine ok_stop ?_
  refine go_call (some 15) [0] Tryd.call14 (gDone3 c g cl ep sl wd sn bk fl cm er) (by kernel_rfl) ?_
  rintro v post ⟨rfl, rfl⟩
  refine go_exec (rs := [.tmp 4]) (by kernel_rfl) 4000 [] (o := .ret (.bool false) [Ed5fc1 ba (A.store sl (markW cl bk)), E5552f (A.store sl (markW cl bk)), Ee565f g c cl ep sl wd (.func (.func 74) #[vP g] #[]) sn bk fl cm er]) (by kernel_rfl) ?_
  exact ret_ok (post := [Ee565f g c cl ep sl wd (.func (.func 74) #[vP g] #[]) sn bk fl cm er, Ed5fc1 ba (A.store sl (markW cl bk)), E5552f (A.store sl (markW cl bk))]) [2, 0, 1] (by kernel_rfl) ⟨rfl, (by kernel_rfl)⟩


theorem gStep3K (c : Cfg) (g ba : Nat) (cl ep sl wd sn bk fl cm : Int) (er : Value) (A : Ar) (hn : A.ws.length = A.n) (hs : 0 ≤ A.steps ∧ A.steps ≤ 1000000000) (hwd : 0 ≤ wd ∧ wd < A.n) (hw : U64 (A.ws.getD wd.toNat 0)) (hf0 : 0 ≤ fl ∧ fl ≤ 1000) (hq : (A.ws.getD wd.toNat 0) = sn) :
    Ctr Tryd.prog 15 #[vP g, vP ba] [Ee565f g c cl ep sl wd (.func (.func 74) #[vP g] #[]) sn bk fl cm er, Ed5fc1 ba A, E5552f A] (Ret (.bool true) [E52fd0 g c cl ep sl wd (.nilFunc) sn bk fl ((A.load wd).steps), Ed5fc1 ba (A.load wd), E5552f (A.load wd)]) := by
  refine ctr_of (args := [vP g, vP ba]) (fn := Tryd.f15) (body := B15) (nt := 16) Tryd.func15 (by kernel_rfl) (by kernel_rfl) ?_
  intro F
  refine go_exec (rs := [.tmp 4]) (by kernel_rfl) 4000 [.z [0, 0, 1] 1 [0, 1, 5]] (o := .stop [.o [0, 0, 1] 1, .c [1, 0, 1], .c [1, 1]] [(0, vP g), (1, vP ba), (5, vP g)] [Ee565f g c cl ep sl wd (.func (.func 74) #[vP g] #[]) sn bk fl cm er, Ed5fc1 ba A, E5552f A]) (by kernel_rfl) ?_
  refine ok_stop ?_
  refine go_call (some 6) [0] Tryd.call14 (gDone3 c g cl ep sl wd sn bk fl cm er) (by kernel_rfl) ?_
  rintro v post ⟨rfl, rfl⟩
  refine go_exec (rs := [.tmp 4]) (by kernel_rfl) 4000 [.e 2, .z [0, 1, 0, 1] 5 [0, 11, 12]] (o := .obl (g = g) (.stop [.o [0, 1, 0, 1] 5, .c [1, 1]] [(0, vP g), (11, .func (.func 74) #[vP g] #[]), (12, vP ba)] [Ed5fc1 ba A, E5552f A, Ee565f g c cl ep sl wd (.func (.func 74) #[vP g] #[]) sn bk fl cm er])) (by kernel_rfl) ?_
  refine ok_obl rfl ?_
  refine ok_stop ?_
  refine go_call (some 13) [2, 0, 1] Tryd.call74 (gThirdK c g ba cl ep sl wd sn bk fl cm (.func (.func 74) #[vP g] #[]) er A (by first | assumption | omega | (simp only [InK] at *; omega)) (by first | assumption | omega | (simp only [InK] at *; omega)) (by first | assumption | omega | (simp only [InK] at *; omega)) (by first | assumption | omega | (simp only [InK] at *; omega)) (by first | assumption | omega | (simp only [InK] at *; omega)) (by first | assumption | omega | (simp only [InK] at *; omega))) (by kernel_rfl) ?_
  rintro v post ⟨rfl, rfl⟩
  refine go_exec (rs := [.tmp 4]) (by kernel_rfl) 4000 [.z [0, 1, 1] 1 [14]] (o := .stop [.o [0, 1, 1] 1, .c [1, 1, 1]] [(14, vP g)] [E52fd0 g c cl ep sl wd (.nilFunc) sn bk fl ((A.load wd).steps), Ed5fc1 ba (A.load wd), E5552f (A.load wd)]) (by kernel_rfl) ?_
  refine ok_stop ?_
  refine go_call (some 15) [0] Tryd.call14 (gDone0 c g cl ep sl wd sn bk fl ((A.load wd).steps) (.nilIface)) (by kernel_rfl) ?_
  rintro v post ⟨rfl, rfl⟩
  refine go_exec (rs := [.tmp 4]) (by kernel_rfl) 4000 [] (o := .ret (.bool true) [Ed5fc1 ba (A.load wd), E5552f (A.load wd), Ee565f g c cl ep sl wd (.nilFunc) sn bk fl ((A.load wd).steps) (.nilIface)]) (by kernel_rfl) ?_
  exact ret_ok (post := [Ee565f g c cl ep sl wd (.nilFunc) sn bk fl ((A.load wd).steps) (.nilIface), Ed5fc1 ba (A.load wd), E5552f (A.load wd)]) [2, 0, 1] (by kernel_rfl) ⟨rfl, (by kernel_rfl)⟩


theorem gStep3R (c : Cfg) (g ba : Nat) (cl ep sl wd sn bk fl cm : Int) (er : Value) (A : Ar) (hn : A.ws.length = A.n) (hs : 0 ≤ A.steps ∧ A.steps ≤ 1000000000) (hwd : 0 ≤ wd ∧ wd < A.n) (hw : U64 (A.ws.getD wd.toNat 0)) (hf0 : 0 ≤ fl ∧ fl ≤ 1000) (hq : (A.ws.getD wd.toNat 0) ≠ sn) (hr : fl + 1 = c.retry) :
    Ctr Tryd.prog 15 #[vP g, vP ba] [Ee565f g c cl ep sl wd (.func (.func 74) #[vP g] #[]) sn bk fl cm er, Ed5fc1 ba A, E5552f A] (Ret (.bool true) [Ee565f g c cl ep sl wd (.nilFunc) sn 0 (fl + 1) ((A.load wd).steps) (.iface 49 (vI 17)), Ed5fc1 ba (A.load wd), E5552f (A.load wd)]) := by
  refine ctr_of (args := [vP g, vP ba]) (fn := Tryd.f15) (body := B15) (nt := 16) Tryd.func15 (by kernel_rfl) (by kernel_rfl) ?_
  intro F
  refine go_exec (rs := [.tmp 4]) (by kernel_rfl) 4000 [.z [0, 0, 1] 1 [0, 1, 5]] (o := .stop [.o [0, 0, 1] 1, .c [1, 0, 1], .c [1, 1]] [(0, vP g), (1, vP ba), (5, vP g)] [Ee565f g c cl ep sl wd (.func (.func 74) #[vP g] #[]) sn bk fl cm er, Ed5fc1 ba A, E5552f A]) (by kernel_rfl) ?_
  refine ok_stop ?_
  refine go_call (some 6) [0] Tryd.call14 (gDone3 c g cl ep sl wd sn bk fl cm er) (by kernel_rfl) ?_
  rintro v post ⟨rfl, rfl⟩
  refine go_exec (rs := [.tmp 4]) (by kernel_rfl) 4000 [.e 2, .z [0, 1, 0, 1] 5 [0, 11, 12]] (o := .obl (g = g) (.stop [.o [0, 1, 0, 1] 5, .c [1, 1]] [(0, vP g), (11, .func (.func 74) #[vP g] #[]), (12, vP ba)] [Ed5fc1 ba A, E5552f A, Ee565f g c cl ep sl wd (.func (.func 74) #[vP g] #[]) sn bk fl cm er])) (by kernel_rfl) ?_
  refine ok_obl rfl ?_
  refine ok_stop ?_
  refine go_call (some 13) [2, 0, 1] Tryd.call74 (gThirdR c g ba cl ep sl wd sn bk fl cm (.func (.func 74) #[vP g] #[]) er A (by first | assumption | omega | (simp only [InK] at *; omega)) (by first | assumption | omega | (simp only [InK] at *; omega)) (by first | assumption | omega | (simp only [InK] at *; omega)) (by first | assumption | omega | (simp only [InK] at *; omega)) (by first | assumption | omega | (simp only [InK] at *; omega)) (by first | assumption | omega | (simp only [InK] at *; omega)) (by first | assumption | omega | (simp only [InK] at *; omega))) (by kernel_rfl) ?_
  rintro v post ⟨rfl, rfl⟩
  refine go_exec (rs := [.tmp 4]) (by kernel_rfl) 4000 [.z [0, 1, 1] 1 [14]] (o := .stop [.o [0, 1, 1] 1, .c [1, 1, 1]] [(14, vP g)] [Ee565f g c cl ep sl wd (.nilFunc) sn 0 (fl + 1) ((A.load wd).steps) (.iface 49 (vI 17)), Ed5fc1 ba (A.load wd), E5552f (A.load wd)]) (by kernel_rfl) ?_
  refine ok_stop ?_
  refine go_call (some 15) [0] Tryd.call14 (gDone0 c g cl ep sl wd sn 0 (fl + 1) ((A.load wd).steps) (.iface 49 (vI 17))) (by kernel_rfl) ?_
  rintro v post ⟨rfl, rfl⟩
  refine go_exec (rs := [.tmp 4]) (by kernel_rfl) 4000 [] (o := .ret (.bool true) [Ed5fc1 ba (A.load wd), E5552f (A.load wd), Ee565f g c cl ep sl wd (.nilFunc) sn 0 (fl + 1) ((A.load wd).steps) (.iface 49 (vI 17))]) (by kernel_rfl) ?_
  exact ret_ok (post := [Ee565f g c cl ep sl wd (.nilFunc) sn 0 (fl + 1) ((A.load wd).steps) (.iface 49 (vI 17)), Ed5fc1 ba (A.load wd), E5552f (A.load wd)]) [2, 0, 1] (by kernel_rfl) ⟨rfl, (by kernel_rfl)⟩


theorem gStep3D (c : Cfg) (g ba : Nat) (cl ep sl wd sn bk fl cm : Int) (er : Value) (A : Ar) (hn : A.ws.length = A.n) (hs : 0 ≤ A.steps ∧ A.steps ≤ 1000000000) (hwd : 0 ≤ wd ∧ wd < A.n) (hw : U64 (A.ws.getD wd.toNat 0)) (hf0 : 0 ≤ fl ∧ fl ≤ 1000) (hq : (A.ws.getD wd.toNat 0) ≠ sn) (hr : fl + 1 ≠ c.retry) (hl : ctlLive (A.ws.getD wd.toNat 0) = false) :
    Ctr Tryd.prog 15 #[vP g, vP ba] [Ee565f g c cl ep sl wd (.func (.func 74) #[vP g] #[]) sn bk fl cm er, Ed5fc1 ba A, E5552f A] (Ret (.bool true) [Ee565f g c cl ep sl wd (.nilFunc) (A.ws.getD wd.toNat 0) 0 (fl + 1) ((A.load wd).steps) (.iface 49 (vI 22)), Ed5fc1 ba (A.load wd), E5552f (A.load wd)]) := by
  refine ctr_of (args := [vP g, vP ba]) (fn := Tryd.f15) (body := B15) (nt := 16) Tryd.func15 (by kernel_rfl) (by kernel_rfl) ?_
  intro F
  refine go_exec (rs := [.tmp 4]) (by kernel_rfl) 4000 [.z [0, 0, 1] 1 [0, 1, 5]] (o := .stop [.o [0, 0, 1] 1, .c [1, 0, 1], .c [1, 1]] [(0, vP g), (1, vP ba), (5, vP g)] [Ee565f g c cl ep sl wd (.func (.func 74) #[vP g] #[]) sn bk fl cm er, Ed5fc1 ba A, E5552f A]) (by kernel_rfl) ?_
  refine ok_stop ?_
  refine go_call (some 6) [0] Tryd.call14 (gDone3 c g cl ep sl wd sn bk fl cm er) (by kernel_rfl) ?_
  rintro v post ⟨rfl, rfl⟩
  refine go_exec (rs := [.tmp 4]) (by kernel_rfl) 4000 [.e 2, .z [0, 1, 0, 1] 5 [0, 11, 12]] (o := .obl (g = g) (.stop [.o [0, 1, 0, 1] 5, .c [1, 1]] [(0, vP g), (11, .func (.func 74) #[vP g] #[]), (12, vP ba)] [Ed5fc1 ba A, E5552f A, Ee565f g c cl ep sl wd (.func (.func 74) #[vP g] #[]) sn bk fl cm er])) (by kernel_rfl) ?_
  refine ok_obl rfl ?_
  refine ok_stop ?_
  refine go_call (some 13) [2, 0, 1] Tryd.call74 (gThirdD c g ba cl ep sl wd sn bk fl cm (.func (.func 74) #[vP g] #[]) er A (by first | assumption | omega | (simp only [InK] at *; omega)) (by first | assumption | omega | (simp only [InK] at *; omega)) (by first | assumption | omega | (simp only [InK] at *; omega)) (by first | assumption | omega | (simp only [InK] at *; omega)) (by first | assumption | omega | (simp only [InK] at *; omega)) (by first | assumption | omega | (simp only [InK] at *; omega)) (by first | assumption | omega | (simp only [InK] at *; omega)) (by first | assumption | omega | (simp only [InK] at *; omega))) (by kernel_rfl) ?_
  rintro v post ⟨rfl, rfl⟩
  refine go_exec (rs := [.tmp 4]) (by kernel_rfl) 4000 [.z [0, 1, 1] 1 [14]] (o := .stop [.o [0, 1, 1] 1, .c [1, 1, 1]] [(14, vP g)] [Ee565f g c cl ep sl wd (.nilFunc) (A.ws.getD wd.toNat 0) 0 (fl + 1) ((A.load wd).steps) (.iface 49 (vI 22)), Ed5fc1 ba (A.load wd), E5552f (A.load wd)]) (by kernel_rfl) ?_
  refine ok_stop ?_
  refine go_call (some 15) [0] Tryd.call14 (gDone0 c g cl ep sl wd (A.ws.getD wd.toNat 0) 0 (fl + 1) ((A.load wd).steps) (.iface 49 (vI 22))) (by kernel_rfl) ?_
  rintro v post ⟨rfl, rfl⟩
  refine go_exec (rs := [.tmp 4]) (by kernel_rfl) 4000 [] (o := .ret (.bool true) [Ed5fc1 ba (A.load wd), E5552f (A.load wd), Ee565f g c cl ep sl wd (.nilFunc) (A.ws.getD wd.toNat 0) 0 (fl + 1) ((A.load wd).steps) (.iface 49 (vI 22))]) (by kernel_rfl) ?_
  exact ret_ok (post := [Ee565f g c cl ep sl wd (.nilFunc) (A.ws.getD wd.toNat 0) 0 (fl + 1) ((A.load wd).steps) (.iface 49 (vI 22)), Ed5fc1 ba (A.load wd), E5552f (A.load wd)]) [2, 0, 1] (by kernel_rfl) ⟨rfl, (by kernel_rfl)⟩


theorem gStep3P (c : Cfg) (g ba : Nat) (cl ep sl wd sn bk fl cm : Int) (er : Value) (A : Ar) (hn : A.ws.length = A.n) (hs : 0 ≤ A.steps ∧ A.steps ≤ 1000000000) (hwd : 0 ≤ wd ∧ wd < A.n) (hw : U64 (A.ws.getD wd.toNat 0)) (hf0 : 0 ≤ fl ∧ fl ≤ 1000) (hq : (A.ws.getD wd.toNat 0) ≠ sn) (hr : fl + 1 ≠ c.retry) (hl : ctlLive (A.ws.getD wd.toNat 0) = true) (he : ctlEpoch (A.ws.getD wd.toNat 0) ≠ ep) :
    Ctr Tryd.prog 15 #[vP g, vP ba] [Ee565f g c cl ep sl wd (.func (.func 74) #[vP g] #[]) sn bk fl cm er, Ed5fc1 ba A, E5552f A] (Ret (.bool true) [Ee565f g c cl ep sl wd (.nilFunc) (A.ws.getD wd.toNat 0) 0 (fl + 1) ((A.load wd).steps) (.iface 49 (vI 22)), Ed5fc1 ba (A.load wd), E5552f (A.load wd)]) := by
  refine ctr_of (args := [vP g, vP ba]) (fn := Tryd.f15) (body := B15) (nt := 16) Tryd.func15 (by kernel_rfl) (by kernel_rfl) ?_
  intro F
  refine go_exec (rs := [.tmp 4]) (by kernel_rfl) 4000 [.z [0, 0, 1] 1 [0, 1, 5]] (o := .stop [.o [0, 0, 1] 1, .c [1, 0, 1], .c [1, 1]] [(0, vP g), (1, vP ba), (5, vP g)] [Ee565f g c cl ep sl wd (.func (.func 74) #[vP g] #[]) sn bk fl cm er, Ed5fc1 ba A, E5552f A]) (by kernel_rfl) ?_
  refine ok_stop ?_
  refine go_call (some 6) [0] Tryd.call14 (gDone3 c g cl ep sl wd sn bk fl cm er) (by kernel_rfl) ?_
  rintro v post ⟨rfl, rfl⟩
  refine go_exec (rs := [.tmp 4]) (by kernel_rfl) 4000 [.e 2, .z [0, 1, 0, 1] 5 [0, 11, 12]] (o := .obl (g = g) (.stop [.o [0, 1, 0, 1] 5, .c [1, 1]] [(0, vP g), (11, .func (.func 74) #[vP g] #[]), (12, vP ba)] [Ed5fc1 ba A, E5552f A, Ee565f g c cl ep sl wd (.func (.func 74) #[vP g] #[]) sn bk fl cm er])) (by kernel_rfl) ?_
  refine ok_obl rfl ?_
  refine ok_stop ?_
  refine go_call (some 13) [2, 0, 1] Tryd.call74 (gThirdP c g ba cl ep sl wd sn bk fl cm (.func (.func 74) #[vP g] #[]) er A (by first | assumption | omega | (simp only [InK] at *; omega)) (by first | assumption | omega | (simp only [InK] at *; omega)) (by first | assumption | omega | (simp only [InK] at *; omega)) (by first | assumption | omega | (simp only [InK] at *; omega)) (by first | assumption | omega | (simp only [InK] at *; omega)) (by first | assumption | omega | (simp only [InK] at *; omega)) (by first | assumption | omega | (simp only [InK] at *; omega)) (by first | assumption | omega | (simp only [InK] at *; omega)) (by first | assumption | omega | (simp only [InK] at *; omega))) (by kernel_rfl) ?_
  rintro v post ⟨rfl, rfl⟩
  refine go_exec (rs := [.tmp 4]) (by kernel_rfl) 4000 [.z [0, 1, 1] 1 [14]] (o := .stop [.o [0, 1, 1] 1, .c [1, 1, 1]] [(14, vP g)] [Ee565f g c cl ep sl wd (.nilFunc) (A.ws.getD wd.toNat 0) 0 (fl + 1) ((A.load wd).steps) (.iface 49 (vI 22)), Ed5fc1 ba (A.load wd), E5552f (A.load wd)]) (by kernel_rfl) ?_
  refine ok_stop ?_
  refine go_call (some 15) [0] Tryd.call14 (gDone0 c g cl ep sl wd (A.ws.getD wd.toNat 0) 0 (fl + 1) ((A.load wd).steps) (.iface 49 (vI 22))) (by kernel_rfl) ?_
  rintro v post ⟨rfl, rfl⟩
  refine go_exec (rs := [.tmp 4]) (by kernel_rfl) 4000 [] (o := .ret (.bool true) [Ed5fc1 ba (A.load wd), E5552f (A.load wd), Ee565f g c cl ep sl wd (.nilFunc) (A.ws.getD wd.toNat 0) 0 (fl + 1) ((A.load wd).steps) (.iface 49 (vI 22))]) (by kernel_rfl) ?_
  exact ret_ok (post := [Ee565f g c cl ep sl wd (.nilFunc) (A.ws.getD wd.toNat 0) 0 (fl + 1) ((A.load wd).steps) (.iface 49 (vI 22)), Ed5fc1 ba (A.load wd), E5552f (A.load wd)]) [2, 0, 1] (by kernel_rfl) ⟨rfl, (by kernel_rfl)⟩


theorem gStep3E (c : Cfg) (g ba : Nat) (cl ep sl wd sn bk fl cm : Int) (er : Value) (A : Ar) (hn : A.ws.length = A.n) (hs : 0 ≤ A.steps ∧ A.steps ≤ 1000000000) (hwd : 0 ≤ wd ∧ wd < A.n) (hw : U64 (A.ws.getD wd.toNat 0)) (hf0 : 0 ≤ fl ∧ fl ≤ 1000) (hq : (A.ws.getD wd.toNat 0) ≠ sn) (hr : fl + 1 ≠ c.retry) (hl : ctlLive (A.ws.getD wd.toNat 0) = true) (he : ctlEpoch (A.ws.getD wd.toNat 0) = ep) (hb : ctlBlock (A.ws.getD wd.toNat 0) = 0) :
    Ctr Tryd.prog 15 #[vP g, vP ba] [Ee565f g c cl ep sl wd (.func (.func 74) #[vP g] #[]) sn bk fl cm er, Ed5fc1 ba A, E5552f A] (Ret (.bool true) [Ee565f g c cl ep sl wd (.nilFunc) (A.ws.getD wd.toNat 0) 0 (fl + 1) ((A.load wd).steps) (.iface 49 (vI 20)), Ed5fc1 ba (A.load wd), E5552f (A.load wd)]) := by
  refine ctr_of (args := [vP g, vP ba]) (fn := Tryd.f15) (body := B15) (nt := 16) Tryd.func15 (by kernel_rfl) (by kernel_rfl) ?_
  intro F
  refine go_exec (rs := [.tmp 4]) (by kernel_rfl) 4000 [.z [0, 0, 1] 1 [0, 1, 5]] (o := .stop [.o [0, 0, 1] 1, .c [1, 0, 1], .c [1, 1]] [(0, vP g), (1, vP ba), (5, vP g)] [Ee565f g c cl ep sl wd (.func (.func 74) #[vP g] #[]) sn bk fl cm er, Ed5fc1 ba A, E5552f A]) (by kernel_rfl) ?_
  refine ok_stop ?_
  refine go_call (some 6) [0] Tryd.call14 (gDone3 c g cl ep sl wd sn bk fl cm er) (by kernel_rfl) ?_
  rintro v post ⟨rfl, rfl⟩
  refine go_exec (rs := [.tmp 4]) (by kernel_rfl) 4000 [.e 2, .z [0, 1, 0, 1] 5 [0, 11, 12]] (o := .obl (g = g) (.stop [.o [0, 1, 0, 1] 5, .c [1, 1]] [(0, vP g), (11, .func (.func 74) #[vP g] #[]), (12, vP ba)] [Ed5fc1 ba A, E5552f A, Ee565f g c cl ep sl wd (.func (.func 74) #[vP g] #[]) sn bk fl cm er])) (by kernel_rfl) ?_
  refine ok_obl rfl ?_
  refine ok_stop ?_
  refine go_call (some 13) [2, 0, 1] Tryd.call74 (gThirdE c g ba cl ep sl wd sn bk fl cm (.func (.func 74) #[vP g] #[]) er A (by first | assumption | omega | (simp only [InK] at *; omega)) (by first | assumption | omega | (simp only [InK] at *; omega)) (by first | assumption | omega | (simp only [InK] at *; omega)) (by first | assumption | omega | (simp only [InK] at *; omega)) (by first | assumption | omega | (simp only [InK] at *; omega)) (by first | assumption | omega | (simp only [InK] at *; omega)) (by first | assumption | omega | (simp only [InK] at *; omega)) (by first | assumption | omega | (simp only [InK] at *; omega)) (by first | assumption | omega | (simp only [InK] at *; omega)) (by first | assumption | omega | (simp only [InK] at *; omega))) (by kernel_rfl) ?_
  rintro v post ⟨rfl, rfl⟩
  refine go_exec (rs := [.tmp 4]) (by kernel_rfl) 4000 [.z [0, 1, 1] 1 [14]] (o := .stop [.o [0, 1, 1] 1, .c [1, 1, 1]] [(14, vP g)] [Ee565f g c cl ep sl wd (.nilFunc) (A.ws.getD wd.toNat 0) 0 (fl + 1) ((A.load wd).steps) (.iface 49 (vI 20)), Ed5fc1 ba (A.load wd), E5552f (A.load wd)]) (by kernel_rfl) ?_
  refine ok_stop ?_
  refine go_call (some 15) [0] Tryd.call14 (gDone0 c g cl ep sl wd (A.ws.getD wd.toNat 0) 0 (fl + 1) ((A.load wd).steps) (.iface 49 (vI 20))) (by kernel_rfl) ?_
  rintro v post ⟨rfl, rfl⟩
  refine go_exec (rs := [.tmp 4]) (by kernel_rfl) 4000 [] (o := .ret (.bool true) [Ed5fc1 ba (A.load wd), E5552f (A.load wd), Ee565f g c cl ep sl wd (.nilFunc) (A.ws.getD wd.toNat 0) 0 (fl + 1) ((A.load wd).steps) (.iface 49 (vI 20))]) (by kernel_rfl) ?_
  exact ret_ok (post := [Ee565f g c cl ep sl wd (.nilFunc) (A.ws.getD wd.toNat 0) 0 (fl + 1) ((A.load wd).steps) (.iface 49 (vI 20)), Ed5fc1 ba (A.load wd), E5552f (A.load wd)]) [2, 0, 1] (by kernel_rfl) ⟨rfl, (by kernel_rfl)⟩


theorem gStep3N (c : Cfg) (g ba : Nat) (cl ep sl wd sn bk fl cm : Int) (er : Value) (A : Ar) (hn : A.ws.length = A.n) (hs : 0 ≤ A.steps ∧ A.steps ≤ 1000000000) (hwd : 0 ≤ wd ∧ wd < A.n) (hw : U64 (A.ws.getD wd.toNat 0)) (hf0 : 0 ≤ fl ∧ fl ≤ 1000) (hq : (A.ws.getD wd.toNat 0) ≠ sn) (hr : fl + 1 ≠ c.retry) (hl : ctlLive (A.ws.getD wd.toNat 0) = true) (he : ctlEpoch (A.ws.getD wd.toNat 0) = ep) (hb : ctlBlock (A.ws.getD wd.toNat 0) ≠ 0) :
    Ctr Tryd.prog 15 #[vP g, vP ba] [Ee565f g c cl ep sl wd (.func (.func 74) #[vP g] #[]) sn bk fl cm er, Ed5fc1 ba A, E5552f A] (Ret (.bool false) [Ee565f g c cl ep sl wd (.func (.func 65) #[vP g] #[]) (A.ws.getD wd.toNat 0) (ctlBlock (A.ws.getD wd.toNat 0)) (fl + 1) ((A.load wd).steps) er, Ed5fc1 ba (A.load wd), E5552f (A.load wd)]) := by
  refine ctr_of (args := [vP g, vP ba]) (fn := Tryd.f15) (body := B15) (nt := 16) Tryd.func15 (by kernel_rfl) (by kernel_rfl) ?_
  intro F
  refine go_exec (rs := [.tmp 4]) (by kernel_rfl) 4000 [.z [0, 0, 1] 1 [0, 1, 5]] (o := .stop [.o [0, 0, 1] 1, .c [1, 0, 1], .c [1, 1]] [(0, vP g), (1, vP ba), (5, vP g)] [Ee565f g c cl ep sl wd (.func (.func 74) #[vP g] #[]) sn bk fl cm er, Ed5fc1 ba A, E5552f A]) (by kernel_rfl) ?_
  refine ok_stop ?_
  refine go_call (some 6) [0] Tryd.call14 (gDone3 c g cl ep sl wd sn bk fl cm er) (by kernel_rfl) ?_
  rintro v post ⟨rfl, rfl⟩
  refine go_exec (rs := [.tmp 4]) (by kernel_rfl) 4000 [.e 2, .z [0, 1, 0, 1] 5 [0, 11, 12]] (o := .obl (g = g) (.stop [.o [0, 1, 0, 1] 5, .c [1, 1]] [(0, vP g), (11, .func (.func 74) #[vP g] #[]), (12, vP ba)] [Ed5fc1 ba A, E5552f A, Ee565f g c cl ep sl wd (.func (.func 74) #[vP g] #[]) sn bk fl cm er])) (by kernel_rfl) ?_
  refine ok_obl rfl ?_
  refine ok_stop ?_
  refine go_call (some 13) [2, 0, 1] Tryd.call74 (gThirdN c g ba cl ep sl wd sn bk fl cm (.func (.func 74) #[vP g] #[]) er A (by first | assumption | omega | (simp only [InK] at *; omega)) (by first | assumption | omega | (simp only [InK] at *; omega)) (by first | assumption | omega | (simp only [InK] at *; omega)) (by first | assumption | omega | (simp only [InK] at *; omega)) (by first | assumption | omega | (simp only [InK] at *; omega)) (by first | assumption | omega | (simp only [InK] at *; omega)) (by first | assumption | omega | (simp only [InK] at *; omega)) (by first | assumption | omega | (simp only [InK] at *; omega)) (by first | assumption | omega | (simp only [InK] at *; omega)) (by first | assumption | omega | (simp only [InK] at *; omega))) (by kernel_rfl) ?_
  rintro v post ⟨rfl, rfl⟩
  refine go_exec (rs := [.tmp 4]) (by kernel_rfl) 4000 [.z [0, 1, 1] 1 [14]] (o := .stop [.o [0, 1, 1] 1, .c [1, 1, 1]] [(14, vP g)] [Ee565f g c cl ep sl wd (.func (.func 65) #[vP g] #[]) (A.ws.getD wd.toNat 0) (ctlBlock (A.ws.getD wd.toNat 0)) (fl + 1) ((A.load wd).steps) er, Ed5fc1 ba (A.load wd), E5552f (A.load wd)]) (by kernel_rfl) ?_
  refine ok_stop ?_
  refine go_call (some 15) [0] Tryd.call14 (gDone2 c g cl ep sl wd (A.ws.getD wd.toNat 0) (ctlBlock (A.ws.getD wd.toNat 0)) (fl + 1) ((A.load wd).steps) er) (by kernel_rfl) ?_
  rintro v post ⟨rfl, rfl⟩
  refine go_exec (rs := [.tmp 4]) (by kernel_rfl) 4000 [] (o := .ret (.bool false) [Ed5fc1 ba (A.load wd), E5552f (A.load wd), Ee565f g c cl ep sl wd (.func (.func 65) #[vP g] #[]) (A.ws.getD wd.toNat 0) (ctlBlock (A.ws.getD wd.toNat 0)) (fl + 1) ((A.load wd).steps) er]) (by kernel_rfl) ?_
  exact ret_ok (post := [Ee565f g c cl ep sl wd (.func (.func 65) #[vP g] #[]) (A.ws.getD wd.toNat 0) (ctlBlock (A.ws.getD wd.toNat 0)) (fl + 1) ((A.load wd).steps) er, Ed5fc1 ba (A.load wd), E5552f (A.load wd)]) [2, 0, 1] (by kernel_rfl) ⟨rfl, (by kernel_rfl)⟩

end Go.Proofs.YtilaihbbollcnaaDoor


namespace Go.Proofs.YtilaihbbollcnaaDoor
open Go.Sx

/-- the step that is next -/
noncomputable def nxG (g : Nat) : Nat → Value
  | 1 => .func (.func 40) #[vP g] #[]
  | 2 => .func (.func 65) #[vP g] #[]
  | 3 => .func (.func 74) #[vP g] #[]
  | _ => .nilFunc

theorem guard_Step (c : Cfg) (g ba : Nat) (G : Gu) (A : Ar) (hc : c.Ok) (hn : A.ws.length = A.n) (hs : 0 ≤ A.steps ∧ A.steps ≤ 1000000000) (hR : RngW A.ws) (hG : Gu.Ok c A.n G) :
    Ctr Tryd.prog 15 #[vP g, vP ba] [Ee565f g c G.client G.epoch G.slot G.word (nxG g G.ph) G.seen G.block G.failed G.commit (errV G.code), Ed5fc1 ba A, E5552f A] (Ret (.bool ((G.step c.retry A).1.ph == 0)) [Ee565f g c ((G.step c.retry A).1.client) ((G.step c.retry A).1.epoch) ((G.step c.retry A).1.slot) ((G.step c.retry A).1.word) (nxG g (G.step c.retry A).1.ph) ((G.step c.retry A).1.seen) ((G.step c.retry A).1.block) ((G.step c.retry A).1.failed) ((G.step c.retry A).1.commit) (errV (G.step c.retry A).1.code), Ed5fc1 ba ((G.step c.retry A).2), E5552f ((G.step c.retry A).2)]) := by
  obtain ⟨cl, ep, sl, wd, sn, bk, fl, cm, cd, ph⟩ := G
  obtain ⟨hph, hsl, hwd, hcl, hbk, hf0, _⟩ := hG
  simp only at hph hsl hwd hcl hbk hf0
  have hc' := hc
  simp only [Cfg.Ok] at hc'
  have hw : U64 (A.ws.getD wd.toNat 0) := hR _
  match ph, hph with
  | 0, _ => exact gStep0 c g ba cl ep sl wd sn bk fl cm (errV cd) A
  | 1, _ =>
    by_cases hl : ctlLive (A.ws.getD wd.toNat 0) = true
    · by_cases he : ctlEpoch (A.ws.getD wd.toNat 0) = ep
      · by_cases hb : ctlBlock (A.ws.getD wd.toNat 0) = 0
        · have e : Gu.step c.retry (⟨cl, ep, sl, wd, sn, bk, fl, cm, cd, 1⟩ : Gu) A = ((⟨cl, ep, sl, wd, (A.ws.getD wd.toNat 0), 0, fl, (A.load wd).steps, 20, 0⟩ : Gu), A.load wd) := by
            show (Gu.look _ _, _) = _
            rw [Gu.look_E _ hl he hb]
          rw [e]; exact gStep1E c g ba cl ep sl wd sn bk fl cm (errV cd) A hn hs hwd hw hl he hb
        · have e : Gu.step c.retry (⟨cl, ep, sl, wd, sn, bk, fl, cm, cd, 1⟩ : Gu) A = ((⟨cl, ep, sl, wd, (A.ws.getD wd.toNat 0), (ctlBlock (A.ws.getD wd.toNat 0)), fl, (A.load wd).steps, cd, 2⟩ : Gu), A.load wd) := by
            show (Gu.look _ _, _) = _
            rw [Gu.look_N _ hl he hb]
          rw [e]; exact gStep1N c g ba cl ep sl wd sn bk fl cm (errV cd) A hn hs hwd hw hl he hb
      · have e : Gu.step c.retry (⟨cl, ep, sl, wd, sn, bk, fl, cm, cd, 1⟩ : Gu) A = ((⟨cl, ep, sl, wd, (A.ws.getD wd.toNat 0), 0, fl, (A.load wd).steps, 22, 0⟩ : Gu), A.load wd) := by
          show (Gu.look _ _, _) = _
          rw [Gu.look_P _ he]
        rw [e]; exact gStep1P c g ba cl ep sl wd sn bk fl cm (errV cd) A hn hs hwd hw hl he
    · have hl := (Bool.not_eq_true _).mp hl
      have e : Gu.step c.retry (⟨cl, ep, sl, wd, sn, bk, fl, cm, cd, 1⟩ : Gu) A = ((⟨cl, ep, sl, wd, (A.ws.getD wd.toNat 0), 0, fl, (A.load wd).steps, 22, 0⟩ : Gu), A.load wd) := by
        show (Gu.look _ _, _) = _
        rw [Gu.look_D _ hl]
      rw [e]; exact gStep1D c g ba cl ep sl wd sn bk fl cm (errV cd) A hn hs hwd hw hl
  | 2, _ => exact gStep2 c g ba cl ep sl wd sn bk fl cm (errV cd) A hn hs hsl (by omega) hbk
  | 3, _ =>
    by_cases hq : (A.ws.getD wd.toNat 0) = sn
    · have e : Gu.step c.retry (⟨cl, ep, sl, wd, sn, bk, fl, cm, cd, 3⟩ : Gu) A = ((⟨cl, ep, sl, wd, sn, bk, fl, (A.load wd).steps, 0, 0⟩ : Gu), A.load wd) := by
        show (if _ then _ else _) = _
        rw [if_pos hq]
      rw [e]; exact gStep3K c g ba cl ep sl wd sn bk fl cm (errV cd) A hn hs hwd hw hf0 hq
    · by_cases hr : fl + 1 = c.retry
      · have e : Gu.step c.retry (⟨cl, ep, sl, wd, sn, bk, fl, cm, cd, 3⟩ : Gu) A = ((⟨cl, ep, sl, wd, sn, 0, (fl + 1), (A.load wd).steps, 17, 0⟩ : Gu), A.load wd) := by
          show (if _ then _ else _) = _
          rw [if_neg hq, if_pos hr]
        rw [e]; exact gStep3R c g ba cl ep sl wd sn bk fl cm (errV cd) A hn hs hwd hw hf0 hq hr
      · by_cases hl : ctlLive (A.ws.getD wd.toNat 0) = true
        · by_cases he : ctlEpoch (A.ws.getD wd.toNat 0) = ep
          · by_cases hb : ctlBlock (A.ws.getD wd.toNat 0) = 0
            · have e : Gu.step c.retry (⟨cl, ep, sl, wd, sn, bk, fl, cm, cd, 3⟩ : Gu) A = ((⟨cl, ep, sl, wd, (A.ws.getD wd.toNat 0), 0, (fl + 1), (A.load wd).steps, 20, 0⟩ : Gu), A.load wd) := by
                show (if _ then _ else _) = _
                rw [if_neg hq, if_neg hr, Gu.look_E _ hl he hb]
              rw [e]; exact gStep3E c g ba cl ep sl wd sn bk fl cm (errV cd) A hn hs hwd hw hf0 hq hr hl he hb
            · have e : Gu.step c.retry (⟨cl, ep, sl, wd, sn, bk, fl, cm, cd, 3⟩ : Gu) A = ((⟨cl, ep, sl, wd, (A.ws.getD wd.toNat 0), (ctlBlock (A.ws.getD wd.toNat 0)), (fl + 1), (A.load wd).steps, cd, 2⟩ : Gu), A.load wd) := by
                show (if _ then _ else _) = _
                rw [if_neg hq, if_neg hr, Gu.look_N _ hl he hb]
              rw [e]; exact gStep3N c g ba cl ep sl wd sn bk fl cm (errV cd) A hn hs hwd hw hf0 hq hr hl he hb
          · have e : Gu.step c.retry (⟨cl, ep, sl, wd, sn, bk, fl, cm, cd, 3⟩ : Gu) A = ((⟨cl, ep, sl, wd, (A.ws.getD wd.toNat 0), 0, (fl + 1), (A.load wd).steps, 22, 0⟩ : Gu), A.load wd) := by
              show (if _ then _ else _) = _
              rw [if_neg hq, if_neg hr, Gu.look_P _ he]
            rw [e]; exact gStep3P c g ba cl ep sl wd sn bk fl cm (errV cd) A hn hs hwd hw hf0 hq hr hl he
        · have hl := (Bool.not_eq_true _).mp hl
          have e : Gu.step c.retry (⟨cl, ep, sl, wd, sn, bk, fl, cm, cd, 3⟩ : Gu) A = ((⟨cl, ep, sl, wd, (A.ws.getD wd.toNat 0), 0, (fl + 1), (A.load wd).steps, 22, 0⟩ : Gu), A.load wd) := by
            show (if _ then _ else _) = _
            rw [if_neg hq, if_neg hr, Gu.look_D _ hl]
          rw [e]; exact gStep3D c g ba cl ep sl wd sn bk fl cm (errV cd) A hn hs hwd hw hf0 hq hr hl
  | n + 4, h => omega


theorem guard_Done (c : Cfg) (g : Nat) (G : Gu) (hph : G.ph ≤ 3) :
    Ctr Tryd.prog 14 #[vP g] [Ee565f g c G.client G.epoch G.slot G.word (nxG g G.ph) G.seen G.block G.failed G.commit (errV G.code)] (Ret (.bool (G.ph == 0)) [Ee565f g c G.client G.epoch G.slot G.word (nxG g G.ph) G.seen G.block G.failed G.commit (errV G.code)]) := by
  obtain ⟨cl, ep, sl, wd, sn, bk, fl, cm, cd, ph⟩ := G
  simp only at hph
  match ph, hph with
  | 0, _ => exact gDone0 c g cl ep sl wd sn bk fl cm (errV cd)
  | 1, _ => exact gDone1 c g cl ep sl wd sn bk fl cm (errV cd)
  | 2, _ => exact gDone2 c g cl ep sl wd sn bk fl cm (errV cd)
  | 3, _ => exact gDone3 c g cl ep sl wd sn bk fl cm (errV cd)
  | n + 4, h => omega

noncomputable def B16 : Code := (Tryd.f16.body).getD .skip

theorem gTold0 (c : Cfg) (g : Nat) (cl ep sl wd sn bk fl cm : Int) (er : Value)  :
    Ctr Tryd.prog 16 #[vP g] [Ee565f g c cl ep sl wd (.nilFunc) sn bk fl cm er] (Ret (.tuple #[vI bk, er]) [Ee565f g c cl ep sl wd (.nilFunc) sn bk fl cm er]) := by
  refine ctr_of (args := [vP g]) (fn := Tryd.f16) (body := B16) (nt := 21) Tryd.func16 (by kernel_rfl) (by kernel_rfl) ?_
  intro F
  refine go_exec (rs := [.tmp 2, .tmp 3]) (by kernel_rfl) 4000 [.z [0, 1, 1, 0, 0, 1] 1 [0, 9]] (o := .stop [.o [0, 1, 1, 0, 0, 1] 1, .c [1, 1, 1, 0, 0, 1], .b 0, .c [1, 1]] [(0, vP g), (9, vP g)] [Ee565f g c cl ep sl wd (.nilFunc) sn bk fl cm er]) (by kernel_rfl) ?_
  refine ok_stop ?_
  refine go_call (some 10) [0] Tryd.call14 (gDone0 c g cl ep sl wd sn bk fl cm er) (by kernel_rfl) ?_
  rintro v post ⟨rfl, rfl⟩
  refine go_exec (rs := [.tmp 2, .tmp 3]) (by kernel_rfl) 4000 [.z [0, 1, 1] 0 [0]] (o := .stop [.c [0, 1, 1], .c [1, 1, 1]] [(0, vP g)] [Ee565f g c cl ep sl wd (.nilFunc) sn bk fl cm er]) (by kernel_rfl) ?_
  refine ok_stop ?_
  refine go_quiet (tm' := [(2, vI bk), (3, er)]) (ps := [g = g, g = g]) (cs := []) [(0, .h .w), (1, .h .w), (2, .h .w), (3, .h (.e 0)), (4, .h .w), (5, .h .w), (6, .h .w), (7, .h (.e 0)), (8, .h .w), (9, .h .w)] [2, 3] (by kernel_rfl) (by kernel_rfl) ⟨rfl, rfl, trivial⟩ trivial ?_
  refine go_exec (rs := [.tmp 2, .tmp 3]) (by kernel_rfl) 4000 [] (o := .ret (.tuple #[vI bk, er]) [Ee565f g c cl ep sl wd (.nilFunc) sn bk fl cm er]) (by kernel_rfl) ?_
  exact ret_ok (post := [Ee565f g c cl ep sl wd (.nilFunc) sn bk fl cm er]) [0] (by kernel_rfl) ⟨rfl, (by kernel_rfl)⟩


theorem gTold1 (c : Cfg) (g : Nat) (cl ep sl wd sn bk fl cm : Int) (er : Value)  :
    Ctr Tryd.prog 16 #[vP g] [Ee565f g c cl ep sl wd (.func (.func 40) #[vP g] #[]) sn bk fl cm er] (Ret (.tuple #[vI 0, .iface 49 (vI 13)]) [Ee565f g c cl ep sl wd (.func (.func 40) #[vP g] #[]) sn bk fl cm er]) := by
  refine ctr_of (args := [vP g]) (fn := Tryd.f16) (body := B16) (nt := 21) Tryd.func16 (by kernel_rfl) (by kernel_rfl) ?_
  intro F
  refine go_exec (rs := [.tmp 2, .tmp 3]) (by kernel_rfl) 4000 [.z [0, 1, 1, 0, 0, 1] 1 [0, 9]] (o := .stop [.o [0, 1, 1, 0, 0, 1] 1, .c [1, 1, 1, 0, 0, 1], .b 0, .c [1, 1]] [(0, vP g), (9, vP g)] [Ee565f g c cl ep sl wd (.func (.func 40) #[vP g] #[]) sn bk fl cm er]) (by kernel_rfl) ?_
  refine ok_stop ?_
  refine go_call (some 10) [0] Tryd.call14 (gDone1 c g cl ep sl wd sn bk fl cm er) (by kernel_rfl) ?_
  rintro v post ⟨rfl, rfl⟩
  refine go_exec (rs := [.tmp 2, .tmp 3]) (by kernel_rfl) 4000 [.z [0, 0, 1, 1, 1, 0, 0, 1] 0 []] (o := .stop [.o [0, 0, 1, 1, 1, 0, 0, 1] 0, .c [1, 0, 1, 1, 1, 0, 0, 1], .b 0, .c [1, 1]] [] [Ee565f g c cl ep sl wd (.func (.func 40) #[vP g] #[]) sn bk fl cm er]) (by kernel_rfl) ?_
  refine ok_stop ?_
  refine go_call (some 12) [] Tryd.call41 (cause_NewE 13 (by decide)) (by kernel_rfl) ?_
  rintro v post ⟨rfl, rfl⟩
  refine go_exec (rs := [.tmp 2, .tmp 3]) (by kernel_rfl) 4000 [] (o := .ret (.tuple #[vI 0, .iface 49 (vI 13)]) [Ee565f g c cl ep sl wd (.func (.func 40) #[vP g] #[]) sn bk fl cm er]) (by kernel_rfl) ?_
  exact ret_ok (post := [Ee565f g c cl ep sl wd (.func (.func 40) #[vP g] #[]) sn bk fl cm er]) [0] (by kernel_rfl) ⟨rfl, (by kernel_rfl)⟩


theorem gTold2 (c : Cfg) (g : Nat) (cl ep sl wd sn bk fl cm : Int) (er : Value)  :
    Ctr Tryd.prog 16 #[vP g] [Ee565f g c cl ep sl wd (.func (.func 65) #[vP g] #[]) sn bk fl cm er] (Ret (.tuple #[vI 0, .iface 49 (vI 13)]) [Ee565f g c cl ep sl wd (.func (.func 65) #[vP g] #[]) sn bk fl cm er]) := by
  refine ctr_of (args := [vP g]) (fn := Tryd.f16) (body := B16) (nt := 21) Tryd.func16 (by kernel_rfl) (by kernel_rfl) ?_
  intro F
  refine go_exec (rs := [.tmp 2, .tmp 3]) (by kernel_rfl) 4000 [.z [0, 1, 1, 0, 0, 1] 1 [0, 9]] (o := .stop [.o [0, 1, 1, 0, 0, 1] 1, .c [1, 1, 1, 0, 0, 1], .b 0, .c [1, 1]] [(0, vP g), (9, vP g)] [Ee565f g c cl ep sl wd (.func (.func 65) #[vP g] #[]) sn bk fl cm er]) (by kernel_rfl) ?_
  refine ok_stop ?_
  refine go_call (some 10) [0] Tryd.call14 (gDone2 c g cl ep sl wd sn bk fl cm er) (by kernel_rfl) ?_
  rintro v post ⟨rfl, rfl⟩
  refine go_exec (rs := [.tmp 2, .tmp 3]) (by kernel_rfl) 4000 [.z [0, 0, 1, 1, 1, 0, 0, 1] 0 []] (o := .stop [.o [0, 0, 1, 1, 1, 0, 0, 1] 0, .c [1, 0, 1, 1, 1, 0, 0, 1], .b 0, .c [1, 1]] [] [Ee565f g c cl ep sl wd (.func (.func 65) #[vP g] #[]) sn bk fl cm er]) (by kernel_rfl) ?_
  refine ok_stop ?_
  refine go_call (some 12) [] Tryd.call41 (cause_NewE 13 (by decide)) (by kernel_rfl) ?_
  rintro v post ⟨rfl, rfl⟩
  refine go_exec (rs := [.tmp 2, .tmp 3]) (by kernel_rfl) 4000 [] (o := .ret (.tuple #[vI 0, .iface 49 (vI 13)]) [Ee565f g c cl ep sl wd (.func (.func 65) #[vP g] #[]) sn bk fl cm er]) (by kernel_rfl) ?_
  exact ret_ok (post := [Ee565f g c cl ep sl wd (.func (.func 65) #[vP g] #[]) sn bk fl cm er]) [0] (by kernel_rfl) ⟨rfl, (by kernel_rfl)⟩


theorem gTold3 (c : Cfg) (g : Nat) (cl ep sl wd sn bk fl cm : Int) (er : Value)  :
    Ctr Tryd.prog 16 #[vP g] [Ee565f g c cl ep sl wd (.func (.func 74) #[vP g] #[]) sn bk fl cm er] (Ret (.tuple #[vI 0, .iface 49 (vI 13)]) [Ee565f g c cl ep sl wd (.func (.func 74) #[vP g] #[]) sn bk fl cm er]) := by
  refine ctr_of (args := [vP g]) (fn := Tryd.f16) (body := B16) (nt := 21) Tryd.func16 (by kernel_rfl) (by kernel_rfl) ?_
  intro F
  refine go_exec (rs := [.tmp 2, .tmp 3]) (by kernel_rfl) 4000 [.z [0, 1, 1, 0, 0, 1] 1 [0, 9]] (o := .stop [.o [0, 1, 1, 0, 0, 1] 1, .c [1, 1, 1, 0, 0, 1], .b 0, .c [1, 1]] [(0, vP g), (9, vP g)] [Ee565f g c cl ep sl wd (.func (.func 74) #[vP g] #[]) sn bk fl cm er]) (by kernel_rfl) ?_
  refine ok_stop ?_
  refine go_call (some 10) [0] Tryd.call14 (gDone3 c g cl ep sl wd sn bk fl cm er) (by kernel_rfl) ?_
  rintro v post ⟨rfl, rfl⟩
  refine go_exec (rs := [.tmp 2, .tmp 3]) (by kernel_rfl) 4000 [.z [0, 0, 1, 1, 1, 0, 0, 1] 0 []] (o := .stop [.o [0, 0, 1, 1, 1, 0, 0, 1] 0, .c [1, 0, 1, 1, 1, 0, 0, 1], .b 0, .c [1, 1]] [] [Ee565f g c cl ep sl wd (.func (.func 74) #[vP g] #[]) sn bk fl cm er]) (by kernel_rfl) ?_
  refine ok_stop ?_
  refine go_call (some 12) [] Tryd.call41 (cause_NewE 13 (by decide)) (by kernel_rfl) ?_
  rintro v post ⟨rfl, rfl⟩
  refine go_exec (rs := [.tmp 2, .tmp 3]) (by kernel_rfl) 4000 [] (o := .ret (.tuple #[vI 0, .iface 49 (vI 13)]) [Ee565f g c cl ep sl wd (.func (.func 74) #[vP g] #[]) sn bk fl cm er]) (by kernel_rfl) ?_
  exact ret_ok (post := [Ee565f g c cl ep sl wd (.func (.func 74) #[vP g] #[]) sn bk fl cm er]) [0] (by kernel_rfl) ⟨rfl, (by kernel_rfl)⟩


theorem gTold_nil   :
    Ctr Tryd.prog 16 #[.pointer none] [] (Ret (.tuple #[vI 0, .iface 49 (vI 1)]) []) := by
  refine ctr_of (args := [.pointer none]) (fn := Tryd.f16) (body := B16) (nt := 21) Tryd.func16 (by kernel_rfl) (by kernel_rfl) ?_
  intro F
  refine go_exec (rs := [.tmp 2, .tmp 3]) (by kernel_rfl) 4000 [.z [0, 0, 1, 0, 0, 1] 0 []] (o := .stop [.o [0, 0, 1, 0, 0, 1] 0, .c [1, 0, 1, 0, 0, 1], .b 0, .c [1, 1]] [] []) (by kernel_rfl) ?_
  refine ok_stop ?_
  refine go_call (some 7) [] Tryd.call41 (cause_NewE 1 (by decide)) (by kernel_rfl) ?_
  rintro v post ⟨rfl, rfl⟩
  refine go_exec (rs := [.tmp 2, .tmp 3]) (by kernel_rfl) 4000 [] (o := .ret (.tuple #[vI 0, .iface 49 (vI 1)]) []) (by kernel_rfl) ?_
  exact ret_ok (post := []) [] (by kernel_rfl) ⟨rfl, (by kernel_rfl)⟩


theorem guard_Told (c : Cfg) (g : Nat) (G : Gu) (hph : G.ph ≤ 3) :
    Ctr Tryd.prog 16 #[vP g] [Ee565f g c G.client G.epoch G.slot G.word (nxG g G.ph) G.seen G.block G.failed G.commit (errV G.code)] (Ret (.tuple #[vI ((Gu.told G).1), (errV (Gu.told G).2)]) [Ee565f g c G.client G.epoch G.slot G.word (nxG g G.ph) G.seen G.block G.failed G.commit (errV G.code)]) := by
  obtain ⟨cl, ep, sl, wd, sn, bk, fl, cm, cd, ph⟩ := G
  simp only at hph
  match ph, hph with
  | 0, _ => exact gTold0 c g cl ep sl wd sn bk fl cm (errV cd)
  | 1, _ => exact gTold1 c g cl ep sl wd sn bk fl cm (errV cd)
  | 2, _ => exact gTold2 c g cl ep sl wd sn bk fl cm (errV cd)
  | 3, _ => exact gTold3 c g cl ep sl wd sn bk fl cm (errV cd)
  | n + 4, h => omega

noncomputable def B18 : Code := (Tryd.f18.body).getD .skip

theorem gCommit0 (c : Cfg) (g : Nat) (cl ep sl wd sn bk fl cm : Int) (er : Value)  :
    Ctr Tryd.prog 18 #[vP g] [Ee565f g c cl ep sl wd (.nilFunc) sn bk fl cm er] (Ret (vI cm) [Ee565f g c cl ep sl wd (.nilFunc) sn bk fl cm er]) := by
  refine ctr_of (args := [vP g]) (fn := Tryd.f18) (body := B18) (nt := 14) Tryd.func18 (by kernel_rfl) (by kernel_rfl) ?_
  intro F
  refine go_exec (rs := [.tmp 2]) (by kernel_rfl) 4000 [.z [0, 0, 1] 4 [0, 5, 6]] (o := .stop [.o [0, 0, 1] 4, .c [1, 0, 1], .c [1, 1]] [(0, vP g), (5, .bool false), (6, vP g)] [Ee565f g c cl ep sl wd (.nilFunc) sn bk fl cm er]) (by kernel_rfl) ?_
  refine ok_stop ?_
  refine go_call (some 7) [0] Tryd.call14 (gDone0 c g cl ep sl wd sn bk fl cm er) (by kernel_rfl) ?_
  rintro v post ⟨rfl, rfl⟩
  refine go_exec (rs := [.tmp 2]) (by kernel_rfl) 4000 [.e 0] (o := .obl (g = g) (.ret (vI cm) [Ee565f g c cl ep sl wd (.nilFunc) sn bk fl cm er])) (by kernel_rfl) ?_
  refine ok_obl rfl ?_
  exact ret_ok (post := [Ee565f g c cl ep sl wd (.nilFunc) sn bk fl cm er]) [0] (by kernel_rfl) ⟨rfl, (by kernel_rfl)⟩


theorem gCommit1 (c : Cfg) (g : Nat) (cl ep sl wd sn bk fl cm : Int) (er : Value)  :
    Ctr Tryd.prog 18 #[vP g] [Ee565f g c cl ep sl wd (.func (.func 40) #[vP g] #[]) sn bk fl cm er] (Ret (vI 0) [Ee565f g c cl ep sl wd (.func (.func 40) #[vP g] #[]) sn bk fl cm er]) := by
  refine ctr_of (args := [vP g]) (fn := Tryd.f18) (body := B18) (nt := 14) Tryd.func18 (by kernel_rfl) (by kernel_rfl) ?_
  intro F
  refine go_exec (rs := [.tmp 2]) (by kernel_rfl) 4000 [.z [0, 0, 1] 4 [0, 5, 6]] (o := .stop [.o [0, 0, 1] 4, .c [1, 0, 1], .c [1, 1]] [(0, vP g), (5, .bool false), (6, vP g)] [Ee565f g c cl ep sl wd (.func (.func 40) #[vP g] #[]) sn bk fl cm er]) (by kernel_rfl) ?_
  refine ok_stop ?_
  refine go_call (some 7) [0] Tryd.call14 (gDone1 c g cl ep sl wd sn bk fl cm er) (by kernel_rfl) ?_
  rintro v post ⟨rfl, rfl⟩
  refine go_exec (rs := [.tmp 2]) (by kernel_rfl) 4000 [] (o := .ret (vI 0) [Ee565f g c cl ep sl wd (.func (.func 40) #[vP g] #[]) sn bk fl cm er]) (by kernel_rfl) ?_
  exact ret_ok (post := [Ee565f g c cl ep sl wd (.func (.func 40) #[vP g] #[]) sn bk fl cm er]) [0] (by kernel_rfl) ⟨rfl, (by kernel_rfl)⟩


theorem gCommit2 (c : Cfg) (g : Nat) (cl ep sl wd sn bk fl cm : Int) (er : Value)  :
    Ctr Tryd.prog 18 #[vP g] [Ee565f g c cl ep sl wd (.func (.func 65) #[vP g] #[]) sn bk fl cm er] (Ret (vI 0) [Ee565f g c cl ep sl wd (.func (.func 65) #[vP g] #[]) sn bk fl cm er]) := by
  refine ctr_of (args := [vP g]) (fn := Tryd.f18) (body := B18) (nt := 14) Tryd.func18 (by kernel_rfl) (by kernel_rfl) ?_
  intro F
  refine go_exec (rs := [.tmp 2]) (by kernel_rfl) 4000 [.z [0, 0, 1] 4 [0, 5, 6]] (o := .stop [.o [0, 0, 1] 4, .c [1, 0, 1], .c [1, 1]] [(0, vP g), (5, .bool false), (6, vP g)] [Ee565f g c cl ep sl wd (.func (.func 65) #[vP g] #[]) sn bk fl cm er]) (by kernel_rfl) ?_
  refine ok_stop ?_
  refine go_call (some 7) [0] Tryd.call14 (gDone2 c g cl ep sl wd sn bk fl cm er) (by kernel_rfl) ?_
  rintro v post ⟨rfl, rfl⟩
  refine go_exec (rs := [.tmp 2]) (by kernel_rfl) 4000 [] (o := .ret (vI 0) [Ee565f g c cl ep sl wd (.func (.func 65) #[vP g] #[]) sn bk fl cm er]) (by kernel_rfl) ?_
  exact ret_ok (post := [Ee565f g c cl ep sl wd (.func (.func 65) #[vP g] #[]) sn bk fl cm er]) [0] (by kernel_rfl) ⟨rfl, (by kernel_rfl)⟩


theorem gCommit3 (c : Cfg) (g : Nat) (cl ep sl wd sn bk fl cm : Int) (er : Value)  :
    Ctr Tryd.prog 18 #[vP g] [Ee565f g c cl ep sl wd (.func (.func 74) #[vP g] #[]) sn bk fl cm er] (Ret (vI 0) [Ee565f g c cl ep sl wd (.func (.func 74) #[vP g] #[]) sn bk fl cm er]) := by
  refine ctr_of (args := [vP g]) (fn := Tryd.f18) (body := B18) (nt := 14) Tryd.func18 (by kernel_rfl) (by kernel_rfl) ?_
  intro F
  refine go_exec (rs := [.tmp 2]) (by kernel_rfl) 4000 [.z [0, 0, 1] 4 [0, 5, 6]] (o := .stop [.o [0, 0, 1] 4, .c [1, 0, 1], .c [1, 1]] [(0, vP g), (5, .bool false), (6, vP g)] [Ee565f g c cl ep sl wd (.func (.func 74) #[vP g] #[]) sn bk fl cm er]) (by kernel_rfl) ?_
  refine ok_stop ?_
  refine go_call (some 7) [0] Tryd.call14 (gDone3 c g cl ep sl wd sn bk fl cm er) (by kernel_rfl) ?_
  rintro v post ⟨rfl, rfl⟩
  refine go_exec (rs := [.tmp 2]) (by kernel_rfl) 4000 [] (o := .ret (vI 0) [Ee565f g c cl ep sl wd (.func (.func 74) #[vP g] #[]) sn bk fl cm er]) (by kernel_rfl) ?_
  exact ret_ok (post := [Ee565f g c cl ep sl wd (.func (.func 74) #[vP g] #[]) sn bk fl cm er]) [0] (by kernel_rfl) ⟨rfl, (by kernel_rfl)⟩


theorem gCommit_nil   :
    Ctr Tryd.prog 18 #[.pointer none] [] (Ret (vI 0) []) := by
  refine ctr_of (args := [.pointer none]) (fn := Tryd.f18) (body := B18) (nt := 14) Tryd.func18 (by kernel_rfl) (by kernel_rfl) ?_
  intro F
  refine go_exec (rs := [.tmp 2]) (by kernel_rfl) 4000 [] (o := .ret (vI 0) []) (by kernel_rfl) ?_
  exact ret_ok (post := []) [] (by kernel_rfl) ⟨rfl, (by kernel_rfl)⟩


theorem guard_Commit (c : Cfg) (g : Nat) (G : Gu) (hph : G.ph ≤ 3) :
    Ctr Tryd.prog 18 #[vP g] [Ee565f g c G.client G.epoch G.slot G.word (nxG g G.ph) G.seen G.block G.failed G.commit (errV G.code)] (Ret (vI (Gu.comm G)) [Ee565f g c G.client G.epoch G.slot G.word (nxG g G.ph) G.seen G.block G.failed G.commit (errV G.code)]) := by
  obtain ⟨cl, ep, sl, wd, sn, bk, fl, cm, cd, ph⟩ := G
  simp only at hph
  match ph, hph with
  | 0, _ => exact gCommit0 c g cl ep sl wd sn bk fl cm (errV cd)
  | 1, _ => exact gCommit1 c g cl ep sl wd sn bk fl cm (errV cd)
  | 2, _ => exact gCommit2 c g cl ep sl wd sn bk fl cm (errV cd)
  | 3, _ => exact gCommit3 c g cl ep sl wd sn bk fl cm (errV cd)
  | n + 4, h => omega

noncomputable def B13 : Code := (Tryd.f13.body).getD .skip

theorem guard_New (c : Cfg) (cl sl tp ep : Int) (hc : c.Ok) (hcl : 0 ≤ cl ∧ cl < c.clients) (hsl : 0 ≤ sl ∧ sl < c.slots) (htp : 0 ≤ tp ∧ tp < c.topics) :
    Ctr Tryd.prog 13 #[cfgV c, vI cl, vI sl, vI tp, vI ep] [] (fun v L => ∃ (g : Nat), v = vP g ∧ L = [Ee565f g c ((newGu c cl sl tp ep).client) ((newGu c cl sl tp ep).epoch) ((newGu c cl sl tp ep).slot) ((newGu c cl sl tp ep).word) (nxG g (newGu c cl sl tp ep).ph) ((newGu c cl sl tp ep).seen) ((newGu c cl sl tp ep).block) ((newGu c cl sl tp ep).failed) ((newGu c cl sl tp ep).commit) (errV (newGu c cl sl tp ep).code)]) := by
  refine ctr_of (args := [cfgV c, vI cl, vI sl, vI tp, vI ep]) (fn := Tryd.f13) (body := B13) (nt := 46) Tryd.func13 (by kernel_rfl) (by kernel_rfl) ?_
  intro F
  refine go_exec (rs := [.tmp 10]) (by kernel_rfl) 4000 [.z [0, 1] 0 [1, 2, 3, 4, 5]] (o := .new fun b_1 => .stop [.c [0, 1], .c [1, 1]] [(1, vI cl), (2, vI sl), (3, vI tp), (4, vI ep), (5, vP b_1)] [Ee1539 b_1 c]) (by kernel_rfl) ?_
  refine ok_new fun b_1 => ?_
  refine ok_stop ?_
  refine go_tail_op (so := .new fun b_2 => .ok (.value (vP b_2)) [Ee1539 b_1 c, E52fd0 b_2 c cl ep (slotAt c sl) (ctlAt c tp) (.nilFunc) 0 0 0 0]) (dst := (some 22)) (ps := [b_1 = b_1, b_1 = b_1, b_1 = b_1]) (cs := [(20, #[cfgV c, vI sl], vI (slotAt c sl)), (11, #[cfgV c, vI tp], vI (ctlAt c tp))]) [(0, .h (.e 0)), (1, .h .w), (2, .h .w), (3, .h (.e 0)), (4, .h .w), (5, .q (vI (slotAt c sl))), (6, .h (.e 0)), (7, .h .w), (8, .q (vI (ctlAt c tp))), (9, .h .w)] 10 [(11, .h .w)] .w [1, 5, 11] (by kernel_rfl) (by kernel_rfl) ⟨rfl, rfl, rfl, trivial⟩ ⟨⟨Tryd.call20, quiet_of [] (plan_Slot c sl (by first | assumption | omega | (simp only [InK] at *; omega))) (by kernel_rfl) (by rintro v post ⟨rfl, rfl⟩; exact ⟨rfl, rfl⟩)⟩, ⟨Tryd.call11, quiet_of [] (plan_Control c tp (by first | assumption | omega | (simp only [InK] at *; omega))) (by kernel_rfl) (by rintro v post ⟨rfl, rfl⟩; exact ⟨rfl, rfl⟩)⟩, trivial⟩ ?_
  refine sat_new fun b_2 => ?_
  refine sat_value ?_
  refine tail_next (tm' := [(1, vI cl), (5, vP b_1), (11, vP b_2)]) (ps2 := []) (by kernel_rfl) trivial ?_
  refine go_exec (rs := [.tmp 10]) (by kernel_rfl) 4000 [.z [0, 0, 1, 1] 0 [1, 5, 11]] (o := .stop [.c [0, 0, 1, 1], .c [1, 0, 1, 1], .c [1, 1, 1]] [(1, vI cl), (5, vP b_1), (11, vP b_2)] [Ee1539 b_1 c, E52fd0 b_2 c cl ep (slotAt c sl) (ctlAt c tp) (.nilFunc) 0 0 0 0]) (by kernel_rfl) ?_
  refine ok_stop ?_
  refine go_quiet (tm' := [(11, vP b_2), (39, .bool false)]) (ps := [b_2 = b_2, b_2 = b_2, (decide ((bMin (bMin (slotAt c sl) (ctlAt c tp)) cl) < 0)) = false, b_1 = b_1, (decide (cl ≥ c.clients)) = false]) (cs := []) [(0, .h .w), (1, .h .w), (2, .h .w), (3, .h (.e 1)), (4, .h .w), (5, .h .w), (6, .h .w), (7, .h (.e 1)), (8, .h .w), (9, .h .w), (10, .h (.t false)), (11, .h .w), (12, .h .w), (13, .h .w), (14, .h (.e 0)), (15, .h (.t false)), (16, .h .w)] [11, 39] (by kernel_rfl) (by kernel_rfl) ⟨rfl, rfl, (decide_eq_false (by have h1 := ctlAt_pos hc htp; have h2 := slotAt_ok hc hsl; unfold bMin; (repeat' split) <;> omega)), rfl, (decide_eq_false (by omega)), trivial⟩ trivial ?_
  refine go_exec (rs := [.tmp 10]) (by kernel_rfl) 4000 [.e 1] (o := .obl (b_2 = b_2) (.ret (vP b_2) [Ee1539 b_1 c, E52fd0 b_2 c cl ep (slotAt c sl) (ctlAt c tp) (.func (.func 40) #[vP b_2] #[]) 0 0 0 0])) (by kernel_rfl) ?_
  refine ok_obl rfl ?_
  exact ret_ok (post := [E52fd0 b_2 c cl ep (slotAt c sl) (ctlAt c tp) (.func (.func 40) #[vP b_2] #[]) 0 0 0 0]) [1] (by kernel_rfl) ⟨b_2, rfl, (by kernel_rfl)⟩

end Go.Proofs.YtilaihbbollcnaaDoor


namespace Go.Proofs.YtilaihbbollcnaaDoor
open Go.Sx
abbrev E93487 (x0 : Nat) (x1 : Int) (x2 : Int) (x3 : Int) (x4 : Bool) (x5 : Bool) : Ent := .pts x0 [.int .i64 x1, .int .i64 x2, .int .i64 x3, .bool x4, .bool x5] 24
noncomputable def B8 : Code := (Tryd.f8.body).getD .skip

theorem law14_config (n : Int)  :
    Ctr Tryd.prog 8 #[vI n] [] (Ret (cfgV (cfgR n)) []) := by
  refine ctr_of (args := [vI n]) (fn := Tryd.f8) (body := B8) (nt := 8) Tryd.func8 (by kernel_rfl) (by kernel_rfl) ?_
  intro F
  refine go_exec (rs := [.cell 2 31]) (by kernel_rfl) 4000 [.n, .z [0, 1] 4 [2, 6]] (o := .new fun b_1 => .obl (InK .i64 (1 + (bAnd .i64 n 7))) (.new fun b_2 => .stop [.o [0, 1] 4, .c [1, 1]] [(2, vP b_1), (6, .slice (some ⟨b_2, 0, none⟩) 9 9)] [E33767 b_1 0 0 0 0 0 0 0 0 0, Ed155d b_2 2 4 2 2 (1 + (bAnd .i64 n 7)) 4 3 6 2])) (by kernel_rfl) ?_
  refine ok_new fun b_1 => ?_
  refine ok_obl (by have := and7 n; simp only [InK]; omega) ?_
  refine ok_new fun b_2 => ?_
  refine ok_stop ?_
  refine go_call (some 7) [1] Tryd.call25 (ref_Of b_2 2 4 2 2 (1 + (bAnd .i64 n 7)) 4 3 6 2) (by kernel_rfl) ?_
  rintro v post ⟨rfl, rfl⟩
  refine go_exec (rs := [.cell 2 31]) (by kernel_rfl) 4000 [.e 0, .e 0] (o := .obl (b_1 = b_1) (.obl (b_1 = b_1) (.ret (.agg #[vI 2, vI 4, vI 2, vI 2, vI 4, vI 3, vI 6, vI 2, vI (1 + (bAnd .i64 n 7))]) [E33767 b_1 2 4 2 2 4 3 6 2 (1 + (bAnd .i64 n 7)), Ed155d b_2 2 4 2 2 (1 + (bAnd .i64 n 7)) 4 3 6 2]))) (by kernel_rfl) ?_
  refine ok_obl rfl ?_
  refine ok_obl rfl ?_
  exact ret_ok (post := []) [] (by kernel_rfl) ⟨rfl, (by kernel_rfl)⟩

noncomputable def B12 : Code := (Tryd.f12.body).getD .skip

theorem law14_word (e_ g_ k_ : Int) (l_ b_ : Bool)  :
    Ctr Tryd.prog 12 #[.agg #[vI e_, vI g_, vI k_, .bool l_, .bool b_]] [] (Ret (vU (ctlW e_ g_ k_ l_ b_)) []) := by
  refine ctr_of (args := [.agg #[vI e_, vI g_, vI k_, .bool l_, .bool b_]]) (fn := Tryd.f12) (body := B12) (nt := 18) Tryd.func12 (by kernel_rfl) (by kernel_rfl) ?_
  intro F
  refine go_exec (rs := [.tmp 2]) (by kernel_rfl) 4000 [.e 0, .e 0, .e 0, .e 0, .e 0, .z [0, 1] 14 [16]] (o := .new fun b_1 => .obl (b_1 = b_1) (.obl (b_1 = b_1) (.obl (b_1 = b_1) (.obl (b_1 = b_1) (.obl (b_1 = b_1) (.stop [.o [0, 1] 14, .c [1, 1]] [(16, .agg #[vI (bAnd .i64 e_ 3), vI (bAnd .i64 g_ 7), vI (bAnd .i64 k_ 3), .bool l_, .bool b_])] [E93487 b_1 e_ g_ k_ l_ b_])))))) (by kernel_rfl) ?_
  refine ok_new fun b_1 => ?_
  refine ok_obl rfl ?_
  refine ok_obl rfl ?_
  refine ok_obl rfl ?_
  refine ok_obl rfl ?_
  refine ok_obl rfl ?_
  refine ok_stop ?_
  refine go_call (some 17) [] Tryd.call39 (r13_Pack (bAnd .i64 e_ 3) (bAnd .i64 g_ 7) (bAnd .i64 k_ 3) l_ b_ (by have := and3 e_; omega) (by have := and7 g_; omega) (by have := and3 k_; omega)) (by kernel_rfl) ?_
  rintro v post ⟨rfl, rfl⟩
  refine go_exec (rs := [.tmp 2]) (by kernel_rfl) 4000 [] (o := .ret (vU (packW3 (bAnd .i64 e_ 3) (flagI l_) (flagI b_) (bAnd .i64 g_ 7) (bAnd .i64 k_ 3))) [E93487 b_1 e_ g_ k_ l_ b_]) (by kernel_rfl) ?_
  exact ret_ok (post := []) [] (by kernel_rfl) ⟨rfl, (by kernel_rfl)⟩

noncomputable def B7 : Code := (Tryd.f7.body).getD .skip

theorem law14_awake (o_ : Obj) (ho : IsH o_) :
    Ctr Tryd.prog 7 #[] [.raw 0 o_] (Ret (.bool true) [.raw 0 o_]) := by
  refine ctr_of (args := []) (fn := Tryd.f7) (body := B7) (nt := 41) Tryd.func7 (by kernel_rfl) (by kernel_rfl) ?_
  intro F
  refine go_exec (rs := [.tmp 0]) (by kernel_rfl) 4000 [.z [0, 1] 0 []] (o := .stop [.o [0, 1] 0, .c [1, 1]] [] [.raw 0 o_]) (by kernel_rfl) ?_
  refine ok_stop ?_
  refine go_call (some 8) [] Tryd.call8 (law14_config 1) (by kernel_rfl) ?_
  rintro v post ⟨rfl, rfl⟩
  refine go_exec (rs := [.tmp 0]) (by kernel_rfl) 4000 [.e 1, .e 1, .z [0, 1, 1] 1 [1, 10]] (o := .new fun b_2 => .obl (b_2 = b_2) (.obl (b_2 = b_2) (.stop [.o [0, 1, 1] 1, .c [1, 1, 1]] [(1, vP b_2), (10, cfgV (cfgR 1))] [.raw 0 o_, Ee1539 b_2 (cfgR 1)]))) (by kernel_rfl) ?_
  refine ok_new fun b_2 => ?_
  refine ok_obl rfl ?_
  refine ok_obl rfl ?_
  refine ok_stop ?_
  refine go_call (some 11) [] Tryd.call9 (plan_Make (cfgR 1) (cfgR_ok 1)) (by kernel_rfl) ?_
  rintro v post ⟨ba_3, aw_4, cw_5, rfl, rfl⟩
  refine go_exec (rs := [.tmp 0]) (by kernel_rfl) 4000 [.e 1, .z [0, 1, 1, 1, 1] 2 [1, 2, 16, 17]] (o := .obl (b_2 = b_2) (.stop [.o [0, 1, 1, 1, 1] 2, .c [1, 1, 1, 1, 1]] [(1, vP b_2), (2, vP ba_3), (16, vP ba_3), (17, cfgV (cfgR 1))] [.raw 0 o_, Ee1539 b_2 (cfgR 1), Ed5fc1 ba_3 (mkAr (cfgR 1) aw_4 cw_5), E5552f (mkAr (cfgR 1) aw_4 cw_5)])) (by kernel_rfl) ?_
  refine ok_obl rfl ?_
  refine ok_stop ?_
  refine go_call (some 18) [] Tryd.call11 (plan_Control (cfgR 1) 0 (cfgR_ok 1)) (by kernel_rfl) ?_
  rintro v post ⟨rfl, rfl⟩
  refine go_call (some 19) [] Tryd.call24 (r13_Born0) (by kernel_rfl) ?_
  rintro v post ⟨rfl, rfl⟩
  refine go_call (some 20) [2, 3] Tryd.call10 (arena_Store ba_3 (mkAr (cfgR 1) aw_4 cw_5) (ctlAt (cfgR 1) 0) (packW3 0 1 0 0 0) (by have h9 := mkAr_ok (cfgR_ok 1) aw_4 cw_5; exact h9.1) (by have h9 := mkAr_ok (cfgR_ok 1) aw_4 cw_5; have h8 := first_ws 1 aw_4 cw_5 0 (i := 0) (by decide); exact (by have h1 := h8.2.2.2.2.2; have h2 := h9.2.1; omega)) (by have h9 := mkAr_ok (cfgR_ok 1) aw_4 cw_5; exact (by have h2 := h9.2.2.2; omega))) (by kernel_rfl) ?_
  rintro v post ⟨rfl, rfl⟩
  refine go_exec (rs := [.tmp 0]) (by kernel_rfl) 4000 [.e 1, .z [0, 1, 1, 1, 1, 1] 1 [2, 21]] (o := .obl (b_2 = b_2) (.stop [.o [0, 1, 1, 1, 1, 1] 1, .c [1, 1, 1, 1, 1, 1]] [(2, vP ba_3), (21, cfgV (cfgR 1))] [.raw 0 o_, Ee1539 b_2 (cfgR 1), Ed5fc1 ba_3 ((mkAr (cfgR 1) aw_4 cw_5).store (ctlAt (cfgR 1) 0) (packW3 0 1 0 0 0)), E5552f ((mkAr (cfgR 1) aw_4 cw_5).store (ctlAt (cfgR 1) 0) (packW3 0 1 0 0 0))])) (by kernel_rfl) ?_
  refine ok_obl rfl ?_
  refine ok_stop ?_
  refine go_call (some 22) [] Tryd.call13 (guard_New (cfgR 1) 0 0 0 0 (cfgR_ok 1) (by decide) (by decide) (by decide)) (by kernel_rfl) ?_
  rintro v post ⟨g_6, rfl, rfl⟩
  refine go_exec (rs := [.tmp 0]) (by kernel_rfl) 4000 [.z [0, 1, 1, 1, 1, 1, 1] 0 [2, 4]] (o := .stop [.o [0, 1, 1, 1, 1, 1, 1] 0, .c [1, 1, 1, 1, 1, 1, 1]] [(2, vP ba_3), (4, vP g_6)] [.raw 0 o_, Ee1539 b_2 (cfgR 1), Ed5fc1 ba_3 ((mkAr (cfgR 1) aw_4 cw_5).store (ctlAt (cfgR 1) 0) (packW3 0 1 0 0 0)), E5552f ((mkAr (cfgR 1) aw_4 cw_5).store (ctlAt (cfgR 1) 0) (packW3 0 1 0 0 0)), Ee565f g_6 (cfgR 1) ((newGu (cfgR 1) 0 0 0 0).client) ((newGu (cfgR 1) 0 0 0 0).epoch) ((newGu (cfgR 1) 0 0 0 0).slot) ((newGu (cfgR 1) 0 0 0 0).word) (nxG g_6 (newGu (cfgR 1) 0 0 0 0).ph) ((newGu (cfgR 1) 0 0 0 0).seen) ((newGu (cfgR 1) 0 0 0 0).block) ((newGu (cfgR 1) 0 0 0 0).failed) ((newGu (cfgR 1) 0 0 0 0).commit) (errV (newGu (cfgR 1) 0 0 0 0).code)]) (by kernel_rfl) ?_
  refine ok_stop ?_
  have hA0 := mkAr_ok (cfgR_ok 1) aw_4 cw_5
  have hA1 : ArW (cfgR 1) ((mkAr (cfgR 1) aw_4 cw_5).store (ctlAt (cfgR 1) 0) (packW3 0 1 0 0 0)) 41 := hA0.store _ (by decide)
  have hG1 : Gu.Ok (cfgR 1) ((mkAr (cfgR 1) aw_4 cw_5).store (ctlAt (cfgR 1) 0) (packW3 0 1 0 0 0)).n (newGu (cfgR 1) 0 0 0 0) := newGu_ok (cfgR_ok 1) hA1.2.1 (by decide) (by decide) (by decide)
  have haw := awake14 aw_4 cw_5
  refine go_exec (rs := [.tmp 0]) (by kernel_rfl) 4000 [.z [0, 1, 1, 1, 1, 1, 1] 2 [4, 23, 24]] (o := .stop [.o [0, 1, 1, 1, 1, 1, 1] 2, .c [1, 1, 1, 1, 1, 1, 1]] [(4, vP g_6), (23, vP g_6), (24, vP ba_3)] [.raw 0 o_, Ee1539 b_2 (cfgR 1), Ed5fc1 ba_3 ((mkAr (cfgR 1) aw_4 cw_5).store (ctlAt (cfgR 1) 0) (packW3 0 1 0 0 0)), E5552f ((mkAr (cfgR 1) aw_4 cw_5).store (ctlAt (cfgR 1) 0) (packW3 0 1 0 0 0)), Ee565f g_6 (cfgR 1) ((newGu (cfgR 1) 0 0 0 0).client) ((newGu (cfgR 1) 0 0 0 0).epoch) ((newGu (cfgR 1) 0 0 0 0).slot) ((newGu (cfgR 1) 0 0 0 0).word) (nxG g_6 (newGu (cfgR 1) 0 0 0 0).ph) ((newGu (cfgR 1) 0 0 0 0).seen) ((newGu (cfgR 1) 0 0 0 0).block) ((newGu (cfgR 1) 0 0 0 0).failed) ((newGu (cfgR 1) 0 0 0 0).commit) (errV (newGu (cfgR 1) 0 0 0 0).code)]) (by kernel_rfl) ?_
  refine ok_stop ?_
  refine go_call (some 25) [4, 2, 3] Tryd.call15 (guard_Step (cfgR 1) g_6 ba_3 (newGu (cfgR 1) 0 0 0 0) ((mkAr (cfgR 1) aw_4 cw_5).store (ctlAt (cfgR 1) 0) (packW3 0 1 0 0 0)) (cfgR_ok 1) hA1.1 (by have h2 := hA1.2.2.2; omega) hA1.2.2.1 hG1) (by kernel_rfl) ?_
  rintro v post ⟨rfl, rfl⟩
  refine go_exec (rs := [.tmp 0]) (by kernel_rfl) 4000 [.z [0, 1, 1, 1, 1, 1, 1, 1] 1 [5, 27]] (o := .stop [.o [0, 1, 1, 1, 1, 1, 1, 1] 1, .c [1, 1, 1, 1, 1, 1, 1, 1]] [(5, .bool (((newGu (cfgR 1) 0 0 0 0).step ((cfgR 1).retry) ((mkAr (cfgR 1) aw_4 cw_5).store (ctlAt (cfgR 1) 0) (packW3 0 1 0 0 0))).1.ph == 0)), (27, vP g_6)] [.raw 0 o_, Ee1539 b_2 (cfgR 1), Ee565f g_6 (cfgR 1) (((newGu (cfgR 1) 0 0 0 0).step ((cfgR 1).retry) ((mkAr (cfgR 1) aw_4 cw_5).store (ctlAt (cfgR 1) 0) (packW3 0 1 0 0 0))).1.client) (((newGu (cfgR 1) 0 0 0 0).step ((cfgR 1).retry) ((mkAr (cfgR 1) aw_4 cw_5).store (ctlAt (cfgR 1) 0) (packW3 0 1 0 0 0))).1.epoch) (((newGu (cfgR 1) 0 0 0 0).step ((cfgR 1).retry) ((mkAr (cfgR 1) aw_4 cw_5).store (ctlAt (cfgR 1) 0) (packW3 0 1 0 0 0))).1.slot) (((newGu (cfgR 1) 0 0 0 0).step ((cfgR 1).retry) ((mkAr (cfgR 1) aw_4 cw_5).store (ctlAt (cfgR 1) 0) (packW3 0 1 0 0 0))).1.word) (nxG g_6 ((newGu (cfgR 1) 0 0 0 0).step ((cfgR 1).retry) ((mkAr (cfgR 1) aw_4 cw_5).store (ctlAt (cfgR 1) 0) (packW3 0 1 0 0 0))).1.ph) (((newGu (cfgR 1) 0 0 0 0).step ((cfgR 1).retry) ((mkAr (cfgR 1) aw_4 cw_5).store (ctlAt (cfgR 1) 0) (packW3 0 1 0 0 0))).1.seen) (((newGu (cfgR 1) 0 0 0 0).step ((cfgR 1).retry) ((mkAr (cfgR 1) aw_4 cw_5).store (ctlAt (cfgR 1) 0) (packW3 0 1 0 0 0))).1.block) (((newGu (cfgR 1) 0 0 0 0).step ((cfgR 1).retry) ((mkAr (cfgR 1) aw_4 cw_5).store (ctlAt (cfgR 1) 0) (packW3 0 1 0 0 0))).1.failed) (((newGu (cfgR 1) 0 0 0 0).step ((cfgR 1).retry) ((mkAr (cfgR 1) aw_4 cw_5).store (ctlAt (cfgR 1) 0) (packW3 0 1 0 0 0))).1.commit) (errV ((newGu (cfgR 1) 0 0 0 0).step ((cfgR 1).retry) ((mkAr (cfgR 1) aw_4 cw_5).store (ctlAt (cfgR 1) 0) (packW3 0 1 0 0 0))).1.code), Ed5fc1 ba_3 (((newGu (cfgR 1) 0 0 0 0).step ((cfgR 1).retry) ((mkAr (cfgR 1) aw_4 cw_5).store (ctlAt (cfgR 1) 0) (packW3 0 1 0 0 0))).2), E5552f (((newGu (cfgR 1) 0 0 0 0).step ((cfgR 1).retry) ((mkAr (cfgR 1) aw_4 cw_5).store (ctlAt (cfgR 1) 0) (packW3 0 1 0 0 0))).2)]) (by kernel_rfl) ?_
  refine ok_stop ?_
  refine go_call (some 28) [2] Tryd.call16 (guard_Told (cfgR 1) g_6 (((newGu (cfgR 1) 0 0 0 0).step ((cfgR 1).retry) ((mkAr (cfgR 1) aw_4 cw_5).store (ctlAt (cfgR 1) 0) (packW3 0 1 0 0 0))).1) (by rw [haw]; show (0 : Nat) ≤ 3; decide)) (by kernel_rfl) ?_
  rintro v post ⟨rfl, rfl⟩
  refine go_exec (rs := [.tmp 0]) (by kernel_rfl) 4000 [.sp [32, 5, 31] [.sp [36, 34, 35] [.z [0, 1, 1, 1, 1, 1, 1, 1, 1] 7 [36, 37]] [.dead]] [.dead]] (o := .obl ((((newGu (cfgR 1) 0 0 0 0).step ((cfgR 1).retry) ((mkAr (cfgR 1) aw_4 cw_5).store (ctlAt (cfgR 1) 0) (packW3 0 1 0 0 0))).1.ph == 0) = (((newGu (cfgR 1) 0 0 0 0).step ((cfgR 1).retry) ((mkAr (cfgR 1) aw_4 cw_5).store (ctlAt (cfgR 1) 0) (packW3 0 1 0 0 0))).1.ph == 0)) (.obl ((((newGu (cfgR 1) 0 0 0 0).step ((cfgR 1).retry) ((mkAr (cfgR 1) aw_4 cw_5).store (ctlAt (cfgR 1) 0) (packW3 0 1 0 0 0))).1.ph == 0) = (((newGu (cfgR 1) 0 0 0 0).step ((cfgR 1).retry) ((mkAr (cfgR 1) aw_4 cw_5).store (ctlAt (cfgR 1) 0) (packW3 0 1 0 0 0))).1.ph == 0)) (.br (((newGu (cfgR 1) 0 0 0 0).step ((cfgR 1).retry) ((mkAr (cfgR 1) aw_4 cw_5).store (ctlAt (cfgR 1) 0) (packW3 0 1 0 0 0))).1.ph == 0) (.obl ((((Gu.told (((newGu (cfgR 1) 0 0 0 0).step ((cfgR 1).retry) ((mkAr (cfgR 1) aw_4 cw_5).store (ctlAt (cfgR 1) 0) (packW3 0 1 0 0 0))).1)).1) == 0) = (((Gu.told (((newGu (cfgR 1) 0 0 0 0).step ((cfgR 1).retry) ((mkAr (cfgR 1) aw_4 cw_5).store (ctlAt (cfgR 1) 0) (packW3 0 1 0 0 0))).1)).1) == 0)) (.obl ((((Gu.told (((newGu (cfgR 1) 0 0 0 0).step ((cfgR 1).retry) ((mkAr (cfgR 1) aw_4 cw_5).store (ctlAt (cfgR 1) 0) (packW3 0 1 0 0 0))).1)).1) == 0) = (((Gu.told (((newGu (cfgR 1) 0 0 0 0).step ((cfgR 1).retry) ((mkAr (cfgR 1) aw_4 cw_5).store (ctlAt (cfgR 1) 0) (packW3 0 1 0 0 0))).1)).1) == 0)) (.br (((Gu.told (((newGu (cfgR 1) 0 0 0 0).step ((cfgR 1).retry) ((mkAr (cfgR 1) aw_4 cw_5).store (ctlAt (cfgR 1) 0) (packW3 0 1 0 0 0))).1)).1) == 0) (.stop [.o [0, 1, 1, 1, 1, 1, 1, 1, 1] 7, .c [1, 1, 1, 1, 1, 1, 1, 1, 1]] [(36, .bool true), (37, (errV (Gu.told (((newGu (cfgR 1) 0 0 0 0).step ((cfgR 1).retry) ((mkAr (cfgR 1) aw_4 cw_5).store (ctlAt (cfgR 1) 0) (packW3 0 1 0 0 0))).1)).2))] [.raw 0 o_, Ee1539 b_2 (cfgR 1), Ed5fc1 ba_3 (((newGu (cfgR 1) 0 0 0 0).step ((cfgR 1).retry) ((mkAr (cfgR 1) aw_4 cw_5).store (ctlAt (cfgR 1) 0) (packW3 0 1 0 0 0))).2), E5552f (((newGu (cfgR 1) 0 0 0 0).step ((cfgR 1).retry) ((mkAr (cfgR 1) aw_4 cw_5).store (ctlAt (cfgR 1) 0) (packW3 0 1 0 0 0))).2), Ee565f g_6 (cfgR 1) (((newGu (cfgR 1) 0 0 0 0).step ((cfgR 1).retry) ((mkAr (cfgR 1) aw_4 cw_5).store (ctlAt (cfgR 1) 0) (packW3 0 1 0 0 0))).1.client) (((newGu (cfgR 1) 0 0 0 0).step ((cfgR 1).retry) ((mkAr (cfgR 1) aw_4 cw_5).store (ctlAt (cfgR 1) 0) (packW3 0 1 0 0 0))).1.epoch) (((newGu (cfgR 1) 0 0 0 0).step ((cfgR 1).retry) ((mkAr (cfgR 1) aw_4 cw_5).store (ctlAt (cfgR 1) 0) (packW3 0 1 0 0 0))).1.slot) (((newGu (cfgR 1) 0 0 0 0).step ((cfgR 1).retry) ((mkAr (cfgR 1) aw_4 cw_5).store (ctlAt (cfgR 1) 0) (packW3 0 1 0 0 0))).1.word) (nxG g_6 (((newGu (cfgR 1) 0 0 0 0).step ((cfgR 1).retry) ((mkAr (cfgR 1) aw_4 cw_5).store (ctlAt (cfgR 1) 0) (packW3 0 1 0 0 0))).1).ph) (((newGu (cfgR 1) 0 0 0 0).step ((cfgR 1).retry) ((mkAr (cfgR 1) aw_4 cw_5).store (ctlAt (cfgR 1) 0) (packW3 0 1 0 0 0))).1.seen) (((newGu (cfgR 1) 0 0 0 0).step ((cfgR 1).retry) ((mkAr (cfgR 1) aw_4 cw_5).store (ctlAt (cfgR 1) 0) (packW3 0 1 0 0 0))).1.block) (((newGu (cfgR 1) 0 0 0 0).step ((cfgR 1).retry) ((mkAr (cfgR 1) aw_4 cw_5).store (ctlAt (cfgR 1) 0) (packW3 0 1 0 0 0))).1.failed) (((newGu (cfgR 1) 0 0 0 0).step ((cfgR 1).retry) ((mkAr (cfgR 1) aw_4 cw_5).store (ctlAt (cfgR 1) 0) (packW3 0 1 0 0 0))).1.commit) (errV (((newGu (cfgR 1) 0 0 0 0).step ((cfgR 1).retry) ((mkAr (cfgR 1) aw_4 cw_5).store (ctlAt (cfgR 1) 0) (packW3 0 1 0 0 0))).1).code)]) (.bad)))) (.bad)))) (by kernel_rfl) ?_
  refine ok_obl rfl ?_
  refine ok_obl rfl ?_
  refine ok_br (fun _ => ?_) (fun h => absurd (show (((newGu (cfgR 1) 0 0 0 0).step ((cfgR 1).retry) ((mkAr (cfgR 1) aw_4 cw_5).store (ctlAt (cfgR 1) 0) (packW3 0 1 0 0 0))).1.ph == 0) = true from (by rw [haw]; rfl)) (by rw [h]; simp))
  refine ok_obl rfl ?_
  refine ok_obl rfl ?_
  refine ok_br (fun _ => ?_) (fun h => absurd (show (((Gu.told (((newGu (cfgR 1) 0 0 0 0).step ((cfgR 1).retry) ((mkAr (cfgR 1) aw_4 cw_5).store (ctlAt (cfgR 1) 0) (packW3 0 1 0 0 0))).1)).1) == 0) = true from (by rw [haw]; rfl)) (by rw [h]; simp))
  refine ok_stop ?_
  refine go_call (some 38) [0] Tryd.call17 (cause_Top o_ ((Gu.told (((newGu (cfgR 1) 0 0 0 0).step ((cfgR 1).retry) ((mkAr (cfgR 1) aw_4 cw_5).store (ctlAt (cfgR 1) 0) (packW3 0 1 0 0 0))).1)).2) (by first | assumption | omega | (simp only [InK] at *; omega))) (by kernel_rfl) ?_
  rintro v post ⟨rfl, rfl⟩
  refine go_exec (rs := [.tmp 0]) (by kernel_rfl) 4000 [] (o := .ret (.bool (((Gu.told (((newGu (cfgR 1) 0 0 0 0).step ((cfgR 1).retry) ((mkAr (cfgR 1) aw_4 cw_5).store (ctlAt (cfgR 1) 0) (packW3 0 1 0 0 0))).1)).2) == 20)) [Ee1539 b_2 (cfgR 1), Ed5fc1 ba_3 (((newGu (cfgR 1) 0 0 0 0).step ((cfgR 1).retry) ((mkAr (cfgR 1) aw_4 cw_5).store (ctlAt (cfgR 1) 0) (packW3 0 1 0 0 0))).2), E5552f (((newGu (cfgR 1) 0 0 0 0).step ((cfgR 1).retry) ((mkAr (cfgR 1) aw_4 cw_5).store (ctlAt (cfgR 1) 0) (packW3 0 1 0 0 0))).2), Ee565f g_6 (cfgR 1) (((newGu (cfgR 1) 0 0 0 0).step ((cfgR 1).retry) ((mkAr (cfgR 1) aw_4 cw_5).store (ctlAt (cfgR 1) 0) (packW3 0 1 0 0 0))).1.client) (((newGu (cfgR 1) 0 0 0 0).step ((cfgR 1).retry) ((mkAr (cfgR 1) aw_4 cw_5).store (ctlAt (cfgR 1) 0) (packW3 0 1 0 0 0))).1.epoch) (((newGu (cfgR 1) 0 0 0 0).step ((cfgR 1).retry) ((mkAr (cfgR 1) aw_4 cw_5).store (ctlAt (cfgR 1) 0) (packW3 0 1 0 0 0))).1.slot) (((newGu (cfgR 1) 0 0 0 0).step ((cfgR 1).retry) ((mkAr (cfgR 1) aw_4 cw_5).store (ctlAt (cfgR 1) 0) (packW3 0 1 0 0 0))).1.word) (nxG g_6 (((newGu (cfgR 1) 0 0 0 0).step ((cfgR 1).retry) ((mkAr (cfgR 1) aw_4 cw_5).store (ctlAt (cfgR 1) 0) (packW3 0 1 0 0 0))).1).ph) (((newGu (cfgR 1) 0 0 0 0).step ((cfgR 1).retry) ((mkAr (cfgR 1) aw_4 cw_5).store (ctlAt (cfgR 1) 0) (packW3 0 1 0 0 0))).1.seen) (((newGu (cfgR 1) 0 0 0 0).step ((cfgR 1).retry) ((mkAr (cfgR 1) aw_4 cw_5).store (ctlAt (cfgR 1) 0) (packW3 0 1 0 0 0))).1.block) (((newGu (cfgR 1) 0 0 0 0).step ((cfgR 1).retry) ((mkAr (cfgR 1) aw_4 cw_5).store (ctlAt (cfgR 1) 0) (packW3 0 1 0 0 0))).1.failed) (((newGu (cfgR 1) 0 0 0 0).step ((cfgR 1).retry) ((mkAr (cfgR 1) aw_4 cw_5).store (ctlAt (cfgR 1) 0) (packW3 0 1 0 0 0))).1.commit) (errV (((newGu (cfgR 1) 0 0 0 0).step ((cfgR 1).retry) ((mkAr (cfgR 1) aw_4 cw_5).store (ctlAt (cfgR 1) 0) (packW3 0 1 0 0 0))).1).code), .raw 0 o_]) (by kernel_rfl) ?_
  exact ret_ok (post := [.raw 0 o_]) [4] (by kernel_rfl) ⟨(congrArg Value.bool (by first | rfl | (simp; done) | (simp; omega))), (by kernel_rfl)⟩

noncomputable def B6 : Code := (Tryd.f6.body).getD .skip

set_option maxHeartbeats 4000000 in
theorem law_steady (o_ : Obj) (q0 q1 e_ g_ k_ : Int) (l_ b_ : Bool) (ho : IsH o_) :
    Ctr Tryd.prog 6 #[.agg #[vI q0, vI q1], .agg #[vI e_, vI g_, vI k_, .bool l_, .bool b_]] [.raw 0 o_] (Ret (.bool true) [.raw 0 o_]) := by
  refine ctr_of (args := [.agg #[vI q0, vI q1], .agg #[vI e_, vI g_, vI k_, .bool l_, .bool b_]]) (fn := Tryd.f6) (body := B6) (nt := 137) Tryd.func6 (by kernel_rfl) (by kernel_rfl) ?_
  intro F
  have hc := cfgR_ok q0
  refine go_exec (rs := [.tmp 4]) (by kernel_rfl) 4000 [.z [0, 1] 0 [2, 3]] (o := .new fun b_1 => .new fun b_2 => .stop [.o [0, 1] 0, .c [1, 1]] [(2, vP b_1), (3, vP b_2)] [.raw 0 o_, .pts b_1 [vI q0, vI q1] 22, E93487 b_2 e_ g_ k_ l_ b_]) (by kernel_rfl) ?_
  refine ok_new fun b_1 => ?_
  refine ok_new fun b_2 => ?_
  refine ok_stop ?_
  refine go_call (some 20) [0] Tryd.call7 (law14_awake o_ (by first | assumption | omega | (simp only [InK] at *; omega))) (by kernel_rfl) ?_
  rintro v post ⟨rfl, rfl⟩
  refine go_exec (rs := [.tmp 4]) (by kernel_rfl) 4000 [.w, .e 0, .z [0, 1, 1] 2 [2, 3, 5, 22]] (o := .obl (b_1 = b_1) (.stop [.o [0, 1, 1] 2, .c [1, 1, 1]] [(2, vP b_1), (3, vP b_2), (5, .bool true), (22, vI q0)] [.pts b_1 [vI q0, vI q1] 22, E93487 b_2 e_ g_ k_ l_ b_, .raw 0 o_])) (by kernel_rfl) ?_
  refine ok_obl rfl ?_
  refine ok_stop ?_
  refine go_call (some 23) [] Tryd.call8 (law14_config q0) (by kernel_rfl) ?_
  rintro v post ⟨rfl, rfl⟩
  refine go_exec (rs := [.tmp 4]) (by kernel_rfl) 4000 [.e 3, .e 3, .z [0, 1, 1, 1] 1 [2, 3, 5, 6, 25]] (o := .new fun b_4 => .obl (b_4 = b_4) (.obl (b_4 = b_4) (.stop [.o [0, 1, 1, 1] 1, .c [1, 1, 1, 1]] [(2, vP b_1), (3, vP b_2), (5, .bool true), (6, vP b_4), (25, cfgV (cfgR q0))] [.pts b_1 [vI q0, vI q1] 22, E93487 b_2 e_ g_ k_ l_ b_, .raw 0 o_, Ee1539 b_4 (cfgR q0)]))) (by kernel_rfl) ?_
  refine ok_new fun b_4 => ?_
  refine ok_obl rfl ?_
  refine ok_obl rfl ?_
  refine ok_stop ?_
  refine go_call (some 26) [] Tryd.call9 (plan_Make (cfgR q0) hc) (by kernel_rfl) ?_
  rintro v post ⟨ba_5, aw_6, cw_7, rfl, rfl⟩
  refine go_exec (rs := [.tmp 4]) (by kernel_rfl) 4000 [.z [0, 1, 1, 1, 1, 1] 0 [2, 3, 5, 6, 7]] (o := .stop [.c [0, 1, 1, 1, 1, 1], .c [1, 1, 1, 1, 1, 1]] [(2, vP b_1), (3, vP b_2), (5, .bool true), (6, vP b_4), (7, vP ba_5)] [.pts b_1 [vI q0, vI q1] 22, E93487 b_2 e_ g_ k_ l_ b_, .raw 0 o_, Ee1539 b_4 (cfgR q0), Ed5fc1 ba_5 (mkAr (cfgR q0) aw_6 cw_7), E5552f (mkAr (cfgR q0) aw_6 cw_7)]) (by kernel_rfl) ?_
  refine ok_stop ?_
  refine go_tail_call (dst := (some 36)) (ps := [b_4 = b_4, b_2 = b_2]) (cs := [(11, #[cfgV (cfgR q0), vI 1], vI (ctlAt (cfgR q0) 1)), (12, #[.agg #[vI e_, vI g_, vI k_, .bool l_, .bool b_]], vU (ctlW e_ g_ k_ l_ b_))]) [(0, .h .w), (1, .h (.e 3)), (2, .q (vI (ctlAt (cfgR q0) 1))), (3, .h (.e 1)), (4, .q (vU (ctlW e_ g_ k_ l_ b_)))] 5 [] [4, 5] [2, 3, 5, 6, 7] (by kernel_rfl) Tryd.call10 (arena_Store ba_5 (mkAr (cfgR q0) aw_6 cw_7) (ctlAt (cfgR q0) 1) (ctlW e_ g_ k_ l_ b_) (by have h9 := mkAr_ok (cfgR_ok q0) aw_6 cw_7; exact h9.1) (by have h9 := mkAr_ok (cfgR_ok q0) aw_6 cw_7; have h8 := first_ws q0 aw_6 cw_7 0 (i := 1) (by decide); exact (by have h1 := h8.2.2.2.2.2; have h2 := h9.2.1; omega)) (by have h9 := mkAr_ok (cfgR_ok q0) aw_6 cw_7; exact (by have h2 := h9.2.2.2; omega))) (by kernel_rfl) ⟨rfl, rfl, trivial⟩ ⟨⟨Tryd.call11, quiet_of [] (plan_Control (cfgR q0) 1 hc) (by kernel_rfl) (by rintro v post ⟨rfl, rfl⟩; exact ⟨rfl, rfl⟩)⟩, ⟨Tryd.call12, quiet_of [] (law14_word e_ g_ k_ l_ b_) (by kernel_rfl) (by rintro v post ⟨rfl, rfl⟩; exact ⟨rfl, rfl⟩)⟩, trivial⟩ ?_
  rintro v post ⟨rfl, rfl⟩
  refine tail_next (tm' := [(2, vP b_1), (3, vP b_2), (5, .bool true), (6, vP b_4), (7, vP ba_5)]) (ps2 := []) (by kernel_rfl) trivial ?_
  refine go_exec (rs := [.tmp 4]) (by kernel_rfl) 4000 [.e 3, .w, .e 0, .z [0, 1, 1, 1, 1, 1, 1] 4 [2, 3, 5, 6, 7, 37, 40]] (o := .obl (b_4 = b_4) (.obl (b_1 = b_1) (.stop [.o [0, 1, 1, 1, 1, 1, 1] 4, .c [1, 1, 1, 1, 1, 1, 1]] [(2, vP b_1), (3, vP b_2), (5, .bool true), (6, vP b_4), (7, vP ba_5), (37, cfgV (cfgR q0)), (40, vI (bAnd .i64 q1 3))] [.pts b_1 [vI q0, vI q1] 22, E93487 b_2 e_ g_ k_ l_ b_, .raw 0 o_, Ee1539 b_4 (cfgR q0), Ed5fc1 ba_5 ((mkAr (cfgR q0) aw_6 cw_7).store (ctlAt (cfgR q0) 1) (ctlW e_ g_ k_ l_ b_)), E5552f ((mkAr (cfgR q0) aw_6 cw_7).store (ctlAt (cfgR q0) 1) (ctlW e_ g_ k_ l_ b_))]))) (by kernel_rfl) ?_
  refine ok_obl rfl ?_
  refine ok_obl rfl ?_
  refine ok_stop ?_
  refine go_call (some 41) [] Tryd.call13 (guard_New (cfgR q0) 1 0 1 (bAnd .i64 q1 3) hc (by show (0 : Int) ≤ _ ∧ (_ : Int) < 2; decide) (by show (0 : Int) ≤ _ ∧ (_ : Int) < 2; decide) (by show (0 : Int) ≤ _ ∧ (_ : Int) < 2; decide)) (by kernel_rfl) ?_
  rintro v post ⟨g_8, rfl, rfl⟩
  refine go_exec (rs := [.tmp 4]) (by kernel_rfl) 4000 [.z [0, 1, 1, 1, 1, 1, 1, 1, 1] 0 [2, 3, 5, 6, 7, 9]] (o := .stop [.o [0, 1, 1, 1, 1, 1, 1, 1, 1] 0, .c [1, 1, 1, 1, 1, 1, 1, 1, 1]] [(2, vP b_1), (3, vP b_2), (5, .bool true), (6, vP b_4), (7, vP ba_5), (9, vP g_8)] [.pts b_1 [vI q0, vI q1] 22, E93487 b_2 e_ g_ k_ l_ b_, .raw 0 o_, Ee1539 b_4 (cfgR q0), Ed5fc1 ba_5 ((mkAr (cfgR q0) aw_6 cw_7).store (ctlAt (cfgR q0) 1) (ctlW e_ g_ k_ l_ b_)), E5552f ((mkAr (cfgR q0) aw_6 cw_7).store (ctlAt (cfgR q0) 1) (ctlW e_ g_ k_ l_ b_)), Ee565f g_8 (cfgR q0) ((newGu (cfgR q0) 1 0 1 (bAnd .i64 q1 3)).client) ((newGu (cfgR q0) 1 0 1 (bAnd .i64 q1 3)).epoch) ((newGu (cfgR q0) 1 0 1 (bAnd .i64 q1 3)).slot) ((newGu (cfgR q0) 1 0 1 (bAnd .i64 q1 3)).word) (nxG g_8 (newGu (cfgR q0) 1 0 1 (bAnd .i64 q1 3)).ph) ((newGu (cfgR q0) 1 0 1 (bAnd .i64 q1 3)).seen) ((newGu (cfgR q0) 1 0 1 (bAnd .i64 q1 3)).block) ((newGu (cfgR q0) 1 0 1 (bAnd .i64 q1 3)).failed) ((newGu (cfgR q0) 1 0 1 (bAnd .i64 q1 3)).commit) (errV (newGu (cfgR q0) 1 0 1 (bAnd .i64 q1 3)).code)]) (by kernel_rfl) ?_
  refine ok_stop ?_
  have hA0 := mkAr_ok hc aw_6 cw_7
  have hA1 : ArW (cfgR q0) ((mkAr (cfgR q0) aw_6 cw_7).store (ctlAt (cfgR q0) 1) (ctlW e_ g_ k_ l_ b_)) 41 := hA0.store _ (ctlW_rng _ _ _ _ _)
  have hG1 : Gu.Ok (cfgR q0) ((mkAr (cfgR q0) aw_6 cw_7).store (ctlAt (cfgR q0) 1) (ctlW e_ g_ k_ l_ b_)).n (newGu (cfgR q0) 1 0 1 (bAnd .i64 q1 3)) := newGu_ok hc hA1.2.1 (by show (0 : Int) ≤ 1 ∧ (1 : Int) < 2; decide) (by show (0 : Int) ≤ 0 ∧ (0 : Int) < 2; decide) (by show (0 : Int) ≤ 1 ∧ (1 : Int) < 2; decide)
  have hfw := first_ws q0 aw_6 cw_7 (ctlW e_ g_ k_ l_ b_) (i := 1) (by decide)
  obtain ⟨hw0, hw1, hwW, hs0, hs1, hs2, hs3⟩ := hfw
  have hcr := ctl_rng (ctlW_rng e_ g_ k_ l_ b_)
  have hst2 := hA1.2.2.2
  have hst1 := hA1.2.1
  refine go_exec (rs := [.tmp 4]) (by kernel_rfl) 4000 [.z [0, 1, 1, 1, 1, 1, 1, 1, 1] 1 [2, 3, 5, 6, 7, 9, 44]] (o := .stop [.o [0, 1, 1, 1, 1, 1, 1, 1, 1] 1, .c [1, 1, 1, 1, 1, 1, 1, 1, 1]] [(2, vP b_1), (3, vP b_2), (5, .bool true), (6, vP b_4), (7, vP ba_5), (9, vP g_8), (44, vP ba_5)] [.pts b_1 [vI q0, vI q1] 22, E93487 b_2 e_ g_ k_ l_ b_, .raw 0 o_, Ee1539 b_4 (cfgR q0), Ed5fc1 ba_5 ((mkAr (cfgR q0) aw_6 cw_7).store (ctlAt (cfgR q0) 1) (ctlW e_ g_ k_ l_ b_)), E5552f ((mkAr (cfgR q0) aw_6 cw_7).store (ctlAt (cfgR q0) 1) (ctlW e_ g_ k_ l_ b_)), Ee565f g_8 (cfgR q0) ((newGu (cfgR q0) 1 0 1 (bAnd .i64 q1 3)).client) ((newGu (cfgR q0) 1 0 1 (bAnd .i64 q1 3)).epoch) ((newGu (cfgR q0) 1 0 1 (bAnd .i64 q1 3)).slot) ((newGu (cfgR q0) 1 0 1 (bAnd .i64 q1 3)).word) (nxG g_8 (newGu (cfgR q0) 1 0 1 (bAnd .i64 q1 3)).ph) ((newGu (cfgR q0) 1 0 1 (bAnd .i64 q1 3)).seen) ((newGu (cfgR q0) 1 0 1 (bAnd .i64 q1 3)).block) ((newGu (cfgR q0) 1 0 1 (bAnd .i64 q1 3)).failed) ((newGu (cfgR q0) 1 0 1 (bAnd .i64 q1 3)).commit) (errV (newGu (cfgR q0) 1 0 1 (bAnd .i64 q1 3)).code)]) (by kernel_rfl) ?_
  refine ok_stop ?_
  refine go_call (some 45) [4, 5] Tryd.call23 (arena_Steps ba_5 ((mkAr (cfgR q0) aw_6 cw_7).store (ctlAt (cfgR q0) 1) (ctlW e_ g_ k_ l_ b_))) (by kernel_rfl) ?_
  rintro v post ⟨rfl, rfl⟩
  refine go_exec (rs := [.tmp 4]) (by kernel_rfl) 4000 [.e 1, .z [0, 1, 1, 1, 1, 1, 1, 1, 1, 1] 1 [2, 5, 6, 7, 9, 10, 46]] (o := .obl (b_2 = b_2) (.stop [.o [0, 1, 1, 1, 1, 1, 1, 1, 1, 1] 1, .c [1, 1, 1, 1, 1, 1, 1, 1, 1, 1]] [(2, vP b_1), (5, .bool true), (6, vP b_4), (7, vP ba_5), (9, vP g_8), (10, vI (((mkAr (cfgR q0) aw_6 cw_7).store (ctlAt (cfgR q0) 1) (ctlW e_ g_ k_ l_ b_)).steps)), (46, .agg #[vI e_, vI g_, vI k_, .bool l_, .bool b_])] [.pts b_1 [vI q0, vI q1] 22, E93487 b_2 e_ g_ k_ l_ b_, .raw 0 o_, Ee1539 b_4 (cfgR q0), Ee565f g_8 (cfgR q0) ((newGu (cfgR q0) 1 0 1 (bAnd .i64 q1 3)).client) ((newGu (cfgR q0) 1 0 1 (bAnd .i64 q1 3)).epoch) ((newGu (cfgR q0) 1 0 1 (bAnd .i64 q1 3)).slot) ((newGu (cfgR q0) 1 0 1 (bAnd .i64 q1 3)).word) (nxG g_8 (newGu (cfgR q0) 1 0 1 (bAnd .i64 q1 3)).ph) ((newGu (cfgR q0) 1 0 1 (bAnd .i64 q1 3)).seen) ((newGu (cfgR q0) 1 0 1 (bAnd .i64 q1 3)).block) ((newGu (cfgR q0) 1 0 1 (bAnd .i64 q1 3)).failed) ((newGu (cfgR q0) 1 0 1 (bAnd .i64 q1 3)).commit) (errV (newGu (cfgR q0) 1 0 1 (bAnd .i64 q1 3)).code), Ed5fc1 ba_5 ((mkAr (cfgR q0) aw_6 cw_7).store (ctlAt (cfgR q0) 1) (ctlW e_ g_ k_ l_ b_)), E5552f ((mkAr (cfgR q0) aw_6 cw_7).store (ctlAt (cfgR q0) 1) (ctlW e_ g_ k_ l_ b_))])) (by kernel_rfl) ?_
  refine ok_obl rfl ?_
  refine ok_stop ?_
  refine go_call (some 47) [] Tryd.call12 (law14_word e_ g_ k_ l_ b_) (by kernel_rfl) ?_
  rintro v post ⟨rfl, rfl⟩
  refine go_call (some 48) [] Tryd.call21 (r13_Unpack (ctlW e_ g_ k_ l_ b_) (ctlW_rng _ _ _ _ _)) (by kernel_rfl) ?_
  rintro v post ⟨rfl, rfl⟩
  refine go_exec (rs := [.tmp 4]) (by kernel_rfl) 4000 [.e 7, .z [0, 0, 1, 1, 1, 1, 1, 1, 1, 1, 1, 1, 1] 0 [2, 5, 6, 7, 9, 10, 11, 12]] (o := .new fun b_10 => .obl (b_10 = b_10) (.stop [.o [0, 0, 1, 1, 1, 1, 1, 1, 1, 1, 1, 1, 1] 0, .c [1, 0, 1, 1, 1, 1, 1, 1, 1, 1, 1, 1, 1], .c [1, 1, 1, 1, 1, 1, 1, 1, 1, 1, 1, 1]] [(2, vP b_1), (5, .bool true), (6, vP b_4), (7, vP ba_5), (9, vP g_8), (10, vI (((mkAr (cfgR q0) aw_6 cw_7).store (ctlAt (cfgR q0) 1) (ctlW e_ g_ k_ l_ b_)).steps)), (11, vP b_10), (12, vI 0)] [.pts b_1 [vI q0, vI q1] 22, E93487 b_2 e_ g_ k_ l_ b_, .raw 0 o_, Ee1539 b_4 (cfgR q0), Ee565f g_8 (cfgR q0) ((newGu (cfgR q0) 1 0 1 (bAnd .i64 q1 3)).client) ((newGu (cfgR q0) 1 0 1 (bAnd .i64 q1 3)).epoch) ((newGu (cfgR q0) 1 0 1 (bAnd .i64 q1 3)).slot) ((newGu (cfgR q0) 1 0 1 (bAnd .i64 q1 3)).word) (nxG g_8 (newGu (cfgR q0) 1 0 1 (bAnd .i64 q1 3)).ph) ((newGu (cfgR q0) 1 0 1 (bAnd .i64 q1 3)).seen) ((newGu (cfgR q0) 1 0 1 (bAnd .i64 q1 3)).block) ((newGu (cfgR q0) 1 0 1 (bAnd .i64 q1 3)).failed) ((newGu (cfgR q0) 1 0 1 (bAnd .i64 q1 3)).commit) (errV (newGu (cfgR q0) 1 0 1 (bAnd .i64 q1 3)).code), Ed5fc1 ba_5 ((mkAr (cfgR q0) aw_6 cw_7).store (ctlAt (cfgR q0) 1) (ctlW e_ g_ k_ l_ b_)), E5552f ((mkAr (cfgR q0) aw_6 cw_7).store (ctlAt (cfgR q0) 1) (ctlW e_ g_ k_ l_ b_)), Ebee6b b_10 (ctlEpoch (ctlW e_ g_ k_ l_ b_)) (ctlGen (ctlW e_ g_ k_ l_ b_)) (ctlBlock (ctlW e_ g_ k_ l_ b_)) (ctlLive (ctlW e_ g_ k_ l_ b_)) (ctlBusy (ctlW e_ g_ k_ l_ b_))])) (by kernel_rfl) ?_
  refine ok_new fun b_10 => ?_
  refine ok_obl rfl ?_
  refine ok_stop ?_
  by_cases hl : ctlLive (ctlW e_ g_ k_ l_ b_) = true
  · by_cases he : ctlEpoch (ctlW e_ g_ k_ l_ b_) = (bAnd .i64 q1 3)
    · by_cases hb : ctlBlock (ctlW e_ g_ k_ l_ b_) = 0
      · skip
        refine go_exec (rs := [.tmp 4]) (by kernel_rfl) 4000 [.e 7, .sp [52, 51] [.dead] [.e 7, .w, .e 0, .sp [59, 58] [.dead] [.e 7, .sp [62] [.z [0, 1, 0, 1, 1, 1, 1, 1, 1, 1, 1, 1, 1, 1, 1] 0 [5, 6, 7, 9, 10, 11, 12, 13]] [.dead]]]] (o := .obl (b_10 = b_10) (.obl ((!(ctlLive (ctlW e_ g_ k_ l_ b_))) = (!(ctlLive (ctlW e_ g_ k_ l_ b_)))) (.br (!(ctlLive (ctlW e_ g_ k_ l_ b_))) (.bad) (.obl (b_10 = b_10) (.obl (b_1 = b_1) (.obl (((ctlEpoch (ctlW e_ g_ k_ l_ b_)) != (bAnd .i64 q1 3)) = ((ctlEpoch (ctlW e_ g_ k_ l_ b_)) != (bAnd .i64 q1 3))) (.br ((ctlEpoch (ctlW e_ g_ k_ l_ b_)) != (bAnd .i64 q1 3)) (.bad) (.obl (b_10 = b_10) (.br ((ctlBlock (ctlW e_ g_ k_ l_ b_)) == 0) (.stop [.c [0, 1, 0, 1, 1, 1, 1, 1, 1, 1, 1, 1, 1, 1, 1], .b 0, .c [1, 1, 1, 1, 1, 1, 1, 1, 1, 1, 1, 1, 1]] [(5, .bool true), (6, vP b_4), (7, vP ba_5), (9, vP g_8), (10, vI (((mkAr (cfgR q0) aw_6 cw_7).store (ctlAt (cfgR q0) 1) (ctlW e_ g_ k_ l_ b_)).steps)), (11, vP b_10), (12, vI 20), (13, vI 0)] [.pts b_1 [vI q0, vI q1] 22, E93487 b_2 e_ g_ k_ l_ b_, .raw 0 o_, Ee1539 b_4 (cfgR q0), Ee565f g_8 (cfgR q0) ((newGu (cfgR q0) 1 0 1 (bAnd .i64 q1 3)).client) ((newGu (cfgR q0) 1 0 1 (bAnd .i64 q1 3)).epoch) ((newGu (cfgR q0) 1 0 1 (bAnd .i64 q1 3)).slot) ((newGu (cfgR q0) 1 0 1 (bAnd .i64 q1 3)).word) (nxG g_8 (newGu (cfgR q0) 1 0 1 (bAnd .i64 q1 3)).ph) ((newGu (cfgR q0) 1 0 1 (bAnd .i64 q1 3)).seen) ((newGu (cfgR q0) 1 0 1 (bAnd .i64 q1 3)).block) ((newGu (cfgR q0) 1 0 1 (bAnd .i64 q1 3)).failed) ((newGu (cfgR q0) 1 0 1 (bAnd .i64 q1 3)).commit) (errV (newGu (cfgR q0) 1 0 1 (bAnd .i64 q1 3)).code), Ed5fc1 ba_5 ((mkAr (cfgR q0) aw_6 cw_7).store (ctlAt (cfgR q0) 1) (ctlW e_ g_ k_ l_ b_)), E5552f ((mkAr (cfgR q0) aw_6 cw_7).store (ctlAt (cfgR q0) 1) (ctlW e_ g_ k_ l_ b_)), Ebee6b b_10 (ctlEpoch (ctlW e_ g_ k_ l_ b_)) (ctlGen (ctlW e_ g_ k_ l_ b_)) (ctlBlock (ctlW e_ g_ k_ l_ b_)) (ctlLive (ctlW e_ g_ k_ l_ b_)) (ctlBusy (ctlW e_ g_ k_ l_ b_))]) (.bad)))))))))) (by kernel_rfl) ?_
        refine ok_obl rfl ?_
        refine ok_obl rfl ?_
        refine ok_br (fun h => absurd (show (!(ctlLive (ctlW e_ g_ k_ l_ b_))) = false from (by simp [hl])) (by rw [h]; simp)) (fun _ => ?_)
        refine ok_obl rfl ?_
        refine ok_obl rfl ?_
        refine ok_obl rfl ?_
        refine ok_br (fun h => absurd (show ((ctlEpoch (ctlW e_ g_ k_ l_ b_)) != (bAnd .i64 q1 3)) = false from (bne_eq_false_iff_eq.2 he)) (by rw [h]; simp)) (fun _ => ?_)
        refine ok_obl rfl ?_
        refine ok_br (fun _ => ?_) (fun h => absurd (show ((ctlBlock (ctlW e_ g_ k_ l_ b_)) == 0) = true from (beq_iff_eq.2 hb)) (by rw [h]; simp))
        refine ok_stop ?_
        refine go_loop (ι := Int × Gu × Ar) (fun i2 => [(5, .bool true), (6, vP b_4), (7, vP ba_5), (9, vP g_8), (10, vI (((mkAr (cfgR q0) aw_6 cw_7).store (ctlAt (cfgR q0) 1) (ctlW e_ g_ k_ l_ b_)).steps)), (11, vP b_10), (12, vI 20), (13, vI i2.1)]) (fun i2 => [.pts b_1 [vI q0, vI q1] 22, E93487 b_2 e_ g_ k_ l_ b_, .raw 0 o_, Ee1539 b_4 (cfgR q0), Ebee6b b_10 (ctlEpoch (ctlW e_ g_ k_ l_ b_)) (ctlGen (ctlW e_ g_ k_ l_ b_)) (ctlBlock (ctlW e_ g_ k_ l_ b_)) (ctlLive (ctlW e_ g_ k_ l_ b_)) (ctlBusy (ctlW e_ g_ k_ l_ b_)), Ee565f g_8 (cfgR q0) i2.2.1.client i2.2.1.epoch i2.2.1.slot i2.2.1.word (nxG g_8 i2.2.1.ph) i2.2.1.seen i2.2.1.block i2.2.1.failed i2.2.1.commit (errV i2.2.1.code), Ed5fc1 ba_5 i2.2.2, E5552f i2.2.2]) (fun i2 => (0 ≤ i2.1 ∧ i2.1 ≤ 5) ∧ (i2.2.1, i2.2.2) = runGu (cfgR q0).retry i2.1.toNat (newGu (cfgR q0) 1 0 1 (bAnd .i64 q1 3)) ((mkAr (cfgR q0) aw_6 cw_7).store (ctlAt (cfgR q0) 1) (ctlW e_ g_ k_ l_ b_)) ∧ Gu.Ok (cfgR q0) i2.2.2.n i2.2.1 ∧ ArW (cfgR q0) i2.2.2 (50 + i2.1)) (fun i2 => (5 - i2.1).toNat) (0, (newGu (cfgR q0) 1 0 1 (bAnd .i64 q1 3)), ((mkAr (cfgR q0) aw_6 cw_7).store (ctlAt (cfgR q0) 1) (ctlW e_ g_ k_ l_ b_))) [5, 6, 7, 9, 10, 11, 12, 13] [0, 1, 2, 3, 7, 4, 5, 6] (by kernel_rfl) (by kernel_rfl) (by kernel_rfl) (by kernel_rfl) ⟨(by dsimp only; omega), rfl, hG1, (hA1.mono (by dsimp only; omega))⟩ ?_
        intro i2 J_11 hIJ_11 hJ_11
        have hxi2 := hIJ_11
        have hki2 := hxi2.1
        refine go_exec (rs := [.tmp 4]) (by kernel_rfl) 4000 [.sp [64] [.z [0, 0, 1, 0, 0, 1, 0, 1, 1, 1, 1, 1, 1, 1, 1, 1, 1, 1, 1] 2 [5, 6, 7, 9, 10, 11, 12, 13, 67, 68]] [.z [0, 1, 1, 1, 1, 1, 1, 1, 1, 1, 1, 1, 1, 1, 1, 1, 1, 1] 0 [5, 6, 7, 9, 10, 12, 14, 15, 16]]] (o := .br (decide (i2.1 < 5)) (.stop [.o [0, 0, 1, 0, 0, 1, 0, 1, 1, 1, 1, 1, 1, 1, 1, 1, 1, 1, 1] 2, .b 1, .c [1, 1, 0, 0, 1, 0, 1, 1, 1, 1, 1, 1, 1, 1, 1, 1, 1, 1], .j J_11, .b 0, .c [1, 1, 1, 1, 1, 1, 1, 1, 1, 1, 1, 1, 1]] [(5, .bool true), (6, vP b_4), (7, vP ba_5), (9, vP g_8), (10, vI (((mkAr (cfgR q0) aw_6 cw_7).store (ctlAt (cfgR q0) 1) (ctlW e_ g_ k_ l_ b_)).steps)), (11, vP b_10), (12, vI 20), (13, vI i2.1), (67, vP g_8), (68, vP ba_5)] [.pts b_1 [vI q0, vI q1] 22, E93487 b_2 e_ g_ k_ l_ b_, .raw 0 o_, Ee1539 b_4 (cfgR q0), Ebee6b b_10 (ctlEpoch (ctlW e_ g_ k_ l_ b_)) (ctlGen (ctlW e_ g_ k_ l_ b_)) (ctlBlock (ctlW e_ g_ k_ l_ b_)) (ctlLive (ctlW e_ g_ k_ l_ b_)) (ctlBusy (ctlW e_ g_ k_ l_ b_)), Ee565f g_8 (cfgR q0) i2.2.1.client i2.2.1.epoch i2.2.1.slot i2.2.1.word (nxG g_8 i2.2.1.ph) i2.2.1.seen i2.2.1.block i2.2.1.failed i2.2.1.commit (errV i2.2.1.code), Ed5fc1 ba_5 i2.2.2, E5552f i2.2.2]) (.stop [.o [0, 1, 1, 1, 1, 1, 1, 1, 1, 1, 1, 1, 1, 1, 1, 1, 1, 1] 0, .c [1, 1, 1, 1, 1, 1, 1, 1, 1, 1, 1, 1, 1, 1, 1, 1, 1, 1]] [(5, .bool true), (6, vP b_4), (7, vP ba_5), (9, vP g_8), (10, vI (((mkAr (cfgR q0) aw_6 cw_7).store (ctlAt (cfgR q0) 1) (ctlW e_ g_ k_ l_ b_)).steps)), (12, vI 20), (14, vI 1), (15, vU 0), (16, vI 0)] [.pts b_1 [vI q0, vI q1] 22, E93487 b_2 e_ g_ k_ l_ b_, .raw 0 o_, Ee1539 b_4 (cfgR q0), Ebee6b b_10 (ctlEpoch (ctlW e_ g_ k_ l_ b_)) (ctlGen (ctlW e_ g_ k_ l_ b_)) (ctlBlock (ctlW e_ g_ k_ l_ b_)) (ctlLive (ctlW e_ g_ k_ l_ b_)) (ctlBusy (ctlW e_ g_ k_ l_ b_)), Ee565f g_8 (cfgR q0) i2.2.1.client i2.2.1.epoch i2.2.1.slot i2.2.1.word (nxG g_8 i2.2.1.ph) i2.2.1.seen i2.2.1.block i2.2.1.failed i2.2.1.commit (errV i2.2.1.code), Ed5fc1 ba_5 i2.2.2, E5552f i2.2.2])) (by kernel_rfl) ?_
        refine ok_br (fun h_12 => ?_) (fun h_12 => ?_)
        · replace h_12 := decT h_12
          refine ok_stop ?_
          refine go_call (some 69) [5, 6, 7] Tryd.call15 (guard_Step (cfgR q0) g_8 ba_5 i2.2.1 i2.2.2 hc hxi2.2.2.2.1 (by have h2 := hxi2.2.2.2.2.2.2; omega) hxi2.2.2.2.2.2.1 hxi2.2.2.1) (by kernel_rfl) ?_
          rintro v post ⟨rfl, rfl⟩
          refine go_exec (rs := [.tmp 4]) (by kernel_rfl) 4000 [.n, .z [] 0 [5, 6, 7, 9, 10, 11, 12, 13]] (o := .obl (InK .i64 (i2.1 + 1)) (.stop [.j J_11, .b 0, .c [1, 1, 1, 1, 1, 1, 1, 1, 1, 1, 1, 1, 1]] [(5, .bool true), (6, vP b_4), (7, vP ba_5), (9, vP g_8), (10, vI (((mkAr (cfgR q0) aw_6 cw_7).store (ctlAt (cfgR q0) 1) (ctlW e_ g_ k_ l_ b_)).steps)), (11, vP b_10), (12, vI 20), (13, vI (i2.1 + 1))] [.pts b_1 [vI q0, vI q1] 22, E93487 b_2 e_ g_ k_ l_ b_, .raw 0 o_, Ee1539 b_4 (cfgR q0), Ebee6b b_10 (ctlEpoch (ctlW e_ g_ k_ l_ b_)) (ctlGen (ctlW e_ g_ k_ l_ b_)) (ctlBlock (ctlW e_ g_ k_ l_ b_)) (ctlLive (ctlW e_ g_ k_ l_ b_)) (ctlBusy (ctlW e_ g_ k_ l_ b_)), Ee565f g_8 (cfgR q0) ((i2.2.1.step ((cfgR q0).retry) i2.2.2).1.client) ((i2.2.1.step ((cfgR q0).retry) i2.2.2).1.epoch) ((i2.2.1.step ((cfgR q0).retry) i2.2.2).1.slot) ((i2.2.1.step ((cfgR q0).retry) i2.2.2).1.word) (nxG g_8 (i2.2.1.step ((cfgR q0).retry) i2.2.2).1.ph) ((i2.2.1.step ((cfgR q0).retry) i2.2.2).1.seen) ((i2.2.1.step ((cfgR q0).retry) i2.2.2).1.block) ((i2.2.1.step ((cfgR q0).retry) i2.2.2).1.failed) ((i2.2.1.step ((cfgR q0).retry) i2.2.2).1.commit) (errV (i2.2.1.step ((cfgR q0).retry) i2.2.2).1.code), Ed5fc1 ba_5 ((i2.2.1.step ((cfgR q0).retry) i2.2.2).2), E5552f ((i2.2.1.step ((cfgR q0).retry) i2.2.2).2)])) (by kernel_rfl) ?_
          refine ok_obl (by have := and3 q1; simp only [InK]; omega) ?_
          refine ok_stop ?_
          exact go_back hJ_11 ((i2.1 + 1), (i2.2.1.step ((cfgR q0).retry) i2.2.2).1, (i2.2.1.step ((cfgR q0).retry) i2.2.2).2) [0, 1, 2, 3, 4, 5, 6, 7] (by kernel_rfl) (by kernel_rfl) (by kernel_rfl) ⟨(by dsimp only; omega), (by dsimp only; rw [show (i2.1 + 1).toNat = i2.1.toNat + 1 by omega, runGu_succ, ← hxi2.2.1]), (gu_step hc hxi2.2.2.1 hxi2.2.2.2).1, ((gu_step hc hxi2.2.2.1 hxi2.2.2.2).2.mono (by dsimp only; omega))⟩ (by dsimp only; omega)
        · replace h_12 := decF h_12
          refine ok_stop ?_
          have h9 : i2.1 = 5 := by omega
          have hr5 := hxi2.2.1
          rw [h9] at hr5
          have hr5 : (i2.2.1, i2.2.2) = runGu (cfgR q0).retry 5 (newGu (cfgR q0) 1 0 1 (bAnd .i64 q1 3)) ((mkAr (cfgR q0) aw_6 cw_7).store (ctlAt (cfgR q0) 1) (ctlW e_ g_ k_ l_ b_)) := hr5
          have hlk : lookE (List.getD ((mkAr (cfgR q0) aw_6 cw_7).store (ctlAt (cfgR q0) 1) (ctlW e_ g_ k_ l_ b_)).ws (Gu.word (newGu (cfgR q0) 1 0 1 (bAnd .i64 q1 3))).toNat 0) (Gu.epoch (newGu (cfgR q0) 1 0 1 (bAnd .i64 q1 3))) = 20 := by
            show lookE (List.getD _ (ctlAt (cfgR q0) 1).toNat 0) (bAnd .i64 q1 3) = 20
            rw [hwW]; exact (by unfold lookE; rw [if_pos ⟨hl, he⟩, if_pos hb])
          have hfin := hr5.trans (steady_bad (r := (cfgR q0).retry) (G := (newGu (cfgR q0) 1 0 1 (bAnd .i64 q1 3))) (A := ((mkAr (cfgR q0) aw_6 cw_7).store (ctlAt (cfgR q0) 1) (ctlW e_ g_ k_ l_ b_))) rfl (by rw [hlk]; decide))
          rw [hlk] at hfin
          have hG5 := congrArg Prod.fst hfin
          have hA5 := congrArg Prod.snd hfin
          simp only at hG5 hA5
          have hv0 : i2.2.2.ws.getD (slotAt (cfgR q0) 0).toNat 0 = 0 := by rw [hA5]; exact hw0
          have hv1 : i2.2.2.ws.getD (slotAt (cfgR q0) 1).toNat 0 = 0 := by rw [hA5]; exact hw1
          have hL5 := hxi2.2.2.2.1
          have hN5 := hxi2.2.2.2.2.1
          have hS5 := hxi2.2.2.2.2.2.2
          refine go_exec (rs := [.tmp 4]) (by kernel_rfl) 4000 [.z [0, 1, 1, 1, 1, 1, 1, 1, 1, 1, 1, 1, 1, 1, 1, 1, 1, 1] 1 [5, 6, 7, 9, 10, 12, 14, 15, 16, 77]] (o := .stop [.o [0, 1, 1, 1, 1, 1, 1, 1, 1, 1, 1, 1, 1, 1, 1, 1, 1, 1] 1, .c [1, 1, 1, 1, 1, 1, 1, 1, 1, 1, 1, 1, 1, 1, 1, 1, 1, 1]] [(5, .bool true), (6, vP b_4), (7, vP ba_5), (9, vP g_8), (10, vI (((mkAr (cfgR q0) aw_6 cw_7).store (ctlAt (cfgR q0) 1) (ctlW e_ g_ k_ l_ b_)).steps)), (12, vI 20), (14, vI 1), (15, vU 0), (16, vI 0), (77, vP g_8)] [.pts b_1 [vI q0, vI q1] 22, E93487 b_2 e_ g_ k_ l_ b_, .raw 0 o_, Ee1539 b_4 (cfgR q0), Ebee6b b_10 (ctlEpoch (ctlW e_ g_ k_ l_ b_)) (ctlGen (ctlW e_ g_ k_ l_ b_)) (ctlBlock (ctlW e_ g_ k_ l_ b_)) (ctlLive (ctlW e_ g_ k_ l_ b_)) (ctlBusy (ctlW e_ g_ k_ l_ b_)), Ee565f g_8 (cfgR q0) i2.2.1.client i2.2.1.epoch i2.2.1.slot i2.2.1.word (nxG g_8 i2.2.1.ph) i2.2.1.seen i2.2.1.block i2.2.1.failed i2.2.1.commit (errV i2.2.1.code), Ed5fc1 ba_5 i2.2.2, E5552f i2.2.2]) (by kernel_rfl) ?_
          refine ok_stop ?_
          refine go_call (some 78) [5] Tryd.call16 (guard_Told (cfgR q0) g_8 i2.2.1 hxi2.2.2.1.ph) (by kernel_rfl) ?_
          rintro v post ⟨rfl, rfl⟩
          refine go_exec (rs := [.tmp 4]) (by kernel_rfl) 4000 [.z [0, 1, 1, 1, 1, 1, 1, 1, 1, 1, 1, 1, 1, 1, 1, 1, 1, 1, 1] 1 [5, 6, 7, 9, 10, 12, 14, 15, 16, 17, 18, 81]] (o := .stop [.o [0, 1, 1, 1, 1, 1, 1, 1, 1, 1, 1, 1, 1, 1, 1, 1, 1, 1, 1] 1, .c [1, 1, 1, 1, 1, 1, 1, 1, 1, 1, 1, 1, 1, 1, 1, 1, 1, 1, 1]] [(5, .bool true), (6, vP b_4), (7, vP ba_5), (9, vP g_8), (10, vI (((mkAr (cfgR q0) aw_6 cw_7).store (ctlAt (cfgR q0) 1) (ctlW e_ g_ k_ l_ b_)).steps)), (12, vI 20), (14, vI 1), (15, vU 0), (16, vI 0), (17, vI ((Gu.told i2.2.1).1)), (18, (errV (Gu.told i2.2.1).2)), (81, vP ba_5)] [.pts b_1 [vI q0, vI q1] 22, E93487 b_2 e_ g_ k_ l_ b_, .raw 0 o_, Ee1539 b_4 (cfgR q0), Ebee6b b_10 (ctlEpoch (ctlW e_ g_ k_ l_ b_)) (ctlGen (ctlW e_ g_ k_ l_ b_)) (ctlBlock (ctlW e_ g_ k_ l_ b_)) (ctlLive (ctlW e_ g_ k_ l_ b_)) (ctlBusy (ctlW e_ g_ k_ l_ b_)), Ed5fc1 ba_5 i2.2.2, E5552f i2.2.2, Ee565f g_8 (cfgR q0) i2.2.1.client i2.2.1.epoch i2.2.1.slot i2.2.1.word (nxG g_8 i2.2.1.ph) i2.2.1.seen i2.2.1.block i2.2.1.failed i2.2.1.commit (errV i2.2.1.code)]) (by kernel_rfl) ?_
          refine ok_stop ?_
          refine go_call (some 82) [5, 6] Tryd.call19 (arena_Words ba_5 i2.2.2 hL5 (by have := sizeOfC_ok hc; omega)) (by kernel_rfl) ?_
          rintro v post ⟨a2_13, c2_14, rfl, rfl⟩
          refine go_exec (rs := [.tmp 4]) (by kernel_rfl) 4000 [.z [0, 1, 1, 1, 1, 1, 1, 1, 1, 1, 1, 1, 1, 1, 1, 1, 1, 1, 1, 1] 3 [6, 7, 9, 10, 12, 14, 15, 16, 17, 18, 19, 84, 85]] (o := .stop [.o [0, 1, 1, 1, 1, 1, 1, 1, 1, 1, 1, 1, 1, 1, 1, 1, 1, 1, 1, 1] 3, .c [1, 1, 1, 1, 1, 1, 1, 1, 1, 1, 1, 1, 1, 1, 1, 1, 1, 1, 1, 1]] [(6, vP b_4), (7, vP ba_5), (9, vP g_8), (10, vI (((mkAr (cfgR q0) aw_6 cw_7).store (ctlAt (cfgR q0) 1) (ctlW e_ g_ k_ l_ b_)).steps)), (12, vI 20), (14, vI 1), (15, vU 0), (16, vI 0), (17, vI ((Gu.told i2.2.1).1)), (18, (errV (Gu.told i2.2.1).2)), (19, .slice a2_13 i2.2.2.ws.length c2_14), (84, .bool true), (85, vP g_8)] [.pts b_1 [vI q0, vI q1] 22, E93487 b_2 e_ g_ k_ l_ b_, .raw 0 o_, Ee1539 b_4 (cfgR q0), Ebee6b b_10 (ctlEpoch (ctlW e_ g_ k_ l_ b_)) (ctlGen (ctlW e_ g_ k_ l_ b_)) (ctlBlock (ctlW e_ g_ k_ l_ b_)) (ctlLive (ctlW e_ g_ k_ l_ b_)) (ctlBusy (ctlW e_ g_ k_ l_ b_)), Ee565f g_8 (cfgR q0) i2.2.1.client i2.2.1.epoch i2.2.1.slot i2.2.1.word (nxG g_8 i2.2.1.ph) i2.2.1.seen i2.2.1.block i2.2.1.failed i2.2.1.commit (errV i2.2.1.code), Ed5fc1 ba_5 i2.2.2, E5552f i2.2.2, E72a8d a2_13 c2_14 i2.2.2.ws]) (by kernel_rfl) ?_
          refine ok_stop ?_
          refine go_call (some 86) [5] Tryd.call14 (guard_Done (cfgR q0) g_8 i2.2.1 hxi2.2.2.1.ph) (by kernel_rfl) ?_
          rintro v post ⟨rfl, rfl⟩
          refine go_exec (rs := [.tmp 4]) (by kernel_rfl) 4000 [.sp [88, 86, 87] [.z [0, 1, 1, 1, 1, 1, 1, 1, 1, 1, 1, 1, 1, 1, 1, 1, 1, 1, 1, 1] 7 [6, 7, 9, 10, 12, 14, 15, 16, 17, 19, 88, 89]] [.dead]] (o := .obl ((i2.2.1.ph == 0) = (i2.2.1.ph == 0)) (.obl ((i2.2.1.ph == 0) = (i2.2.1.ph == 0)) (.br (i2.2.1.ph == 0) (.stop [.o [0, 1, 1, 1, 1, 1, 1, 1, 1, 1, 1, 1, 1, 1, 1, 1, 1, 1, 1, 1] 7, .c [1, 1, 1, 1, 1, 1, 1, 1, 1, 1, 1, 1, 1, 1, 1, 1, 1, 1, 1, 1]] [(6, vP b_4), (7, vP ba_5), (9, vP g_8), (10, vI (((mkAr (cfgR q0) aw_6 cw_7).store (ctlAt (cfgR q0) 1) (ctlW e_ g_ k_ l_ b_)).steps)), (12, vI 20), (14, vI 1), (15, vU 0), (16, vI 0), (17, vI ((Gu.told i2.2.1).1)), (19, .slice a2_13 i2.2.2.ws.length c2_14), (88, .bool true), (89, (errV (Gu.told i2.2.1).2))] [.pts b_1 [vI q0, vI q1] 22, E93487 b_2 e_ g_ k_ l_ b_, .raw 0 o_, Ee1539 b_4 (cfgR q0), Ebee6b b_10 (ctlEpoch (ctlW e_ g_ k_ l_ b_)) (ctlGen (ctlW e_ g_ k_ l_ b_)) (ctlBlock (ctlW e_ g_ k_ l_ b_)) (ctlLive (ctlW e_ g_ k_ l_ b_)) (ctlBusy (ctlW e_ g_ k_ l_ b_)), Ed5fc1 ba_5 i2.2.2, E5552f i2.2.2, E72a8d a2_13 c2_14 i2.2.2.ws, Ee565f g_8 (cfgR q0) i2.2.1.client i2.2.1.epoch i2.2.1.slot i2.2.1.word (nxG g_8 i2.2.1.ph) i2.2.1.seen i2.2.1.block i2.2.1.failed i2.2.1.commit (errV i2.2.1.code)]) (.bad)))) (by kernel_rfl) ?_
          refine ok_obl rfl ?_
          refine ok_obl rfl ?_
          refine ok_br (fun _ => ?_) (fun h => absurd (show (i2.2.1.ph == 0) = true from (by rw [hG5]; rfl)) (by rw [h]; simp))
          refine ok_stop ?_
          refine go_call (some 90) [2] Tryd.call17 (cause_Top o_ ((Gu.told i2.2.1).2) ho) (by kernel_rfl) ?_
          rintro v post ⟨rfl, rfl⟩
          refine go_exec (rs := [.tmp 4]) (by kernel_rfl) 4000 [.sp [94, 92, 93] [.sp [99, 97, 98] [.z [0, 1, 1, 1, 1, 1, 1, 1, 1, 1, 1, 1, 1, 1, 1, 1, 1, 1, 1, 1] 18 [6, 9, 10, 14, 15, 19, 99, 100]] [.dead]] [.dead]] (o := .obl ((((Gu.told i2.2.1).2) == 20) = (((Gu.told i2.2.1).2) == 20)) (.obl ((((Gu.told i2.2.1).2) == 20) = (((Gu.told i2.2.1).2) == 20)) (.br (((Gu.told i2.2.1).2) == 20) (.obl ((((Gu.told i2.2.1).1) == 0) = (((Gu.told i2.2.1).1) == 0)) (.obl ((((Gu.told i2.2.1).1) == 0) = (((Gu.told i2.2.1).1) == 0)) (.br (((Gu.told i2.2.1).1) == 0) (.stop [.o [0, 1, 1, 1, 1, 1, 1, 1, 1, 1, 1, 1, 1, 1, 1, 1, 1, 1, 1, 1] 18, .c [1, 1, 1, 1, 1, 1, 1, 1, 1, 1, 1, 1, 1, 1, 1, 1, 1, 1, 1, 1]] [(6, vP b_4), (9, vP g_8), (10, vI (((mkAr (cfgR q0) aw_6 cw_7).store (ctlAt (cfgR q0) 1) (ctlW e_ g_ k_ l_ b_)).steps)), (14, vI 1), (15, vU 0), (19, .slice a2_13 i2.2.2.ws.length c2_14), (99, .bool true), (100, vP ba_5)] [.pts b_1 [vI q0, vI q1] 22, E93487 b_2 e_ g_ k_ l_ b_, Ee1539 b_4 (cfgR q0), Ebee6b b_10 (ctlEpoch (ctlW e_ g_ k_ l_ b_)) (ctlGen (ctlW e_ g_ k_ l_ b_)) (ctlBlock (ctlW e_ g_ k_ l_ b_)) (ctlLive (ctlW e_ g_ k_ l_ b_)) (ctlBusy (ctlW e_ g_ k_ l_ b_)), Ed5fc1 ba_5 i2.2.2, E5552f i2.2.2, E72a8d a2_13 c2_14 i2.2.2.ws, Ee565f g_8 (cfgR q0) i2.2.1.client i2.2.1.epoch i2.2.1.slot i2.2.1.word (nxG g_8 i2.2.1.ph) i2.2.1.seen i2.2.1.block i2.2.1.failed i2.2.1.commit (errV i2.2.1.code), .raw 0 o_]) (.bad)))) (.bad)))) (by kernel_rfl) ?_
          refine ok_obl rfl ?_
          refine ok_obl rfl ?_
          refine ok_br (fun _ => ?_) (fun h => absurd (show (((Gu.told i2.2.1).2) == 20) = true from (by rw [hG5]; exact beq_self_eq_true _)) (by rw [h]; simp))
          refine ok_obl rfl ?_
          refine ok_obl rfl ?_
          refine ok_br (fun _ => ?_) (fun h => absurd (show (((Gu.told i2.2.1).1) == 0) = true from (by rw [hG5]; exact beq_self_eq_true _)) (by rw [h]; simp))
          refine ok_stop ?_
          refine go_call (some 101) [4, 5] Tryd.call23 (arena_Steps ba_5 i2.2.2) (by kernel_rfl) ?_
          rintro v post ⟨rfl, rfl⟩
          refine go_exec (rs := [.tmp 4]) (by kernel_rfl) 4000 [.n, .sp [107, 105, 106] [.z [0, 1, 1, 1, 1, 1, 1, 1, 1, 1, 1, 1, 1, 1, 1, 1, 1, 1, 1, 1] 26 [6, 10, 14, 15, 19, 107, 108]] [.dead]] (o := .obl (InK .i64 ((((mkAr (cfgR q0) aw_6 cw_7).store (ctlAt (cfgR q0) 1) (ctlW e_ g_ k_ l_ b_)).steps) + 1)) (.obl ((i2.2.2.steps == ((((mkAr (cfgR q0) aw_6 cw_7).store (ctlAt (cfgR q0) 1) (ctlW e_ g_ k_ l_ b_)).steps) + 1)) = (i2.2.2.steps == ((((mkAr (cfgR q0) aw_6 cw_7).store (ctlAt (cfgR q0) 1) (ctlW e_ g_ k_ l_ b_)).steps) + 1))) (.obl ((i2.2.2.steps == ((((mkAr (cfgR q0) aw_6 cw_7).store (ctlAt (cfgR q0) 1) (ctlW e_ g_ k_ l_ b_)).steps) + 1)) = (i2.2.2.steps == ((((mkAr (cfgR q0) aw_6 cw_7).store (ctlAt (cfgR q0) 1) (ctlW e_ g_ k_ l_ b_)).steps) + 1))) (.br (i2.2.2.steps == ((((mkAr (cfgR q0) aw_6 cw_7).store (ctlAt (cfgR q0) 1) (ctlW e_ g_ k_ l_ b_)).steps) + 1)) (.stop [.o [0, 1, 1, 1, 1, 1, 1, 1, 1, 1, 1, 1, 1, 1, 1, 1, 1, 1, 1, 1] 26, .c [1, 1, 1, 1, 1, 1, 1, 1, 1, 1, 1, 1, 1, 1, 1, 1, 1, 1, 1, 1]] [(6, vP b_4), (10, vI (((mkAr (cfgR q0) aw_6 cw_7).store (ctlAt (cfgR q0) 1) (ctlW e_ g_ k_ l_ b_)).steps)), (14, vI 1), (15, vU 0), (19, .slice a2_13 i2.2.2.ws.length c2_14), (107, .bool true), (108, vP g_8)] [.pts b_1 [vI q0, vI q1] 22, E93487 b_2 e_ g_ k_ l_ b_, Ee1539 b_4 (cfgR q0), Ebee6b b_10 (ctlEpoch (ctlW e_ g_ k_ l_ b_)) (ctlGen (ctlW e_ g_ k_ l_ b_)) (ctlBlock (ctlW e_ g_ k_ l_ b_)) (ctlLive (ctlW e_ g_ k_ l_ b_)) (ctlBusy (ctlW e_ g_ k_ l_ b_)), E72a8d a2_13 c2_14 i2.2.2.ws, Ee565f g_8 (cfgR q0) i2.2.1.client i2.2.1.epoch i2.2.1.slot i2.2.1.word (nxG g_8 i2.2.1.ph) i2.2.1.seen i2.2.1.block i2.2.1.failed i2.2.1.commit (errV i2.2.1.code), .raw 0 o_, Ed5fc1 ba_5 i2.2.2, E5552f i2.2.2]) (.bad))))) (by kernel_rfl) ?_
          refine ok_obl (by have := and3 q1; simp only [InK]; omega) ?_
          refine ok_obl rfl ?_
          refine ok_obl rfl ?_
          refine ok_br (fun _ => ?_) (fun h => absurd (show (i2.2.2.steps == ((((mkAr (cfgR q0) aw_6 cw_7).store (ctlAt (cfgR q0) 1) (ctlW e_ g_ k_ l_ b_)).steps) + 1)) = true from (beq_iff_eq.2 (by rw [hA5]; simp only [Ar.load, Ar.store] <;> omega))) (by rw [h]; simp))
          refine ok_stop ?_
          refine go_call (some 109) [5] Tryd.call18 (guard_Commit (cfgR q0) g_8 i2.2.1 hxi2.2.2.1.ph) (by kernel_rfl) ?_
          rintro v post ⟨rfl, rfl⟩
          refine go_exec (rs := [.tmp 4]) (by kernel_rfl) 4000 [.n, .sp [115, 113, 114] [.sp [120, 118, 119] [.e 2, .z [0, 1, 1, 1, 1, 1, 1, 1, 1, 1, 1, 1, 1, 1, 1, 1, 1, 1, 1, 1] 40 [6, 15, 19, 120, 121, 122]] [.dead]] [.dead]] (o := .obl (InK .i64 ((((mkAr (cfgR q0) aw_6 cw_7).store (ctlAt (cfgR q0) 1) (ctlW e_ g_ k_ l_ b_)).steps) + 1)) (.obl (((Gu.comm i2.2.1) == ((((mkAr (cfgR q0) aw_6 cw_7).store (ctlAt (cfgR q0) 1) (ctlW e_ g_ k_ l_ b_)).steps) + 1)) = ((Gu.comm i2.2.1) == ((((mkAr (cfgR q0) aw_6 cw_7).store (ctlAt (cfgR q0) 1) (ctlW e_ g_ k_ l_ b_)).steps) + 1))) (.obl (((Gu.comm i2.2.1) == ((((mkAr (cfgR q0) aw_6 cw_7).store (ctlAt (cfgR q0) 1) (ctlW e_ g_ k_ l_ b_)).steps) + 1)) = ((Gu.comm i2.2.1) == ((((mkAr (cfgR q0) aw_6 cw_7).store (ctlAt (cfgR q0) 1) (ctlW e_ g_ k_ l_ b_)).steps) + 1))) (.br ((Gu.comm i2.2.1) == ((((mkAr (cfgR q0) aw_6 cw_7).store (ctlAt (cfgR q0) 1) (ctlW e_ g_ k_ l_ b_)).steps) + 1)) (.obl ((decide (((i2.2.2.ws.length : Nat) : Int) > 8)) = (decide (((i2.2.2.ws.length : Nat) : Int) > 8))) (.obl ((decide (((i2.2.2.ws.length : Nat) : Int) > 8)) = (decide (((i2.2.2.ws.length : Nat) : Int) > 8))) (.br (decide (((i2.2.2.ws.length : Nat) : Int) > 8)) (.obl (b_4 = b_4) (.stop [.o [0, 1, 1, 1, 1, 1, 1, 1, 1, 1, 1, 1, 1, 1, 1, 1, 1, 1, 1, 1] 40, .c [1, 1, 1, 1, 1, 1, 1, 1, 1, 1, 1, 1, 1, 1, 1, 1, 1, 1, 1, 1]] [(6, vP b_4), (15, vU 0), (19, .slice a2_13 i2.2.2.ws.length c2_14), (120, .bool true), (121, .slice a2_13 i2.2.2.ws.length c2_14), (122, cfgV (cfgR q0))] [.pts b_1 [vI q0, vI q1] 22, E93487 b_2 e_ g_ k_ l_ b_, Ee1539 b_4 (cfgR q0), Ebee6b b_10 (ctlEpoch (ctlW e_ g_ k_ l_ b_)) (ctlGen (ctlW e_ g_ k_ l_ b_)) (ctlBlock (ctlW e_ g_ k_ l_ b_)) (ctlLive (ctlW e_ g_ k_ l_ b_)) (ctlBusy (ctlW e_ g_ k_ l_ b_)), E72a8d a2_13 c2_14 i2.2.2.ws, .raw 0 o_, Ed5fc1 ba_5 i2.2.2, E5552f i2.2.2, Ee565f g_8 (cfgR q0) i2.2.1.client i2.2.1.epoch i2.2.1.slot i2.2.1.word (nxG g_8 i2.2.1.ph) i2.2.1.seen i2.2.1.block i2.2.1.failed i2.2.1.commit (errV i2.2.1.code)])) (.bad)))) (.bad))))) (by kernel_rfl) ?_
          refine ok_obl (by have := and3 q1; simp only [InK]; omega) ?_
          refine ok_obl rfl ?_
          refine ok_obl rfl ?_
          refine ok_br (fun _ => ?_) (fun h => absurd (show ((Gu.comm i2.2.1) == ((((mkAr (cfgR q0) aw_6 cw_7).store (ctlAt (cfgR q0) 1) (ctlW e_ g_ k_ l_ b_)).steps) + 1)) = true from (beq_iff_eq.2 (by rw [hG5]; rfl))) (by rw [h]; simp))
          refine ok_obl rfl ?_
          refine ok_obl rfl ?_
          refine ok_br (fun _ => ?_) (fun h => absurd (show (decide (((i2.2.2.ws.length : Nat) : Int) > 8)) = true from (decide_eq_true (by omega))) (by rw [h]; simp))
          refine ok_obl rfl ?_
          refine ok_stop ?_
          refine go_call (some 123) [] Tryd.call20 (plan_Slot (cfgR q0) 0 hc) (by kernel_rfl) ?_
          rintro v post ⟨rfl, rfl⟩
          refine go_exec (rs := [.tmp 4]) (by kernel_rfl) 4000 [.s 4, .j 4 ((slotAt (cfgR q0) 0).toNat), .sp [129, 127, 128] [.e 2, .z [0, 1, 1, 1, 1, 1, 1, 1, 1, 1, 1, 1, 1, 1, 1, 1, 1, 1, 1, 1] 49 [129, 130, 131]] [.dead]] (o := .obl (a2_13 = a2_13 ∧ i2.2.2.ws.length = i2.2.2.ws.length) (.obl ((0 : Int) ≤ (slotAt (cfgR q0) 0) ∧ (slotAt (cfgR q0) 0) < ((i2.2.2.ws.length : Nat) : Int)) (.obl (slAt a2_13 ((slotAt (cfgR q0) 0).toNat) 1 = slAt a2_13 ((slotAt (cfgR q0) 0).toNat) 1) (.obl ((slotAt (cfgR q0) 0).toNat < i2.2.2.ws.length) (.obl (((i2.2.2.ws.getD ((slotAt (cfgR q0) 0).toNat) 0) == 0) = ((i2.2.2.ws.getD ((slotAt (cfgR q0) 0).toNat) 0) == 0)) (.obl (((i2.2.2.ws.getD ((slotAt (cfgR q0) 0).toNat) 0) == 0) = ((i2.2.2.ws.getD ((slotAt (cfgR q0) 0).toNat) 0) == 0)) (.br ((i2.2.2.ws.getD ((slotAt (cfgR q0) 0).toNat) 0) == 0) (.obl (b_4 = b_4) (.stop [.o [0, 1, 1, 1, 1, 1, 1, 1, 1, 1, 1, 1, 1, 1, 1, 1, 1, 1, 1, 1] 49, .c [1, 1, 1, 1, 1, 1, 1, 1, 1, 1, 1, 1, 1, 1, 1, 1, 1, 1, 1, 1]] [(129, .bool true), (130, .slice a2_13 i2.2.2.ws.length c2_14), (131, cfgV (cfgR q0))] [.pts b_1 [vI q0, vI q1] 22, E93487 b_2 e_ g_ k_ l_ b_, Ee1539 b_4 (cfgR q0), Ebee6b b_10 (ctlEpoch (ctlW e_ g_ k_ l_ b_)) (ctlGen (ctlW e_ g_ k_ l_ b_)) (ctlBlock (ctlW e_ g_ k_ l_ b_)) (ctlLive (ctlW e_ g_ k_ l_ b_)) (ctlBusy (ctlW e_ g_ k_ l_ b_)), E72a8d a2_13 c2_14 i2.2.2.ws, .raw 0 o_, Ed5fc1 ba_5 i2.2.2, E5552f i2.2.2, Ee565f g_8 (cfgR q0) i2.2.1.client i2.2.1.epoch i2.2.1.slot i2.2.1.word (nxG g_8 i2.2.1.ph) i2.2.1.seen i2.2.1.block i2.2.1.failed i2.2.1.commit (errV i2.2.1.code)])) (.bad)))))))) (by kernel_rfl) ?_
          refine ok_obl ⟨rfl, (by first | rfl | omega | (simp; done) | (simp; omega))⟩ ?_
          refine ok_obl (by first | omega | (simp; done) | (simp; omega)) ?_
          refine ok_obl rfl ?_
          refine ok_obl (by first | omega | (simp; done) | (simp; omega)) ?_
          refine ok_obl rfl ?_
          refine ok_obl rfl ?_
          refine ok_br (fun _ => ?_) (fun h => absurd (show ((i2.2.2.ws.getD ((slotAt (cfgR q0) 0).toNat) 0) == 0) = true from (beq_iff_eq.2 (by first | exact hv0 | exact hv1))) (by rw [h]; simp))
          refine ok_obl rfl ?_
          refine ok_stop ?_
          refine go_call (some 132) [] Tryd.call20 (plan_Slot (cfgR q0) 1 hc) (by kernel_rfl) ?_
          rintro v post ⟨rfl, rfl⟩
          refine go_exec (rs := [.tmp 4]) (by kernel_rfl) 4000 [.s 4, .j 4 ((slotAt (cfgR q0) 1).toNat)] (o := .obl (a2_13 = a2_13 ∧ i2.2.2.ws.length = i2.2.2.ws.length) (.obl ((0 : Int) ≤ (slotAt (cfgR q0) 1) ∧ (slotAt (cfgR q0) 1) < ((i2.2.2.ws.length : Nat) : Int)) (.obl (slAt a2_13 ((slotAt (cfgR q0) 1).toNat) 1 = slAt a2_13 ((slotAt (cfgR q0) 1).toNat) 1) (.obl ((slotAt (cfgR q0) 1).toNat < i2.2.2.ws.length) (.ret (.bool ((i2.2.2.ws.getD ((slotAt (cfgR q0) 1).toNat) 0) == 0)) [.pts b_1 [vI q0, vI q1] 22, E93487 b_2 e_ g_ k_ l_ b_, Ee1539 b_4 (cfgR q0), Ebee6b b_10 (ctlEpoch (ctlW e_ g_ k_ l_ b_)) (ctlGen (ctlW e_ g_ k_ l_ b_)) (ctlBlock (ctlW e_ g_ k_ l_ b_)) (ctlLive (ctlW e_ g_ k_ l_ b_)) (ctlBusy (ctlW e_ g_ k_ l_ b_)), E72a8d a2_13 c2_14 i2.2.2.ws, .raw 0 o_, Ed5fc1 ba_5 i2.2.2, E5552f i2.2.2, Ee565f g_8 (cfgR q0) i2.2.1.client i2.2.1.epoch i2.2.1.slot i2.2.1.word (nxG g_8 i2.2.1.ph) i2.2.1.seen i2.2.1.block i2.2.1.failed i2.2.1.commit (errV i2.2.1.code)]))))) (by kernel_rfl) ?_
          refine ok_obl ⟨rfl, (by first | rfl | omega | (simp; done) | (simp; omega))⟩ ?_
          refine ok_obl (by first | omega | (simp; done) | (simp; omega)) ?_
          refine ok_obl rfl ?_
          refine ok_obl (by first | omega | (simp; done) | (simp; omega)) ?_
          exact ret_ok (post := [.raw 0 o_]) [5] (by kernel_rfl) ⟨(congrArg Value.bool (by first | rfl | exact beq_iff_eq.2 hv1)), (by kernel_rfl)⟩
      · skip
        refine go_exec (rs := [.tmp 4]) (by kernel_rfl) 4000 [.e 7, .sp [52, 51] [.dead] [.e 7, .w, .e 0, .sp [59, 58] [.dead] [.e 7, .sp [62] [.dead] [.z [0, 1, 0, 1, 1, 1, 1, 1, 1, 1, 1, 1, 1, 1, 1] 0 [5, 6, 7, 9, 10, 11, 12, 13]]]]] (o := .obl (b_10 = b_10) (.obl ((!(ctlLive (ctlW e_ g_ k_ l_ b_))) = (!(ctlLive (ctlW e_ g_ k_ l_ b_)))) (.br (!(ctlLive (ctlW e_ g_ k_ l_ b_))) (.bad) (.obl (b_10 = b_10) (.obl (b_1 = b_1) (.obl (((ctlEpoch (ctlW e_ g_ k_ l_ b_)) != (bAnd .i64 q1 3)) = ((ctlEpoch (ctlW e_ g_ k_ l_ b_)) != (bAnd .i64 q1 3))) (.br ((ctlEpoch (ctlW e_ g_ k_ l_ b_)) != (bAnd .i64 q1 3)) (.bad) (.obl (b_10 = b_10) (.br ((ctlBlock (ctlW e_ g_ k_ l_ b_)) == 0) (.bad) (.stop [.c [0, 1, 0, 1, 1, 1, 1, 1, 1, 1, 1, 1, 1, 1, 1], .b 0, .c [1, 1, 1, 1, 1, 1, 1, 1, 1, 1, 1, 1, 1]] [(5, .bool true), (6, vP b_4), (7, vP ba_5), (9, vP g_8), (10, vI (((mkAr (cfgR q0) aw_6 cw_7).store (ctlAt (cfgR q0) 1) (ctlW e_ g_ k_ l_ b_)).steps)), (11, vP b_10), (12, vI 0), (13, vI 0)] [.pts b_1 [vI q0, vI q1] 22, E93487 b_2 e_ g_ k_ l_ b_, .raw 0 o_, Ee1539 b_4 (cfgR q0), Ee565f g_8 (cfgR q0) ((newGu (cfgR q0) 1 0 1 (bAnd .i64 q1 3)).client) ((newGu (cfgR q0) 1 0 1 (bAnd .i64 q1 3)).epoch) ((newGu (cfgR q0) 1 0 1 (bAnd .i64 q1 3)).slot) ((newGu (cfgR q0) 1 0 1 (bAnd .i64 q1 3)).word) (nxG g_8 (newGu (cfgR q0) 1 0 1 (bAnd .i64 q1 3)).ph) ((newGu (cfgR q0) 1 0 1 (bAnd .i64 q1 3)).seen) ((newGu (cfgR q0) 1 0 1 (bAnd .i64 q1 3)).block) ((newGu (cfgR q0) 1 0 1 (bAnd .i64 q1 3)).failed) ((newGu (cfgR q0) 1 0 1 (bAnd .i64 q1 3)).commit) (errV (newGu (cfgR q0) 1 0 1 (bAnd .i64 q1 3)).code), Ed5fc1 ba_5 ((mkAr (cfgR q0) aw_6 cw_7).store (ctlAt (cfgR q0) 1) (ctlW e_ g_ k_ l_ b_)), E5552f ((mkAr (cfgR q0) aw_6 cw_7).store (ctlAt (cfgR q0) 1) (ctlW e_ g_ k_ l_ b_)), Ebee6b b_10 (ctlEpoch (ctlW e_ g_ k_ l_ b_)) (ctlGen (ctlW e_ g_ k_ l_ b_)) (ctlBlock (ctlW e_ g_ k_ l_ b_)) (ctlLive (ctlW e_ g_ k_ l_ b_)) (ctlBusy (ctlW e_ g_ k_ l_ b_))])))))))))) (by kernel_rfl) ?_
        refine ok_obl rfl ?_
        refine ok_obl rfl ?_
        refine ok_br (fun h => absurd (show (!(ctlLive (ctlW e_ g_ k_ l_ b_))) = false from (by simp [hl])) (by rw [h]; simp)) (fun _ => ?_)
        refine ok_obl rfl ?_
        refine ok_obl rfl ?_
        refine ok_obl rfl ?_
        refine ok_br (fun h => absurd (show ((ctlEpoch (ctlW e_ g_ k_ l_ b_)) != (bAnd .i64 q1 3)) = false from (bne_eq_false_iff_eq.2 he)) (by rw [h]; simp)) (fun _ => ?_)
        refine ok_obl rfl ?_
        refine ok_br (fun h => absurd (show ((ctlBlock (ctlW e_ g_ k_ l_ b_)) == 0) = false from (beq_eq_false_iff_ne.2 hb)) (by rw [h]; simp)) (fun _ => ?_)
        refine ok_stop ?_
        refine go_loop (ι := Int × Gu × Ar) (fun i2 => [(5, .bool true), (6, vP b_4), (7, vP ba_5), (9, vP g_8), (10, vI (((mkAr (cfgR q0) aw_6 cw_7).store (ctlAt (cfgR q0) 1) (ctlW e_ g_ k_ l_ b_)).steps)), (11, vP b_10), (12, vI 0), (13, vI i2.1)]) (fun i2 => [.pts b_1 [vI q0, vI q1] 22, E93487 b_2 e_ g_ k_ l_ b_, .raw 0 o_, Ee1539 b_4 (cfgR q0), Ebee6b b_10 (ctlEpoch (ctlW e_ g_ k_ l_ b_)) (ctlGen (ctlW e_ g_ k_ l_ b_)) (ctlBlock (ctlW e_ g_ k_ l_ b_)) (ctlLive (ctlW e_ g_ k_ l_ b_)) (ctlBusy (ctlW e_ g_ k_ l_ b_)), Ee565f g_8 (cfgR q0) i2.2.1.client i2.2.1.epoch i2.2.1.slot i2.2.1.word (nxG g_8 i2.2.1.ph) i2.2.1.seen i2.2.1.block i2.2.1.failed i2.2.1.commit (errV i2.2.1.code), Ed5fc1 ba_5 i2.2.2, E5552f i2.2.2]) (fun i2 => (0 ≤ i2.1 ∧ i2.1 ≤ 5) ∧ (i2.2.1, i2.2.2) = runGu (cfgR q0).retry i2.1.toNat (newGu (cfgR q0) 1 0 1 (bAnd .i64 q1 3)) ((mkAr (cfgR q0) aw_6 cw_7).store (ctlAt (cfgR q0) 1) (ctlW e_ g_ k_ l_ b_)) ∧ Gu.Ok (cfgR q0) i2.2.2.n i2.2.1 ∧ ArW (cfgR q0) i2.2.2 (50 + i2.1)) (fun i2 => (5 - i2.1).toNat) (0, (newGu (cfgR q0) 1 0 1 (bAnd .i64 q1 3)), ((mkAr (cfgR q0) aw_6 cw_7).store (ctlAt (cfgR q0) 1) (ctlW e_ g_ k_ l_ b_))) [5, 6, 7, 9, 10, 11, 12, 13] [0, 1, 2, 3, 7, 4, 5, 6] (by kernel_rfl) (by kernel_rfl) (by kernel_rfl) (by kernel_rfl) ⟨(by dsimp only; omega), rfl, hG1, (hA1.mono (by dsimp only; omega))⟩ ?_
        intro i2 J_15 hIJ_15 hJ_15
        have hxi2 := hIJ_15
        have hki2 := hxi2.1
        refine go_exec (rs := [.tmp 4]) (by kernel_rfl) 4000 [.sp [64] [.z [0, 0, 1, 0, 0, 1, 0, 1, 1, 1, 1, 1, 1, 1, 1, 1, 1, 1, 1] 2 [5, 6, 7, 9, 10, 11, 12, 13, 67, 68]] [.e 4, .z [1, 1, 0, 1, 0, 1, 1, 1, 1, 1, 1, 1, 1, 1, 1, 1, 1, 1, 1, 1, 1] 1 [5, 6, 7, 9, 10, 12, 14, 16, 74]]] (o := .br (decide (i2.1 < 5)) (.stop [.o [0, 0, 1, 0, 0, 1, 0, 1, 1, 1, 1, 1, 1, 1, 1, 1, 1, 1, 1] 2, .b 1, .c [1, 1, 0, 0, 1, 0, 1, 1, 1, 1, 1, 1, 1, 1, 1, 1, 1, 1], .j J_15, .b 0, .c [1, 1, 1, 1, 1, 1, 1, 1, 1, 1, 1, 1, 1]] [(5, .bool true), (6, vP b_4), (7, vP ba_5), (9, vP g_8), (10, vI (((mkAr (cfgR q0) aw_6 cw_7).store (ctlAt (cfgR q0) 1) (ctlW e_ g_ k_ l_ b_)).steps)), (11, vP b_10), (12, vI 0), (13, vI i2.1), (67, vP g_8), (68, vP ba_5)] [.pts b_1 [vI q0, vI q1] 22, E93487 b_2 e_ g_ k_ l_ b_, .raw 0 o_, Ee1539 b_4 (cfgR q0), Ebee6b b_10 (ctlEpoch (ctlW e_ g_ k_ l_ b_)) (ctlGen (ctlW e_ g_ k_ l_ b_)) (ctlBlock (ctlW e_ g_ k_ l_ b_)) (ctlLive (ctlW e_ g_ k_ l_ b_)) (ctlBusy (ctlW e_ g_ k_ l_ b_)), Ee565f g_8 (cfgR q0) i2.2.1.client i2.2.1.epoch i2.2.1.slot i2.2.1.word (nxG g_8 i2.2.1.ph) i2.2.1.seen i2.2.1.block i2.2.1.failed i2.2.1.commit (errV i2.2.1.code), Ed5fc1 ba_5 i2.2.2, E5552f i2.2.2]) (.obl (b_10 = b_10) (.stop [.o [1, 1, 0, 1, 0, 1, 1, 1, 1, 1, 1, 1, 1, 1, 1, 1, 1, 1, 1, 1, 1] 1, .c [1, 1, 1, 1, 1, 1, 1, 1, 1, 1, 1, 1, 1, 1, 1, 1, 1]] [(5, .bool true), (6, vP b_4), (7, vP ba_5), (9, vP g_8), (10, vI (((mkAr (cfgR q0) aw_6 cw_7).store (ctlAt (cfgR q0) 1) (ctlW e_ g_ k_ l_ b_)).steps)), (12, vI 0), (14, vI 3), (16, vI (ctlBlock (ctlW e_ g_ k_ l_ b_))), (74, vI (ctlBlock (ctlW e_ g_ k_ l_ b_)))] [.pts b_1 [vI q0, vI q1] 22, E93487 b_2 e_ g_ k_ l_ b_, .raw 0 o_, Ee1539 b_4 (cfgR q0), Ebee6b b_10 (ctlEpoch (ctlW e_ g_ k_ l_ b_)) (ctlGen (ctlW e_ g_ k_ l_ b_)) (ctlBlock (ctlW e_ g_ k_ l_ b_)) (ctlLive (ctlW e_ g_ k_ l_ b_)) (ctlBusy (ctlW e_ g_ k_ l_ b_)), Ee565f g_8 (cfgR q0) i2.2.1.client i2.2.1.epoch i2.2.1.slot i2.2.1.word (nxG g_8 i2.2.1.ph) i2.2.1.seen i2.2.1.block i2.2.1.failed i2.2.1.commit (errV i2.2.1.code), Ed5fc1 ba_5 i2.2.2, E5552f i2.2.2]))) (by kernel_rfl) ?_
        refine ok_br (fun h_16 => ?_) (fun h_16 => ?_)
        · replace h_16 := decT h_16
          refine ok_stop ?_
          refine go_call (some 69) [5, 6, 7] Tryd.call15 (guard_Step (cfgR q0) g_8 ba_5 i2.2.1 i2.2.2 hc hxi2.2.2.2.1 (by have h2 := hxi2.2.2.2.2.2.2; omega) hxi2.2.2.2.2.2.1 hxi2.2.2.1) (by kernel_rfl) ?_
          rintro v post ⟨rfl, rfl⟩
          refine go_exec (rs := [.tmp 4]) (by kernel_rfl) 4000 [.n, .z [] 0 [5, 6, 7, 9, 10, 11, 12, 13]] (o := .obl (InK .i64 (i2.1 + 1)) (.stop [.j J_15, .b 0, .c [1, 1, 1, 1, 1, 1, 1, 1, 1, 1, 1, 1, 1]] [(5, .bool true), (6, vP b_4), (7, vP ba_5), (9, vP g_8), (10, vI (((mkAr (cfgR q0) aw_6 cw_7).store (ctlAt (cfgR q0) 1) (ctlW e_ g_ k_ l_ b_)).steps)), (11, vP b_10), (12, vI 0), (13, vI (i2.1 + 1))] [.pts b_1 [vI q0, vI q1] 22, E93487 b_2 e_ g_ k_ l_ b_, .raw 0 o_, Ee1539 b_4 (cfgR q0), Ebee6b b_10 (ctlEpoch (ctlW e_ g_ k_ l_ b_)) (ctlGen (ctlW e_ g_ k_ l_ b_)) (ctlBlock (ctlW e_ g_ k_ l_ b_)) (ctlLive (ctlW e_ g_ k_ l_ b_)) (ctlBusy (ctlW e_ g_ k_ l_ b_)), Ee565f g_8 (cfgR q0) ((i2.2.1.step ((cfgR q0).retry) i2.2.2).1.client) ((i2.2.1.step ((cfgR q0).retry) i2.2.2).1.epoch) ((i2.2.1.step ((cfgR q0).retry) i2.2.2).1.slot) ((i2.2.1.step ((cfgR q0).retry) i2.2.2).1.word) (nxG g_8 (i2.2.1.step ((cfgR q0).retry) i2.2.2).1.ph) ((i2.2.1.step ((cfgR q0).retry) i2.2.2).1.seen) ((i2.2.1.step ((cfgR q0).retry) i2.2.2).1.block) ((i2.2.1.step ((cfgR q0).retry) i2.2.2).1.failed) ((i2.2.1.step ((cfgR q0).retry) i2.2.2).1.commit) (errV (i2.2.1.step ((cfgR q0).retry) i2.2.2).1.code), Ed5fc1 ba_5 ((i2.2.1.step ((cfgR q0).retry) i2.2.2).2), E5552f ((i2.2.1.step ((cfgR q0).retry) i2.2.2).2)])) (by kernel_rfl) ?_
          refine ok_obl (by have := and3 q1; simp only [InK]; omega) ?_
          refine ok_stop ?_
          exact go_back hJ_15 ((i2.1 + 1), (i2.2.1.step ((cfgR q0).retry) i2.2.2).1, (i2.2.1.step ((cfgR q0).retry) i2.2.2).2) [0, 1, 2, 3, 4, 5, 6, 7] (by kernel_rfl) (by kernel_rfl) (by kernel_rfl) ⟨(by dsimp only; omega), (by dsimp only; rw [show (i2.1 + 1).toNat = i2.1.toNat + 1 by omega, runGu_succ, ← hxi2.2.1]), (gu_step hc hxi2.2.2.1 hxi2.2.2.2).1, ((gu_step hc hxi2.2.2.1 hxi2.2.2.2).2.mono (by dsimp only; omega))⟩ (by dsimp only; omega)
        · replace h_16 := decF h_16
          refine ok_obl rfl ?_
          refine ok_stop ?_
          refine go_call (some 75) [] Tryd.call22 (ref_Mark 1 (ctlBlock (ctlW e_ g_ k_ l_ b_)) (by decide) (by omega)) (by kernel_rfl) ?_
          rintro v post ⟨rfl, rfl⟩
          refine go_exec (rs := [.tmp 4]) (by kernel_rfl) 4000 [.z [0, 1, 1, 1, 1, 1, 1, 1, 1, 1, 1, 1, 1, 1, 1, 1, 1, 1] 0 [5, 6, 7, 9, 10, 12, 14, 15, 16]] (o := .stop [.o [0, 1, 1, 1, 1, 1, 1, 1, 1, 1, 1, 1, 1, 1, 1, 1, 1, 1] 0, .c [1, 1, 1, 1, 1, 1, 1, 1, 1, 1, 1, 1, 1, 1, 1, 1, 1, 1]] [(5, .bool true), (6, vP b_4), (7, vP ba_5), (9, vP g_8), (10, vI (((mkAr (cfgR q0) aw_6 cw_7).store (ctlAt (cfgR q0) 1) (ctlW e_ g_ k_ l_ b_)).steps)), (12, vI 0), (14, vI 3), (15, vU (markW 1 (ctlBlock (ctlW e_ g_ k_ l_ b_)))), (16, vI (ctlBlock (ctlW e_ g_ k_ l_ b_)))] [.pts b_1 [vI q0, vI q1] 22, E93487 b_2 e_ g_ k_ l_ b_, .raw 0 o_, Ee1539 b_4 (cfgR q0), Ebee6b b_10 (ctlEpoch (ctlW e_ g_ k_ l_ b_)) (ctlGen (ctlW e_ g_ k_ l_ b_)) (ctlBlock (ctlW e_ g_ k_ l_ b_)) (ctlLive (ctlW e_ g_ k_ l_ b_)) (ctlBusy (ctlW e_ g_ k_ l_ b_)), Ee565f g_8 (cfgR q0) i2.2.1.client i2.2.1.epoch i2.2.1.slot i2.2.1.word (nxG g_8 i2.2.1.ph) i2.2.1.seen i2.2.1.block i2.2.1.failed i2.2.1.commit (errV i2.2.1.code), Ed5fc1 ba_5 i2.2.2, E5552f i2.2.2]) (by kernel_rfl) ?_
          refine ok_stop ?_
          have h9 : i2.1 = 5 := by omega
          have hr5 := hxi2.2.1
          rw [h9] at hr5
          have hr5 : (i2.2.1, i2.2.2) = runGu (cfgR q0).retry 5 (newGu (cfgR q0) 1 0 1 (bAnd .i64 q1 3)) ((mkAr (cfgR q0) aw_6 cw_7).store (ctlAt (cfgR q0) 1) (ctlW e_ g_ k_ l_ b_)) := hr5
          have hlk : lookE (List.getD ((mkAr (cfgR q0) aw_6 cw_7).store (ctlAt (cfgR q0) 1) (ctlW e_ g_ k_ l_ b_)).ws (Gu.word (newGu (cfgR q0) 1 0 1 (bAnd .i64 q1 3))).toNat 0) (Gu.epoch (newGu (cfgR q0) 1 0 1 (bAnd .i64 q1 3))) = 0 := by
            show lookE (List.getD _ (ctlAt (cfgR q0) 1).toNat 0) (bAnd .i64 q1 3) = 0
            rw [hwW]; exact (by unfold lookE; rw [if_pos ⟨hl, he⟩, if_neg hb])
          have hfin := hr5.trans (steady_ok (r := (cfgR q0).retry) (G := (newGu (cfgR q0) 1 0 1 (bAnd .i64 q1 3))) (A := ((mkAr (cfgR q0) aw_6 cw_7).store (ctlAt (cfgR q0) 1) (ctlW e_ g_ k_ l_ b_))) rfl hlk (by show (slotAt (cfgR q0) 0).toNat ≠ (ctlAt (cfgR q0) 1).toNat; omega))
          have hwW2 : List.getD ((mkAr (cfgR q0) aw_6 cw_7).store (ctlAt (cfgR q0) 1) (ctlW e_ g_ k_ l_ b_)).ws (Gu.word (newGu (cfgR q0) 1 0 1 (bAnd .i64 q1 3))).toNat 0 = (ctlW e_ g_ k_ l_ b_) := hwW
          rw [hwW2] at hfin
          have hG5 := congrArg Prod.fst hfin
          have hA5 := congrArg Prod.snd hfin
          simp only at hG5 hA5
          have hv0 : i2.2.2.ws.getD (slotAt (cfgR q0) 0).toNat 0 = markW 1 (ctlBlock (ctlW e_ g_ k_ l_ b_)) := by
            rw [hA5]; show (List.set _ (slotAt (cfgR q0) 0).toNat _).getD (slotAt (cfgR q0) 0).toNat 0 = _
            exact getD_set_eq (by show (slotAt (cfgR q0) 0).toNat < (List.length ((mkAr (cfgR q0) aw_6 cw_7).store (ctlAt (cfgR q0) 1) (ctlW e_ g_ k_ l_ b_)).ws); have := hA1.1; omega)
          have hv1 : i2.2.2.ws.getD (slotAt (cfgR q0) 1).toNat 0 = 0 := by
            rw [hA5]; show (List.set _ (slotAt (cfgR q0) 0).toNat _).getD (slotAt (cfgR q0) 1).toNat 0 = _
            rw [Go.Sx.getD_set_ne (by omega)]; exact hw1
          have hL5 := hxi2.2.2.2.1
          have hN5 := hxi2.2.2.2.2.1
          have hS5 := hxi2.2.2.2.2.2.2
          refine go_exec (rs := [.tmp 4]) (by kernel_rfl) 4000 [.z [0, 1, 1, 1, 1, 1, 1, 1, 1, 1, 1, 1, 1, 1, 1, 1, 1, 1] 1 [5, 6, 7, 9, 10, 12, 14, 15, 16, 77]] (o := .stop [.o [0, 1, 1, 1, 1, 1, 1, 1, 1, 1, 1, 1, 1, 1, 1, 1, 1, 1] 1, .c [1, 1, 1, 1, 1, 1, 1, 1, 1, 1, 1, 1, 1, 1, 1, 1, 1, 1]] [(5, .bool true), (6, vP b_4), (7, vP ba_5), (9, vP g_8), (10, vI (((mkAr (cfgR q0) aw_6 cw_7).store (ctlAt (cfgR q0) 1) (ctlW e_ g_ k_ l_ b_)).steps)), (12, vI 0), (14, vI 3), (15, vU (markW 1 (ctlBlock (ctlW e_ g_ k_ l_ b_)))), (16, vI (ctlBlock (ctlW e_ g_ k_ l_ b_))), (77, vP g_8)] [.pts b_1 [vI q0, vI q1] 22, E93487 b_2 e_ g_ k_ l_ b_, .raw 0 o_, Ee1539 b_4 (cfgR q0), Ebee6b b_10 (ctlEpoch (ctlW e_ g_ k_ l_ b_)) (ctlGen (ctlW e_ g_ k_ l_ b_)) (ctlBlock (ctlW e_ g_ k_ l_ b_)) (ctlLive (ctlW e_ g_ k_ l_ b_)) (ctlBusy (ctlW e_ g_ k_ l_ b_)), Ee565f g_8 (cfgR q0) i2.2.1.client i2.2.1.epoch i2.2.1.slot i2.2.1.word (nxG g_8 i2.2.1.ph) i2.2.1.seen i2.2.1.block i2.2.1.failed i2.2.1.commit (errV i2.2.1.code), Ed5fc1 ba_5 i2.2.2, E5552f i2.2.2]) (by kernel_rfl) ?_
          refine ok_stop ?_
          refine go_call (some 78) [5] Tryd.call16 (guard_Told (cfgR q0) g_8 i2.2.1 hxi2.2.2.1.ph) (by kernel_rfl) ?_
          rintro v post ⟨rfl, rfl⟩
          refine go_exec (rs := [.tmp 4]) (by kernel_rfl) 4000 [.z [0, 1, 1, 1, 1, 1, 1, 1, 1, 1, 1, 1, 1, 1, 1, 1, 1, 1, 1] 1 [5, 6, 7, 9, 10, 12, 14, 15, 16, 17, 18, 81]] (o := .stop [.o [0, 1, 1, 1, 1, 1, 1, 1, 1, 1, 1, 1, 1, 1, 1, 1, 1, 1, 1] 1, .c [1, 1, 1, 1, 1, 1, 1, 1, 1, 1, 1, 1, 1, 1, 1, 1, 1, 1, 1]] [(5, .bool true), (6, vP b_4), (7, vP ba_5), (9, vP g_8), (10, vI (((mkAr (cfgR q0) aw_6 cw_7).store (ctlAt (cfgR q0) 1) (ctlW e_ g_ k_ l_ b_)).steps)), (12, vI 0), (14, vI 3), (15, vU (markW 1 (ctlBlock (ctlW e_ g_ k_ l_ b_)))), (16, vI (ctlBlock (ctlW e_ g_ k_ l_ b_))), (17, vI ((Gu.told i2.2.1).1)), (18, (errV (Gu.told i2.2.1).2)), (81, vP ba_5)] [.pts b_1 [vI q0, vI q1] 22, E93487 b_2 e_ g_ k_ l_ b_, .raw 0 o_, Ee1539 b_4 (cfgR q0), Ebee6b b_10 (ctlEpoch (ctlW e_ g_ k_ l_ b_)) (ctlGen (ctlW e_ g_ k_ l_ b_)) (ctlBlock (ctlW e_ g_ k_ l_ b_)) (ctlLive (ctlW e_ g_ k_ l_ b_)) (ctlBusy (ctlW e_ g_ k_ l_ b_)), Ed5fc1 ba_5 i2.2.2, E5552f i2.2.2, Ee565f g_8 (cfgR q0) i2.2.1.client i2.2.1.epoch i2.2.1.slot i2.2.1.word (nxG g_8 i2.2.1.ph) i2.2.1.seen i2.2.1.block i2.2.1.failed i2.2.1.commit (errV i2.2.1.code)]) (by kernel_rfl) ?_
          refine ok_stop ?_
          refine go_call (some 82) [5, 6] Tryd.call19 (arena_Words ba_5 i2.2.2 hL5 (by have := sizeOfC_ok hc; omega)) (by kernel_rfl) ?_
          rintro v post ⟨a2_17, c2_18, rfl, rfl⟩
          refine go_exec (rs := [.tmp 4]) (by kernel_rfl) 4000 [.z [0, 1, 1, 1, 1, 1, 1, 1, 1, 1, 1, 1, 1, 1, 1, 1, 1, 1, 1, 1] 3 [6, 7, 9, 10, 12, 14, 15, 16, 17, 18, 19, 84, 85]] (o := .stop [.o [0, 1, 1, 1, 1, 1, 1, 1, 1, 1, 1, 1, 1, 1, 1, 1, 1, 1, 1, 1] 3, .c [1, 1, 1, 1, 1, 1, 1, 1, 1, 1, 1, 1, 1, 1, 1, 1, 1, 1, 1, 1]] [(6, vP b_4), (7, vP ba_5), (9, vP g_8), (10, vI (((mkAr (cfgR q0) aw_6 cw_7).store (ctlAt (cfgR q0) 1) (ctlW e_ g_ k_ l_ b_)).steps)), (12, vI 0), (14, vI 3), (15, vU (markW 1 (ctlBlock (ctlW e_ g_ k_ l_ b_)))), (16, vI (ctlBlock (ctlW e_ g_ k_ l_ b_))), (17, vI ((Gu.told i2.2.1).1)), (18, (errV (Gu.told i2.2.1).2)), (19, .slice a2_17 i2.2.2.ws.length c2_18), (84, .bool true), (85, vP g_8)] [.pts b_1 [vI q0, vI q1] 22, E93487 b_2 e_ g_ k_ l_ b_, .raw 0 o_, Ee1539 b_4 (cfgR q0), Ebee6b b_10 (ctlEpoch (ctlW e_ g_ k_ l_ b_)) (ctlGen (ctlW e_ g_ k_ l_ b_)) (ctlBlock (ctlW e_ g_ k_ l_ b_)) (ctlLive (ctlW e_ g_ k_ l_ b_)) (ctlBusy (ctlW e_ g_ k_ l_ b_)), Ee565f g_8 (cfgR q0) i2.2.1.client i2.2.1.epoch i2.2.1.slot i2.2.1.word (nxG g_8 i2.2.1.ph) i2.2.1.seen i2.2.1.block i2.2.1.failed i2.2.1.commit (errV i2.2.1.code), Ed5fc1 ba_5 i2.2.2, E5552f i2.2.2, E72a8d a2_17 c2_18 i2.2.2.ws]) (by kernel_rfl) ?_
          refine ok_stop ?_
          refine go_call (some 86) [5] Tryd.call14 (guard_Done (cfgR q0) g_8 i2.2.1 hxi2.2.2.1.ph) (by kernel_rfl) ?_
          rintro v post ⟨rfl, rfl⟩
          refine go_exec (rs := [.tmp 4]) (by kernel_rfl) 4000 [.sp [88, 86, 87] [.z [0, 1, 1, 1, 1, 1, 1, 1, 1, 1, 1, 1, 1, 1, 1, 1, 1, 1, 1, 1] 7 [6, 7, 9, 10, 12, 14, 15, 16, 17, 19, 88, 89]] [.dead]] (o := .obl ((i2.2.1.ph == 0) = (i2.2.1.ph == 0)) (.obl ((i2.2.1.ph == 0) = (i2.2.1.ph == 0)) (.br (i2.2.1.ph == 0) (.stop [.o [0, 1, 1, 1, 1, 1, 1, 1, 1, 1, 1, 1, 1, 1, 1, 1, 1, 1, 1, 1] 7, .c [1, 1, 1, 1, 1, 1, 1, 1, 1, 1, 1, 1, 1, 1, 1, 1, 1, 1, 1, 1]] [(6, vP b_4), (7, vP ba_5), (9, vP g_8), (10, vI (((mkAr (cfgR q0) aw_6 cw_7).store (ctlAt (cfgR q0) 1) (ctlW e_ g_ k_ l_ b_)).steps)), (12, vI 0), (14, vI 3), (15, vU (markW 1 (ctlBlock (ctlW e_ g_ k_ l_ b_)))), (16, vI (ctlBlock (ctlW e_ g_ k_ l_ b_))), (17, vI ((Gu.told i2.2.1).1)), (19, .slice a2_17 i2.2.2.ws.length c2_18), (88, .bool true), (89, (errV (Gu.told i2.2.1).2))] [.pts b_1 [vI q0, vI q1] 22, E93487 b_2 e_ g_ k_ l_ b_, .raw 0 o_, Ee1539 b_4 (cfgR q0), Ebee6b b_10 (ctlEpoch (ctlW e_ g_ k_ l_ b_)) (ctlGen (ctlW e_ g_ k_ l_ b_)) (ctlBlock (ctlW e_ g_ k_ l_ b_)) (ctlLive (ctlW e_ g_ k_ l_ b_)) (ctlBusy (ctlW e_ g_ k_ l_ b_)), Ed5fc1 ba_5 i2.2.2, E5552f i2.2.2, E72a8d a2_17 c2_18 i2.2.2.ws, Ee565f g_8 (cfgR q0) i2.2.1.client i2.2.1.epoch i2.2.1.slot i2.2.1.word (nxG g_8 i2.2.1.ph) i2.2.1.seen i2.2.1.block i2.2.1.failed i2.2.1.commit (errV i2.2.1.code)]) (.bad)))) (by kernel_rfl) ?_
          refine ok_obl rfl ?_
          refine ok_obl rfl ?_
          refine ok_br (fun _ => ?_) (fun h => absurd (show (i2.2.1.ph == 0) = true from (by rw [hG5]; rfl)) (by rw [h]; simp))
          refine ok_stop ?_
          refine go_call (some 90) [2] Tryd.call17 (cause_Top o_ ((Gu.told i2.2.1).2) ho) (by kernel_rfl) ?_
          rintro v post ⟨rfl, rfl⟩
          refine go_exec (rs := [.tmp 4]) (by kernel_rfl) 4000 [.sp [94, 92, 93] [.sp [99, 97, 98] [.z [0, 1, 1, 1, 1, 1, 1, 1, 1, 1, 1, 1, 1, 1, 1, 1, 1, 1, 1, 1] 18 [6, 9, 10, 14, 15, 19, 99, 100]] [.dead]] [.dead]] (o := .obl ((((Gu.told i2.2.1).2) == 0) = (((Gu.told i2.2.1).2) == 0)) (.obl ((((Gu.told i2.2.1).2) == 0) = (((Gu.told i2.2.1).2) == 0)) (.br (((Gu.told i2.2.1).2) == 0) (.obl ((((Gu.told i2.2.1).1) == (ctlBlock (ctlW e_ g_ k_ l_ b_))) = (((Gu.told i2.2.1).1) == (ctlBlock (ctlW e_ g_ k_ l_ b_)))) (.obl ((((Gu.told i2.2.1).1) == (ctlBlock (ctlW e_ g_ k_ l_ b_))) = (((Gu.told i2.2.1).1) == (ctlBlock (ctlW e_ g_ k_ l_ b_)))) (.br (((Gu.told i2.2.1).1) == (ctlBlock (ctlW e_ g_ k_ l_ b_))) (.stop [.o [0, 1, 1, 1, 1, 1, 1, 1, 1, 1, 1, 1, 1, 1, 1, 1, 1, 1, 1, 1] 18, .c [1, 1, 1, 1, 1, 1, 1, 1, 1, 1, 1, 1, 1, 1, 1, 1, 1, 1, 1, 1]] [(6, vP b_4), (9, vP g_8), (10, vI (((mkAr (cfgR q0) aw_6 cw_7).store (ctlAt (cfgR q0) 1) (ctlW e_ g_ k_ l_ b_)).steps)), (14, vI 3), (15, vU (markW 1 (ctlBlock (ctlW e_ g_ k_ l_ b_)))), (19, .slice a2_17 i2.2.2.ws.length c2_18), (99, .bool true), (100, vP ba_5)] [.pts b_1 [vI q0, vI q1] 22, E93487 b_2 e_ g_ k_ l_ b_, Ee1539 b_4 (cfgR q0), Ebee6b b_10 (ctlEpoch (ctlW e_ g_ k_ l_ b_)) (ctlGen (ctlW e_ g_ k_ l_ b_)) (ctlBlock (ctlW e_ g_ k_ l_ b_)) (ctlLive (ctlW e_ g_ k_ l_ b_)) (ctlBusy (ctlW e_ g_ k_ l_ b_)), Ed5fc1 ba_5 i2.2.2, E5552f i2.2.2, E72a8d a2_17 c2_18 i2.2.2.ws, Ee565f g_8 (cfgR q0) i2.2.1.client i2.2.1.epoch i2.2.1.slot i2.2.1.word (nxG g_8 i2.2.1.ph) i2.2.1.seen i2.2.1.block i2.2.1.failed i2.2.1.commit (errV i2.2.1.code), .raw 0 o_]) (.bad)))) (.bad)))) (by kernel_rfl) ?_
          refine ok_obl rfl ?_
          refine ok_obl rfl ?_
          refine ok_br (fun _ => ?_) (fun h => absurd (show (((Gu.told i2.2.1).2) == 0) = true from (by rw [hG5]; exact beq_self_eq_true _)) (by rw [h]; simp))
          refine ok_obl rfl ?_
          refine ok_obl rfl ?_
          refine ok_br (fun _ => ?_) (fun h => absurd (show (((Gu.told i2.2.1).1) == (ctlBlock (ctlW e_ g_ k_ l_ b_))) = true from (by rw [hG5]; exact beq_self_eq_true _)) (by rw [h]; simp))
          refine ok_stop ?_
          refine go_call (some 101) [4, 5] Tryd.call23 (arena_Steps ba_5 i2.2.2) (by kernel_rfl) ?_
          rintro v post ⟨rfl, rfl⟩
          refine go_exec (rs := [.tmp 4]) (by kernel_rfl) 4000 [.n, .sp [107, 105, 106] [.z [0, 1, 1, 1, 1, 1, 1, 1, 1, 1, 1, 1, 1, 1, 1, 1, 1, 1, 1, 1] 26 [6, 10, 14, 15, 19, 107, 108]] [.dead]] (o := .obl (InK .i64 ((((mkAr (cfgR q0) aw_6 cw_7).store (ctlAt (cfgR q0) 1) (ctlW e_ g_ k_ l_ b_)).steps) + 3)) (.obl ((i2.2.2.steps == ((((mkAr (cfgR q0) aw_6 cw_7).store (ctlAt (cfgR q0) 1) (ctlW e_ g_ k_ l_ b_)).steps) + 3)) = (i2.2.2.steps == ((((mkAr (cfgR q0) aw_6 cw_7).store (ctlAt (cfgR q0) 1) (ctlW e_ g_ k_ l_ b_)).steps) + 3))) (.obl ((i2.2.2.steps == ((((mkAr (cfgR q0) aw_6 cw_7).store (ctlAt (cfgR q0) 1) (ctlW e_ g_ k_ l_ b_)).steps) + 3)) = (i2.2.2.steps == ((((mkAr (cfgR q0) aw_6 cw_7).store (ctlAt (cfgR q0) 1) (ctlW e_ g_ k_ l_ b_)).steps) + 3))) (.br (i2.2.2.steps == ((((mkAr (cfgR q0) aw_6 cw_7).store (ctlAt (cfgR q0) 1) (ctlW e_ g_ k_ l_ b_)).steps) + 3)) (.stop [.o [0, 1, 1, 1, 1, 1, 1, 1, 1, 1, 1, 1, 1, 1, 1, 1, 1, 1, 1, 1] 26, .c [1, 1, 1, 1, 1, 1, 1, 1, 1, 1, 1, 1, 1, 1, 1, 1, 1, 1, 1, 1]] [(6, vP b_4), (10, vI (((mkAr (cfgR q0) aw_6 cw_7).store (ctlAt (cfgR q0) 1) (ctlW e_ g_ k_ l_ b_)).steps)), (14, vI 3), (15, vU (markW 1 (ctlBlock (ctlW e_ g_ k_ l_ b_)))), (19, .slice a2_17 i2.2.2.ws.length c2_18), (107, .bool true), (108, vP g_8)] [.pts b_1 [vI q0, vI q1] 22, E93487 b_2 e_ g_ k_ l_ b_, Ee1539 b_4 (cfgR q0), Ebee6b b_10 (ctlEpoch (ctlW e_ g_ k_ l_ b_)) (ctlGen (ctlW e_ g_ k_ l_ b_)) (ctlBlock (ctlW e_ g_ k_ l_ b_)) (ctlLive (ctlW e_ g_ k_ l_ b_)) (ctlBusy (ctlW e_ g_ k_ l_ b_)), E72a8d a2_17 c2_18 i2.2.2.ws, Ee565f g_8 (cfgR q0) i2.2.1.client i2.2.1.epoch i2.2.1.slot i2.2.1.word (nxG g_8 i2.2.1.ph) i2.2.1.seen i2.2.1.block i2.2.1.failed i2.2.1.commit (errV i2.2.1.code), .raw 0 o_, Ed5fc1 ba_5 i2.2.2, E5552f i2.2.2]) (.bad))))) (by kernel_rfl) ?_
          refine ok_obl (by have := and3 q1; simp only [InK]; omega) ?_
          refine ok_obl rfl ?_
          refine ok_obl rfl ?_
          refine ok_br (fun _ => ?_) (fun h => absurd (show (i2.2.2.steps == ((((mkAr (cfgR q0) aw_6 cw_7).store (ctlAt (cfgR q0) 1) (ctlW e_ g_ k_ l_ b_)).steps) + 3)) = true from (beq_iff_eq.2 (by rw [hA5]; simp only [Ar.load, Ar.store] <;> omega))) (by rw [h]; simp))
          refine ok_stop ?_
          refine go_call (some 109) [5] Tryd.call18 (guard_Commit (cfgR q0) g_8 i2.2.1 hxi2.2.2.1.ph) (by kernel_rfl) ?_
          rintro v post ⟨rfl, rfl⟩
          refine go_exec (rs := [.tmp 4]) (by kernel_rfl) 4000 [.n, .sp [115, 113, 114] [.sp [120, 118, 119] [.e 2, .z [0, 1, 1, 1, 1, 1, 1, 1, 1, 1, 1, 1, 1, 1, 1, 1, 1, 1, 1, 1] 40 [6, 15, 19, 120, 121, 122]] [.dead]] [.dead]] (o := .obl (InK .i64 ((((mkAr (cfgR q0) aw_6 cw_7).store (ctlAt (cfgR q0) 1) (ctlW e_ g_ k_ l_ b_)).steps) + 3)) (.obl (((Gu.comm i2.2.1) == ((((mkAr (cfgR q0) aw_6 cw_7).store (ctlAt (cfgR q0) 1) (ctlW e_ g_ k_ l_ b_)).steps) + 3)) = ((Gu.comm i2.2.1) == ((((mkAr (cfgR q0) aw_6 cw_7).store (ctlAt (cfgR q0) 1) (ctlW e_ g_ k_ l_ b_)).steps) + 3))) (.obl (((Gu.comm i2.2.1) == ((((mkAr (cfgR q0) aw_6 cw_7).store (ctlAt (cfgR q0) 1) (ctlW e_ g_ k_ l_ b_)).steps) + 3)) = ((Gu.comm i2.2.1) == ((((mkAr (cfgR q0) aw_6 cw_7).store (ctlAt (cfgR q0) 1) (ctlW e_ g_ k_ l_ b_)).steps) + 3))) (.br ((Gu.comm i2.2.1) == ((((mkAr (cfgR q0) aw_6 cw_7).store (ctlAt (cfgR q0) 1) (ctlW e_ g_ k_ l_ b_)).steps) + 3)) (.obl ((decide (((i2.2.2.ws.length : Nat) : Int) > 8)) = (decide (((i2.2.2.ws.length : Nat) : Int) > 8))) (.obl ((decide (((i2.2.2.ws.length : Nat) : Int) > 8)) = (decide (((i2.2.2.ws.length : Nat) : Int) > 8))) (.br (decide (((i2.2.2.ws.length : Nat) : Int) > 8)) (.obl (b_4 = b_4) (.stop [.o [0, 1, 1, 1, 1, 1, 1, 1, 1, 1, 1, 1, 1, 1, 1, 1, 1, 1, 1, 1] 40, .c [1, 1, 1, 1, 1, 1, 1, 1, 1, 1, 1, 1, 1, 1, 1, 1, 1, 1, 1, 1]] [(6, vP b_4), (15, vU (markW 1 (ctlBlock (ctlW e_ g_ k_ l_ b_)))), (19, .slice a2_17 i2.2.2.ws.length c2_18), (120, .bool true), (121, .slice a2_17 i2.2.2.ws.length c2_18), (122, cfgV (cfgR q0))] [.pts b_1 [vI q0, vI q1] 22, E93487 b_2 e_ g_ k_ l_ b_, Ee1539 b_4 (cfgR q0), Ebee6b b_10 (ctlEpoch (ctlW e_ g_ k_ l_ b_)) (ctlGen (ctlW e_ g_ k_ l_ b_)) (ctlBlock (ctlW e_ g_ k_ l_ b_)) (ctlLive (ctlW e_ g_ k_ l_ b_)) (ctlBusy (ctlW e_ g_ k_ l_ b_)), E72a8d a2_17 c2_18 i2.2.2.ws, .raw 0 o_, Ed5fc1 ba_5 i2.2.2, E5552f i2.2.2, Ee565f g_8 (cfgR q0) i2.2.1.client i2.2.1.epoch i2.2.1.slot i2.2.1.word (nxG g_8 i2.2.1.ph) i2.2.1.seen i2.2.1.block i2.2.1.failed i2.2.1.commit (errV i2.2.1.code)])) (.bad)))) (.bad))))) (by kernel_rfl) ?_
          refine ok_obl (by have := and3 q1; simp only [InK]; omega) ?_
          refine ok_obl rfl ?_
          refine ok_obl rfl ?_
          refine ok_br (fun _ => ?_) (fun h => absurd (show ((Gu.comm i2.2.1) == ((((mkAr (cfgR q0) aw_6 cw_7).store (ctlAt (cfgR q0) 1) (ctlW e_ g_ k_ l_ b_)).steps) + 3)) = true from (beq_iff_eq.2 (by rw [hG5]; rfl))) (by rw [h]; simp))
          refine ok_obl rfl ?_
          refine ok_obl rfl ?_
          refine ok_br (fun _ => ?_) (fun h => absurd (show (decide (((i2.2.2.ws.length : Nat) : Int) > 8)) = true from (decide_eq_true (by omega))) (by rw [h]; simp))
          refine ok_obl rfl ?_
          refine ok_stop ?_
          refine go_call (some 123) [] Tryd.call20 (plan_Slot (cfgR q0) 0 hc) (by kernel_rfl) ?_
          rintro v post ⟨rfl, rfl⟩
          refine go_exec (rs := [.tmp 4]) (by kernel_rfl) 4000 [.s 4, .j 4 ((slotAt (cfgR q0) 0).toNat), .sp [129, 127, 128] [.e 2, .z [0, 1, 1, 1, 1, 1, 1, 1, 1, 1, 1, 1, 1, 1, 1, 1, 1, 1, 1, 1] 49 [129, 130, 131]] [.dead]] (o := .obl (a2_17 = a2_17 ∧ i2.2.2.ws.length = i2.2.2.ws.length) (.obl ((0 : Int) ≤ (slotAt (cfgR q0) 0) ∧ (slotAt (cfgR q0) 0) < ((i2.2.2.ws.length : Nat) : Int)) (.obl (slAt a2_17 ((slotAt (cfgR q0) 0).toNat) 1 = slAt a2_17 ((slotAt (cfgR q0) 0).toNat) 1) (.obl ((slotAt (cfgR q0) 0).toNat < i2.2.2.ws.length) (.obl (((i2.2.2.ws.getD ((slotAt (cfgR q0) 0).toNat) 0) == (markW 1 (ctlBlock (ctlW e_ g_ k_ l_ b_)))) = ((i2.2.2.ws.getD ((slotAt (cfgR q0) 0).toNat) 0) == (markW 1 (ctlBlock (ctlW e_ g_ k_ l_ b_))))) (.obl (((i2.2.2.ws.getD ((slotAt (cfgR q0) 0).toNat) 0) == (markW 1 (ctlBlock (ctlW e_ g_ k_ l_ b_)))) = ((i2.2.2.ws.getD ((slotAt (cfgR q0) 0).toNat) 0) == (markW 1 (ctlBlock (ctlW e_ g_ k_ l_ b_))))) (.br ((i2.2.2.ws.getD ((slotAt (cfgR q0) 0).toNat) 0) == (markW 1 (ctlBlock (ctlW e_ g_ k_ l_ b_)))) (.obl (b_4 = b_4) (.stop [.o [0, 1, 1, 1, 1, 1, 1, 1, 1, 1, 1, 1, 1, 1, 1, 1, 1, 1, 1, 1] 49, .c [1, 1, 1, 1, 1, 1, 1, 1, 1, 1, 1, 1, 1, 1, 1, 1, 1, 1, 1, 1]] [(129, .bool true), (130, .slice a2_17 i2.2.2.ws.length c2_18), (131, cfgV (cfgR q0))] [.pts b_1 [vI q0, vI q1] 22, E93487 b_2 e_ g_ k_ l_ b_, Ee1539 b_4 (cfgR q0), Ebee6b b_10 (ctlEpoch (ctlW e_ g_ k_ l_ b_)) (ctlGen (ctlW e_ g_ k_ l_ b_)) (ctlBlock (ctlW e_ g_ k_ l_ b_)) (ctlLive (ctlW e_ g_ k_ l_ b_)) (ctlBusy (ctlW e_ g_ k_ l_ b_)), E72a8d a2_17 c2_18 i2.2.2.ws, .raw 0 o_, Ed5fc1 ba_5 i2.2.2, E5552f i2.2.2, Ee565f g_8 (cfgR q0) i2.2.1.client i2.2.1.epoch i2.2.1.slot i2.2.1.word (nxG g_8 i2.2.1.ph) i2.2.1.seen i2.2.1.block i2.2.1.failed i2.2.1.commit (errV i2.2.1.code)])) (.bad)))))))) (by kernel_rfl) ?_
          refine ok_obl ⟨rfl, (by first | rfl | omega | (simp; done) | (simp; omega))⟩ ?_
          refine ok_obl (by first | omega | (simp; done) | (simp; omega)) ?_
          refine ok_obl rfl ?_
          refine ok_obl (by first | omega | (simp; done) | (simp; omega)) ?_
          refine ok_obl rfl ?_
          refine ok_obl rfl ?_
          refine ok_br (fun _ => ?_) (fun h => absurd (show ((i2.2.2.ws.getD ((slotAt (cfgR q0) 0).toNat) 0) == (markW 1 (ctlBlock (ctlW e_ g_ k_ l_ b_)))) = true from (beq_iff_eq.2 (by first | exact hv0 | exact hv1))) (by rw [h]; simp))
          refine ok_obl rfl ?_
          refine ok_stop ?_
          refine go_call (some 132) [] Tryd.call20 (plan_Slot (cfgR q0) 1 hc) (by kernel_rfl) ?_
          rintro v post ⟨rfl, rfl⟩
          refine go_exec (rs := [.tmp 4]) (by kernel_rfl) 4000 [.s 4, .j 4 ((slotAt (cfgR q0) 1).toNat)] (o := .obl (a2_17 = a2_17 ∧ i2.2.2.ws.length = i2.2.2.ws.length) (.obl ((0 : Int) ≤ (slotAt (cfgR q0) 1) ∧ (slotAt (cfgR q0) 1) < ((i2.2.2.ws.length : Nat) : Int)) (.obl (slAt a2_17 ((slotAt (cfgR q0) 1).toNat) 1 = slAt a2_17 ((slotAt (cfgR q0) 1).toNat) 1) (.obl ((slotAt (cfgR q0) 1).toNat < i2.2.2.ws.length) (.ret (.bool ((i2.2.2.ws.getD ((slotAt (cfgR q0) 1).toNat) 0) == 0)) [.pts b_1 [vI q0, vI q1] 22, E93487 b_2 e_ g_ k_ l_ b_, Ee1539 b_4 (cfgR q0), Ebee6b b_10 (ctlEpoch (ctlW e_ g_ k_ l_ b_)) (ctlGen (ctlW e_ g_ k_ l_ b_)) (ctlBlock (ctlW e_ g_ k_ l_ b_)) (ctlLive (ctlW e_ g_ k_ l_ b_)) (ctlBusy (ctlW e_ g_ k_ l_ b_)), E72a8d a2_17 c2_18 i2.2.2.ws, .raw 0 o_, Ed5fc1 ba_5 i2.2.2, E5552f i2.2.2, Ee565f g_8 (cfgR q0) i2.2.1.client i2.2.1.epoch i2.2.1.slot i2.2.1.word (nxG g_8 i2.2.1.ph) i2.2.1.seen i2.2.1.block i2.2.1.failed i2.2.1.commit (errV i2.2.1.code)]))))) (by kernel_rfl) ?_
          refine ok_obl ⟨rfl, (by first | rfl | omega | (simp; done) | (simp; omega))⟩ ?_
          refine ok_obl (by first | omega | (simp; done) | (simp; omega)) ?_
          refine ok_obl rfl ?_
          refine ok_obl (by first | omega | (simp; done) | (simp; omega)) ?_
          exact ret_ok (post := [.raw 0 o_]) [5] (by kernel_rfl) ⟨(congrArg Value.bool (by first | rfl | exact beq_iff_eq.2 hv1)), (by kernel_rfl)⟩
    · skip
      refine go_exec (rs := [.tmp 4]) (by kernel_rfl) 4000 [.e 7, .sp [52, 51] [.dead] [.e 7, .w, .e 0, .sp [59, 58] [.z [0, 1, 0, 1, 1, 1, 1, 1, 1, 1, 1, 1, 1, 1, 1] 0 [5, 6, 7, 9, 10, 11, 12, 13]] [.dead]]] (o := .obl (b_10 = b_10) (.obl ((!(ctlLive (ctlW e_ g_ k_ l_ b_))) = (!(ctlLive (ctlW e_ g_ k_ l_ b_)))) (.br (!(ctlLive (ctlW e_ g_ k_ l_ b_))) (.bad) (.obl (b_10 = b_10) (.obl (b_1 = b_1) (.obl (((ctlEpoch (ctlW e_ g_ k_ l_ b_)) != (bAnd .i64 q1 3)) = ((ctlEpoch (ctlW e_ g_ k_ l_ b_)) != (bAnd .i64 q1 3))) (.br ((ctlEpoch (ctlW e_ g_ k_ l_ b_)) != (bAnd .i64 q1 3)) (.stop [.c [0, 1, 0, 1, 1, 1, 1, 1, 1, 1, 1, 1, 1, 1, 1], .b 0, .c [1, 1, 1, 1, 1, 1, 1, 1, 1, 1, 1, 1, 1]] [(5, .bool true), (6, vP b_4), (7, vP ba_5), (9, vP g_8), (10, vI (((mkAr (cfgR q0) aw_6 cw_7).store (ctlAt (cfgR q0) 1) (ctlW e_ g_ k_ l_ b_)).steps)), (11, vP b_10), (12, vI 22), (13, vI 0)] [.pts b_1 [vI q0, vI q1] 22, E93487 b_2 e_ g_ k_ l_ b_, .raw 0 o_, Ee1539 b_4 (cfgR q0), Ee565f g_8 (cfgR q0) ((newGu (cfgR q0) 1 0 1 (bAnd .i64 q1 3)).client) ((newGu (cfgR q0) 1 0 1 (bAnd .i64 q1 3)).epoch) ((newGu (cfgR q0) 1 0 1 (bAnd .i64 q1 3)).slot) ((newGu (cfgR q0) 1 0 1 (bAnd .i64 q1 3)).word) (nxG g_8 (newGu (cfgR q0) 1 0 1 (bAnd .i64 q1 3)).ph) ((newGu (cfgR q0) 1 0 1 (bAnd .i64 q1 3)).seen) ((newGu (cfgR q0) 1 0 1 (bAnd .i64 q1 3)).block) ((newGu (cfgR q0) 1 0 1 (bAnd .i64 q1 3)).failed) ((newGu (cfgR q0) 1 0 1 (bAnd .i64 q1 3)).commit) (errV (newGu (cfgR q0) 1 0 1 (bAnd .i64 q1 3)).code), Ed5fc1 ba_5 ((mkAr (cfgR q0) aw_6 cw_7).store (ctlAt (cfgR q0) 1) (ctlW e_ g_ k_ l_ b_)), E5552f ((mkAr (cfgR q0) aw_6 cw_7).store (ctlAt (cfgR q0) 1) (ctlW e_ g_ k_ l_ b_)), Ebee6b b_10 (ctlEpoch (ctlW e_ g_ k_ l_ b_)) (ctlGen (ctlW e_ g_ k_ l_ b_)) (ctlBlock (ctlW e_ g_ k_ l_ b_)) (ctlLive (ctlW e_ g_ k_ l_ b_)) (ctlBusy (ctlW e_ g_ k_ l_ b_))]) (.bad)))))))) (by kernel_rfl) ?_
      refine ok_obl rfl ?_
      refine ok_obl rfl ?_
      refine ok_br (fun h => absurd (show (!(ctlLive (ctlW e_ g_ k_ l_ b_))) = false from (by simp [hl])) (by rw [h]; simp)) (fun _ => ?_)
      refine ok_obl rfl ?_
      refine ok_obl rfl ?_
      refine ok_obl rfl ?_
      refine ok_br (fun _ => ?_) (fun h => absurd (show ((ctlEpoch (ctlW e_ g_ k_ l_ b_)) != (bAnd .i64 q1 3)) = true from (bne_iff_ne.2 he)) (by rw [h]; simp))
      refine ok_stop ?_
      refine go_loop (ι := Int × Gu × Ar) (fun i2 => [(5, .bool true), (6, vP b_4), (7, vP ba_5), (9, vP g_8), (10, vI (((mkAr (cfgR q0) aw_6 cw_7).store (ctlAt (cfgR q0) 1) (ctlW e_ g_ k_ l_ b_)).steps)), (11, vP b_10), (12, vI 22), (13, vI i2.1)]) (fun i2 => [.pts b_1 [vI q0, vI q1] 22, E93487 b_2 e_ g_ k_ l_ b_, .raw 0 o_, Ee1539 b_4 (cfgR q0), Ebee6b b_10 (ctlEpoch (ctlW e_ g_ k_ l_ b_)) (ctlGen (ctlW e_ g_ k_ l_ b_)) (ctlBlock (ctlW e_ g_ k_ l_ b_)) (ctlLive (ctlW e_ g_ k_ l_ b_)) (ctlBusy (ctlW e_ g_ k_ l_ b_)), Ee565f g_8 (cfgR q0) i2.2.1.client i2.2.1.epoch i2.2.1.slot i2.2.1.word (nxG g_8 i2.2.1.ph) i2.2.1.seen i2.2.1.block i2.2.1.failed i2.2.1.commit (errV i2.2.1.code), Ed5fc1 ba_5 i2.2.2, E5552f i2.2.2]) (fun i2 => (0 ≤ i2.1 ∧ i2.1 ≤ 5) ∧ (i2.2.1, i2.2.2) = runGu (cfgR q0).retry i2.1.toNat (newGu (cfgR q0) 1 0 1 (bAnd .i64 q1 3)) ((mkAr (cfgR q0) aw_6 cw_7).store (ctlAt (cfgR q0) 1) (ctlW e_ g_ k_ l_ b_)) ∧ Gu.Ok (cfgR q0) i2.2.2.n i2.2.1 ∧ ArW (cfgR q0) i2.2.2 (50 + i2.1)) (fun i2 => (5 - i2.1).toNat) (0, (newGu (cfgR q0) 1 0 1 (bAnd .i64 q1 3)), ((mkAr (cfgR q0) aw_6 cw_7).store (ctlAt (cfgR q0) 1) (ctlW e_ g_ k_ l_ b_))) [5, 6, 7, 9, 10, 11, 12, 13] [0, 1, 2, 3, 7, 4, 5, 6] (by kernel_rfl) (by kernel_rfl) (by kernel_rfl) (by kernel_rfl) ⟨(by dsimp only; omega), rfl, hG1, (hA1.mono (by dsimp only; omega))⟩ ?_
      intro i2 J_19 hIJ_19 hJ_19
      have hxi2 := hIJ_19
      have hki2 := hxi2.1
      refine go_exec (rs := [.tmp 4]) (by kernel_rfl) 4000 [.sp [64] [.z [0, 0, 1, 0, 0, 1, 0, 1, 1, 1, 1, 1, 1, 1, 1, 1, 1, 1, 1] 2 [5, 6, 7, 9, 10, 11, 12, 13, 67, 68]] [.z [0, 1, 1, 1, 1, 1, 1, 1, 1, 1, 1, 1, 1, 1, 1, 1, 1, 1] 0 [5, 6, 7, 9, 10, 12, 14, 15, 16]]] (o := .br (decide (i2.1 < 5)) (.stop [.o [0, 0, 1, 0, 0, 1, 0, 1, 1, 1, 1, 1, 1, 1, 1, 1, 1, 1, 1] 2, .b 1, .c [1, 1, 0, 0, 1, 0, 1, 1, 1, 1, 1, 1, 1, 1, 1, 1, 1, 1], .j J_19, .b 0, .c [1, 1, 1, 1, 1, 1, 1, 1, 1, 1, 1, 1, 1]] [(5, .bool true), (6, vP b_4), (7, vP ba_5), (9, vP g_8), (10, vI (((mkAr (cfgR q0) aw_6 cw_7).store (ctlAt (cfgR q0) 1) (ctlW e_ g_ k_ l_ b_)).steps)), (11, vP b_10), (12, vI 22), (13, vI i2.1), (67, vP g_8), (68, vP ba_5)] [.pts b_1 [vI q0, vI q1] 22, E93487 b_2 e_ g_ k_ l_ b_, .raw 0 o_, Ee1539 b_4 (cfgR q0), Ebee6b b_10 (ctlEpoch (ctlW e_ g_ k_ l_ b_)) (ctlGen (ctlW e_ g_ k_ l_ b_)) (ctlBlock (ctlW e_ g_ k_ l_ b_)) (ctlLive (ctlW e_ g_ k_ l_ b_)) (ctlBusy (ctlW e_ g_ k_ l_ b_)), Ee565f g_8 (cfgR q0) i2.2.1.client i2.2.1.epoch i2.2.1.slot i2.2.1.word (nxG g_8 i2.2.1.ph) i2.2.1.seen i2.2.1.block i2.2.1.failed i2.2.1.commit (errV i2.2.1.code), Ed5fc1 ba_5 i2.2.2, E5552f i2.2.2]) (.stop [.o [0, 1, 1, 1, 1, 1, 1, 1, 1, 1, 1, 1, 1, 1, 1, 1, 1, 1] 0, .c [1, 1, 1, 1, 1, 1, 1, 1, 1, 1, 1, 1, 1, 1, 1, 1, 1, 1]] [(5, .bool true), (6, vP b_4), (7, vP ba_5), (9, vP g_8), (10, vI (((mkAr (cfgR q0) aw_6 cw_7).store (ctlAt (cfgR q0) 1) (ctlW e_ g_ k_ l_ b_)).steps)), (12, vI 22), (14, vI 1), (15, vU 0), (16, vI 0)] [.pts b_1 [vI q0, vI q1] 22, E93487 b_2 e_ g_ k_ l_ b_, .raw 0 o_, Ee1539 b_4 (cfgR q0), Ebee6b b_10 (ctlEpoch (ctlW e_ g_ k_ l_ b_)) (ctlGen (ctlW e_ g_ k_ l_ b_)) (ctlBlock (ctlW e_ g_ k_ l_ b_)) (ctlLive (ctlW e_ g_ k_ l_ b_)) (ctlBusy (ctlW e_ g_ k_ l_ b_)), Ee565f g_8 (cfgR q0) i2.2.1.client i2.2.1.epoch i2.2.1.slot i2.2.1.word (nxG g_8 i2.2.1.ph) i2.2.1.seen i2.2.1.block i2.2.1.failed i2.2.1.commit (errV i2.2.1.code), Ed5fc1 ba_5 i2.2.2, E5552f i2.2.2])) (by kernel_rfl) ?_
      refine ok_br (fun h_20 => ?_) (fun h_20 => ?_)
      · replace h_20 := decT h_20
        refine ok_stop ?_
        refine go_call (some 69) [5, 6, 7] Tryd.call15 (guard_Step (cfgR q0) g_8 ba_5 i2.2.1 i2.2.2 hc hxi2.2.2.2.1 (by have h2 := hxi2.2.2.2.2.2.2; omega) hxi2.2.2.2.2.2.1 hxi2.2.2.1) (by kernel_rfl) ?_
        rintro v post ⟨rfl, rfl⟩
        refine go_exec (rs := [.tmp 4]) (by kernel_rfl) 4000 [.n, .z [] 0 [5, 6, 7, 9, 10, 11, 12, 13]] (o := .obl (InK .i64 (i2.1 + 1)) (.stop [.j J_19, .b 0, .c [1, 1, 1, 1, 1, 1, 1, 1, 1, 1, 1, 1, 1]] [(5, .bool true), (6, vP b_4), (7, vP ba_5), (9, vP g_8), (10, vI (((mkAr (cfgR q0) aw_6 cw_7).store (ctlAt (cfgR q0) 1) (ctlW e_ g_ k_ l_ b_)).steps)), (11, vP b_10), (12, vI 22), (13, vI (i2.1 + 1))] [.pts b_1 [vI q0, vI q1] 22, E93487 b_2 e_ g_ k_ l_ b_, .raw 0 o_, Ee1539 b_4 (cfgR q0), Ebee6b b_10 (ctlEpoch (ctlW e_ g_ k_ l_ b_)) (ctlGen (ctlW e_ g_ k_ l_ b_)) (ctlBlock (ctlW e_ g_ k_ l_ b_)) (ctlLive (ctlW e_ g_ k_ l_ b_)) (ctlBusy (ctlW e_ g_ k_ l_ b_)), Ee565f g_8 (cfgR q0) ((i2.2.1.step ((cfgR q0).retry) i2.2.2).1.client) ((i2.2.1.step ((cfgR q0).retry) i2.2.2).1.epoch) ((i2.2.1.step ((cfgR q0).retry) i2.2.2).1.slot) ((i2.2.1.step ((cfgR q0).retry) i2.2.2).1.word) (nxG g_8 (i2.2.1.step ((cfgR q0).retry) i2.2.2).1.ph) ((i2.2.1.step ((cfgR q0).retry) i2.2.2).1.seen) ((i2.2.1.step ((cfgR q0).retry) i2.2.2).1.block) ((i2.2.1.step ((cfgR q0).retry) i2.2.2).1.failed) ((i2.2.1.step ((cfgR q0).retry) i2.2.2).1.commit) (errV (i2.2.1.step ((cfgR q0).retry) i2.2.2).1.code), Ed5fc1 ba_5 ((i2.2.1.step ((cfgR q0).retry) i2.2.2).2), E5552f ((i2.2.1.step ((cfgR q0).retry) i2.2.2).2)])) (by kernel_rfl) ?_
        refine ok_obl (by have := and3 q1; simp only [InK]; omega) ?_
        refine ok_stop ?_
        exact go_back hJ_19 ((i2.1 + 1), (i2.2.1.step ((cfgR q0).retry) i2.2.2).1, (i2.2.1.step ((cfgR q0).retry) i2.2.2).2) [0, 1, 2, 3, 4, 5, 6, 7] (by kernel_rfl) (by kernel_rfl) (by kernel_rfl) ⟨(by dsimp only; omega), (by dsimp only; rw [show (i2.1 + 1).toNat = i2.1.toNat + 1 by omega, runGu_succ, ← hxi2.2.1]), (gu_step hc hxi2.2.2.1 hxi2.2.2.2).1, ((gu_step hc hxi2.2.2.1 hxi2.2.2.2).2.mono (by dsimp only; omega))⟩ (by dsimp only; omega)
      · replace h_20 := decF h_20
        refine ok_stop ?_
        have h9 : i2.1 = 5 := by omega
        have hr5 := hxi2.2.1
        rw [h9] at hr5
        have hr5 : (i2.2.1, i2.2.2) = runGu (cfgR q0).retry 5 (newGu (cfgR q0) 1 0 1 (bAnd .i64 q1 3)) ((mkAr (cfgR q0) aw_6 cw_7).store (ctlAt (cfgR q0) 1) (ctlW e_ g_ k_ l_ b_)) := hr5
        have hlk : lookE (List.getD ((mkAr (cfgR q0) aw_6 cw_7).store (ctlAt (cfgR q0) 1) (ctlW e_ g_ k_ l_ b_)).ws (Gu.word (newGu (cfgR q0) 1 0 1 (bAnd .i64 q1 3))).toNat 0) (Gu.epoch (newGu (cfgR q0) 1 0 1 (bAnd .i64 q1 3))) = 22 := by
          show lookE (List.getD _ (ctlAt (cfgR q0) 1).toNat 0) (bAnd .i64 q1 3) = 22
          rw [hwW]; exact (by unfold lookE; rw [if_neg (fun h => he h.2)])
        have hfin := hr5.trans (steady_bad (r := (cfgR q0).retry) (G := (newGu (cfgR q0) 1 0 1 (bAnd .i64 q1 3))) (A := ((mkAr (cfgR q0) aw_6 cw_7).store (ctlAt (cfgR q0) 1) (ctlW e_ g_ k_ l_ b_))) rfl (by rw [hlk]; decide))
        rw [hlk] at hfin
        have hG5 := congrArg Prod.fst hfin
        have hA5 := congrArg Prod.snd hfin
        simp only at hG5 hA5
        have hv0 : i2.2.2.ws.getD (slotAt (cfgR q0) 0).toNat 0 = 0 := by rw [hA5]; exact hw0
        have hv1 : i2.2.2.ws.getD (slotAt (cfgR q0) 1).toNat 0 = 0 := by rw [hA5]; exact hw1
        have hL5 := hxi2.2.2.2.1
        have hN5 := hxi2.2.2.2.2.1
        have hS5 := hxi2.2.2.2.2.2.2
        refine go_exec (rs := [.tmp 4]) (by kernel_rfl) 4000 [.z [0, 1, 1, 1, 1, 1, 1, 1, 1, 1, 1, 1, 1, 1, 1, 1, 1, 1] 1 [5, 6, 7, 9, 10, 12, 14, 15, 16, 77]] (o := .stop [.o [0, 1, 1, 1, 1, 1, 1, 1, 1, 1, 1, 1, 1, 1, 1, 1, 1, 1] 1, .c [1, 1, 1, 1, 1, 1, 1, 1, 1, 1, 1, 1, 1, 1, 1, 1, 1, 1]] [(5, .bool true), (6, vP b_4), (7, vP ba_5), (9, vP g_8), (10, vI (((mkAr (cfgR q0) aw_6 cw_7).store (ctlAt (cfgR q0) 1) (ctlW e_ g_ k_ l_ b_)).steps)), (12, vI 22), (14, vI 1), (15, vU 0), (16, vI 0), (77, vP g_8)] [.pts b_1 [vI q0, vI q1] 22, E93487 b_2 e_ g_ k_ l_ b_, .raw 0 o_, Ee1539 b_4 (cfgR q0), Ebee6b b_10 (ctlEpoch (ctlW e_ g_ k_ l_ b_)) (ctlGen (ctlW e_ g_ k_ l_ b_)) (ctlBlock (ctlW e_ g_ k_ l_ b_)) (ctlLive (ctlW e_ g_ k_ l_ b_)) (ctlBusy (ctlW e_ g_ k_ l_ b_)), Ee565f g_8 (cfgR q0) i2.2.1.client i2.2.1.epoch i2.2.1.slot i2.2.1.word (nxG g_8 i2.2.1.ph) i2.2.1.seen i2.2.1.block i2.2.1.failed i2.2.1.commit (errV i2.2.1.code), Ed5fc1 ba_5 i2.2.2, E5552f i2.2.2]) (by kernel_rfl) ?_
        refine ok_stop ?_
        refine go_call (some 78) [5] Tryd.call16 (guard_Told (cfgR q0) g_8 i2.2.1 hxi2.2.2.1.ph) (by kernel_rfl) ?_
        rintro v post ⟨rfl, rfl⟩
        refine go_exec (rs := [.tmp 4]) (by kernel_rfl) 4000 [.z [0, 1, 1, 1, 1, 1, 1, 1, 1, 1, 1, 1, 1, 1, 1, 1, 1, 1, 1] 1 [5, 6, 7, 9, 10, 12, 14, 15, 16, 17, 18, 81]] (o := .stop [.o [0, 1, 1, 1, 1, 1, 1, 1, 1, 1, 1, 1, 1, 1, 1, 1, 1, 1, 1] 1, .c [1, 1, 1, 1, 1, 1, 1, 1, 1, 1, 1, 1, 1, 1, 1, 1, 1, 1, 1]] [(5, .bool true), (6, vP b_4), (7, vP ba_5), (9, vP g_8), (10, vI (((mkAr (cfgR q0) aw_6 cw_7).store (ctlAt (cfgR q0) 1) (ctlW e_ g_ k_ l_ b_)).steps)), (12, vI 22), (14, vI 1), (15, vU 0), (16, vI 0), (17, vI ((Gu.told i2.2.1).1)), (18, (errV (Gu.told i2.2.1).2)), (81, vP ba_5)] [.pts b_1 [vI q0, vI q1] 22, E93487 b_2 e_ g_ k_ l_ b_, .raw 0 o_, Ee1539 b_4 (cfgR q0), Ebee6b b_10 (ctlEpoch (ctlW e_ g_ k_ l_ b_)) (ctlGen (ctlW e_ g_ k_ l_ b_)) (ctlBlock (ctlW e_ g_ k_ l_ b_)) (ctlLive (ctlW e_ g_ k_ l_ b_)) (ctlBusy (ctlW e_ g_ k_ l_ b_)), Ed5fc1 ba_5 i2.2.2, E5552f i2.2.2, Ee565f g_8 (cfgR q0) i2.2.1.client i2.2.1.epoch i2.2.1.slot i2.2.1.word (nxG g_8 i2.2.1.ph) i2.2.1.seen i2.2.1.block i2.2.1.failed i2.2.1.commit (errV i2.2.1.code)]) (by kernel_rfl) ?_
        refine ok_stop ?_
        refine go_call (some 82) [5, 6] Tryd.call19 (arena_Words ba_5 i2.2.2 hL5 (by have := sizeOfC_ok hc; omega)) (by kernel_rfl) ?_
        rintro v post ⟨a2_21, c2_22, rfl, rfl⟩
        refine go_exec (rs := [.tmp 4]) (by kernel_rfl) 4000 [.z [0, 1, 1, 1, 1, 1, 1, 1, 1, 1, 1, 1, 1, 1, 1, 1, 1, 1, 1, 1] 3 [6, 7, 9, 10, 12, 14, 15, 16, 17, 18, 19, 84, 85]] (o := .stop [.o [0, 1, 1, 1, 1, 1, 1, 1, 1, 1, 1, 1, 1, 1, 1, 1, 1, 1, 1, 1] 3, .c [1, 1, 1, 1, 1, 1, 1, 1, 1, 1, 1, 1, 1, 1, 1, 1, 1, 1, 1, 1]] [(6, vP b_4), (7, vP ba_5), (9, vP g_8), (10, vI (((mkAr (cfgR q0) aw_6 cw_7).store (ctlAt (cfgR q0) 1) (ctlW e_ g_ k_ l_ b_)).steps)), (12, vI 22), (14, vI 1), (15, vU 0), (16, vI 0), (17, vI ((Gu.told i2.2.1).1)), (18, (errV (Gu.told i2.2.1).2)), (19, .slice a2_21 i2.2.2.ws.length c2_22), (84, .bool true), (85, vP g_8)] [.pts b_1 [vI q0, vI q1] 22, E93487 b_2 e_ g_ k_ l_ b_, .raw 0 o_, Ee1539 b_4 (cfgR q0), Ebee6b b_10 (ctlEpoch (ctlW e_ g_ k_ l_ b_)) (ctlGen (ctlW e_ g_ k_ l_ b_)) (ctlBlock (ctlW e_ g_ k_ l_ b_)) (ctlLive (ctlW e_ g_ k_ l_ b_)) (ctlBusy (ctlW e_ g_ k_ l_ b_)), Ee565f g_8 (cfgR q0) i2.2.1.client i2.2.1.epoch i2.2.1.slot i2.2.1.word (nxG g_8 i2.2.1.ph) i2.2.1.seen i2.2.1.block i2.2.1.failed i2.2.1.commit (errV i2.2.1.code), Ed5fc1 ba_5 i2.2.2, E5552f i2.2.2, E72a8d a2_21 c2_22 i2.2.2.ws]) (by kernel_rfl) ?_
        refine ok_stop ?_
        refine go_call (some 86) [5] Tryd.call14 (guard_Done (cfgR q0) g_8 i2.2.1 hxi2.2.2.1.ph) (by kernel_rfl) ?_
        rintro v post ⟨rfl, rfl⟩
        refine go_exec (rs := [.tmp 4]) (by kernel_rfl) 4000 [.sp [88, 86, 87] [.z [0, 1, 1, 1, 1, 1, 1, 1, 1, 1, 1, 1, 1, 1, 1, 1, 1, 1, 1, 1] 7 [6, 7, 9, 10, 12, 14, 15, 16, 17, 19, 88, 89]] [.dead]] (o := .obl ((i2.2.1.ph == 0) = (i2.2.1.ph == 0)) (.obl ((i2.2.1.ph == 0) = (i2.2.1.ph == 0)) (.br (i2.2.1.ph == 0) (.stop [.o [0, 1, 1, 1, 1, 1, 1, 1, 1, 1, 1, 1, 1, 1, 1, 1, 1, 1, 1, 1] 7, .c [1, 1, 1, 1, 1, 1, 1, 1, 1, 1, 1, 1, 1, 1, 1, 1, 1, 1, 1, 1]] [(6, vP b_4), (7, vP ba_5), (9, vP g_8), (10, vI (((mkAr (cfgR q0) aw_6 cw_7).store (ctlAt (cfgR q0) 1) (ctlW e_ g_ k_ l_ b_)).steps)), (12, vI 22), (14, vI 1), (15, vU 0), (16, vI 0), (17, vI ((Gu.told i2.2.1).1)), (19, .slice a2_21 i2.2.2.ws.length c2_22), (88, .bool true), (89, (errV (Gu.told i2.2.1).2))] [.pts b_1 [vI q0, vI q1] 22, E93487 b_2 e_ g_ k_ l_ b_, .raw 0 o_, Ee1539 b_4 (cfgR q0), Ebee6b b_10 (ctlEpoch (ctlW e_ g_ k_ l_ b_)) (ctlGen (ctlW e_ g_ k_ l_ b_)) (ctlBlock (ctlW e_ g_ k_ l_ b_)) (ctlLive (ctlW e_ g_ k_ l_ b_)) (ctlBusy (ctlW e_ g_ k_ l_ b_)), Ed5fc1 ba_5 i2.2.2, E5552f i2.2.2, E72a8d a2_21 c2_22 i2.2.2.ws, Ee565f g_8 (cfgR q0) i2.2.1.client i2.2.1.epoch i2.2.1.slot i2.2.1.word (nxG g_8 i2.2.1.ph) i2.2.1.seen i2.2.1.block i2.2.1.failed i2.2.1.commit (errV i2.2.1.code)]) (.bad)))) (by kernel_rfl) ?_
        refine ok_obl rfl ?_
        refine ok_obl rfl ?_
        refine ok_br (fun _ => ?_) (fun h => absurd (show (i2.2.1.ph == 0) = true from (by rw [hG5]; rfl)) (by rw [h]; simp))
        refine ok_stop ?_
        refine go_call (some 90) [2] Tryd.call17 (cause_Top o_ ((Gu.told i2.2.1).2) ho) (by kernel_rfl) ?_
        rintro v post ⟨rfl, rfl⟩
        refine go_exec (rs := [.tmp 4]) (by kernel_rfl) 4000 [.sp [94, 92, 93] [.sp [99, 97, 98] [.z [0, 1, 1, 1, 1, 1, 1, 1, 1, 1, 1, 1, 1, 1, 1, 1, 1, 1, 1, 1] 18 [6, 9, 10, 14, 15, 19, 99, 100]] [.dead]] [.dead]] (o := .obl ((((Gu.told i2.2.1).2) == 22) = (((Gu.told i2.2.1).2) == 22)) (.obl ((((Gu.told i2.2.1).2) == 22) = (((Gu.told i2.2.1).2) == 22)) (.br (((Gu.told i2.2.1).2) == 22) (.obl ((((Gu.told i2.2.1).1) == 0) = (((Gu.told i2.2.1).1) == 0)) (.obl ((((Gu.told i2.2.1).1) == 0) = (((Gu.told i2.2.1).1) == 0)) (.br (((Gu.told i2.2.1).1) == 0) (.stop [.o [0, 1, 1, 1, 1, 1, 1, 1, 1, 1, 1, 1, 1, 1, 1, 1, 1, 1, 1, 1] 18, .c [1, 1, 1, 1, 1, 1, 1, 1, 1, 1, 1, 1, 1, 1, 1, 1, 1, 1, 1, 1]] [(6, vP b_4), (9, vP g_8), (10, vI (((mkAr (cfgR q0) aw_6 cw_7).store (ctlAt (cfgR q0) 1) (ctlW e_ g_ k_ l_ b_)).steps)), (14, vI 1), (15, vU 0), (19, .slice a2_21 i2.2.2.ws.length c2_22), (99, .bool true), (100, vP ba_5)] [.pts b_1 [vI q0, vI q1] 22, E93487 b_2 e_ g_ k_ l_ b_, Ee1539 b_4 (cfgR q0), Ebee6b b_10 (ctlEpoch (ctlW e_ g_ k_ l_ b_)) (ctlGen (ctlW e_ g_ k_ l_ b_)) (ctlBlock (ctlW e_ g_ k_ l_ b_)) (ctlLive (ctlW e_ g_ k_ l_ b_)) (ctlBusy (ctlW e_ g_ k_ l_ b_)), Ed5fc1 ba_5 i2.2.2, E5552f i2.2.2, E72a8d a2_21 c2_22 i2.2.2.ws, Ee565f g_8 (cfgR q0) i2.2.1.client i2.2.1.epoch i2.2.1.slot i2.2.1.word (nxG g_8 i2.2.1.ph) i2.2.1.seen i2.2.1.block i2.2.1.failed i2.2.1.commit (errV i2.2.1.code), .raw 0 o_]) (.bad)))) (.bad)))) (by kernel_rfl) ?_
        refine ok_obl rfl ?_
        refine ok_obl rfl ?_
        refine ok_br (fun _ => ?_) (fun h => absurd (show (((Gu.told i2.2.1).2) == 22) = true from (by rw [hG5]; exact beq_self_eq_true _)) (by rw [h]; simp))
        refine ok_obl rfl ?_
        refine ok_obl rfl ?_
        refine ok_br (fun _ => ?_) (fun h => absurd (show (((Gu.told i2.2.1).1) == 0) = true from (by rw [hG5]; exact beq_self_eq_true _)) (by rw [h]; simp))
        refine ok_stop ?_
        refine go_call (some 101) [4, 5] Tryd.call23 (arena_Steps ba_5 i2.2.2) (by kernel_rfl) ?_
        rintro v post ⟨rfl, rfl⟩
        refine go_exec (rs := [.tmp 4]) (by kernel_rfl) 4000 [.n, .sp [107, 105, 106] [.z [0, 1, 1, 1, 1, 1, 1, 1, 1, 1, 1, 1, 1, 1, 1, 1, 1, 1, 1, 1] 26 [6, 10, 14, 15, 19, 107, 108]] [.dead]] (o := .obl (InK .i64 ((((mkAr (cfgR q0) aw_6 cw_7).store (ctlAt (cfgR q0) 1) (ctlW e_ g_ k_ l_ b_)).steps) + 1)) (.obl ((i2.2.2.steps == ((((mkAr (cfgR q0) aw_6 cw_7).store (ctlAt (cfgR q0) 1) (ctlW e_ g_ k_ l_ b_)).steps) + 1)) = (i2.2.2.steps == ((((mkAr (cfgR q0) aw_6 cw_7).store (ctlAt (cfgR q0) 1) (ctlW e_ g_ k_ l_ b_)).steps) + 1))) (.obl ((i2.2.2.steps == ((((mkAr (cfgR q0) aw_6 cw_7).store (ctlAt (cfgR q0) 1) (ctlW e_ g_ k_ l_ b_)).steps) + 1)) = (i2.2.2.steps == ((((mkAr (cfgR q0) aw_6 cw_7).store (ctlAt (cfgR q0) 1) (ctlW e_ g_ k_ l_ b_)).steps) + 1))) (.br (i2.2.2.steps == ((((mkAr (cfgR q0) aw_6 cw_7).store (ctlAt (cfgR q0) 1) (ctlW e_ g_ k_ l_ b_)).steps) + 1)) (.stop [.o [0, 1, 1, 1, 1, 1, 1, 1, 1, 1, 1, 1, 1, 1, 1, 1, 1, 1, 1, 1] 26, .c [1, 1, 1, 1, 1, 1, 1, 1, 1, 1, 1, 1, 1, 1, 1, 1, 1, 1, 1, 1]] [(6, vP b_4), (10, vI (((mkAr (cfgR q0) aw_6 cw_7).store (ctlAt (cfgR q0) 1) (ctlW e_ g_ k_ l_ b_)).steps)), (14, vI 1), (15, vU 0), (19, .slice a2_21 i2.2.2.ws.length c2_22), (107, .bool true), (108, vP g_8)] [.pts b_1 [vI q0, vI q1] 22, E93487 b_2 e_ g_ k_ l_ b_, Ee1539 b_4 (cfgR q0), Ebee6b b_10 (ctlEpoch (ctlW e_ g_ k_ l_ b_)) (ctlGen (ctlW e_ g_ k_ l_ b_)) (ctlBlock (ctlW e_ g_ k_ l_ b_)) (ctlLive (ctlW e_ g_ k_ l_ b_)) (ctlBusy (ctlW e_ g_ k_ l_ b_)), E72a8d a2_21 c2_22 i2.2.2.ws, Ee565f g_8 (cfgR q0) i2.2.1.client i2.2.1.epoch i2.2.1.slot i2.2.1.word (nxG g_8 i2.2.1.ph) i2.2.1.seen i2.2.1.block i2.2.1.failed i2.2.1.commit (errV i2.2.1.code), .raw 0 o_, Ed5fc1 ba_5 i2.2.2, E5552f i2.2.2]) (.bad))))) (by kernel_rfl) ?_
        refine ok_obl (by have := and3 q1; simp only [InK]; omega) ?_
        refine ok_obl rfl ?_
        refine ok_obl rfl ?_
        refine ok_br (fun _ => ?_) (fun h => absurd (show (i2.2.2.steps == ((((mkAr (cfgR q0) aw_6 cw_7).store (ctlAt (cfgR q0) 1) (ctlW e_ g_ k_ l_ b_)).steps) + 1)) = true from (beq_iff_eq.2 (by rw [hA5]; simp only [Ar.load, Ar.store] <;> omega))) (by rw [h]; simp))
        refine ok_stop ?_
        refine go_call (some 109) [5] Tryd.call18 (guard_Commit (cfgR q0) g_8 i2.2.1 hxi2.2.2.1.ph) (by kernel_rfl) ?_
        rintro v post ⟨rfl, rfl⟩
        refine go_exec (rs := [.tmp 4]) (by kernel_rfl) 4000 [.n, .sp [115, 113, 114] [.sp [120, 118, 119] [.e 2, .z [0, 1, 1, 1, 1, 1, 1, 1, 1, 1, 1, 1, 1, 1, 1, 1, 1, 1, 1, 1] 40 [6, 15, 19, 120, 121, 122]] [.dead]] [.dead]] (o := .obl (InK .i64 ((((mkAr (cfgR q0) aw_6 cw_7).store (ctlAt (cfgR q0) 1) (ctlW e_ g_ k_ l_ b_)).steps) + 1)) (.obl (((Gu.comm i2.2.1) == ((((mkAr (cfgR q0) aw_6 cw_7).store (ctlAt (cfgR q0) 1) (ctlW e_ g_ k_ l_ b_)).steps) + 1)) = ((Gu.comm i2.2.1) == ((((mkAr (cfgR q0) aw_6 cw_7).store (ctlAt (cfgR q0) 1) (ctlW e_ g_ k_ l_ b_)).steps) + 1))) (.obl (((Gu.comm i2.2.1) == ((((mkAr (cfgR q0) aw_6 cw_7).store (ctlAt (cfgR q0) 1) (ctlW e_ g_ k_ l_ b_)).steps) + 1)) = ((Gu.comm i2.2.1) == ((((mkAr (cfgR q0) aw_6 cw_7).store (ctlAt (cfgR q0) 1) (ctlW e_ g_ k_ l_ b_)).steps) + 1))) (.br ((Gu.comm i2.2.1) == ((((mkAr (cfgR q0) aw_6 cw_7).store (ctlAt (cfgR q0) 1) (ctlW e_ g_ k_ l_ b_)).steps) + 1)) (.obl ((decide (((i2.2.2.ws.length : Nat) : Int) > 8)) = (decide (((i2.2.2.ws.length : Nat) : Int) > 8))) (.obl ((decide (((i2.2.2.ws.length : Nat) : Int) > 8)) = (decide (((i2.2.2.ws.length : Nat) : Int) > 8))) (.br (decide (((i2.2.2.ws.length : Nat) : Int) > 8)) (.obl (b_4 = b_4) (.stop [.o [0, 1, 1, 1, 1, 1, 1, 1, 1, 1, 1, 1, 1, 1, 1, 1, 1, 1, 1, 1] 40, .c [1, 1, 1, 1, 1, 1, 1, 1, 1, 1, 1, 1, 1, 1, 1, 1, 1, 1, 1, 1]] [(6, vP b_4), (15, vU 0), (19, .slice a2_21 i2.2.2.ws.length c2_22), (120, .bool true), (121, .slice a2_21 i2.2.2.ws.length c2_22), (122, cfgV (cfgR q0))] [.pts b_1 [vI q0, vI q1] 22, E93487 b_2 e_ g_ k_ l_ b_, Ee1539 b_4 (cfgR q0), Ebee6b b_10 (ctlEpoch (ctlW e_ g_ k_ l_ b_)) (ctlGen (ctlW e_ g_ k_ l_ b_)) (ctlBlock (ctlW e_ g_ k_ l_ b_)) (ctlLive (ctlW e_ g_ k_ l_ b_)) (ctlBusy (ctlW e_ g_ k_ l_ b_)), E72a8d a2_21 c2_22 i2.2.2.ws, .raw 0 o_, Ed5fc1 ba_5 i2.2.2, E5552f i2.2.2, Ee565f g_8 (cfgR q0) i2.2.1.client i2.2.1.epoch i2.2.1.slot i2.2.1.word (nxG g_8 i2.2.1.ph) i2.2.1.seen i2.2.1.block i2.2.1.failed i2.2.1.commit (errV i2.2.1.code)])) (.bad)))) (.bad))))) (by kernel_rfl) ?_
        refine ok_obl (by have := and3 q1; simp only [InK]; omega) ?_
        refine ok_obl rfl ?_
        refine ok_obl rfl ?_
        refine ok_br (fun _ => ?_) (fun h => absurd (show ((Gu.comm i2.2.1) == ((((mkAr (cfgR q0) aw_6 cw_7).store (ctlAt (cfgR q0) 1) (ctlW e_ g_ k_ l_ b_)).steps) + 1)) = true from (beq_iff_eq.2 (by rw [hG5]; rfl))) (by rw [h]; simp))
        refine ok_obl rfl ?_
        refine ok_obl rfl ?_
        refine ok_br (fun _ => ?_) (fun h => absurd (show (decide (((i2.2.2.ws.length : Nat) : Int) > 8)) = true from (decide_eq_true (by omega))) (by rw [h]; simp))
        refine ok_obl rfl ?_
        refine ok_stop ?_
        refine go_call (some 123) [] Tryd.call20 (plan_Slot (cfgR q0) 0 hc) (by kernel_rfl) ?_
        rintro v post ⟨rfl, rfl⟩
        refine go_exec (rs := [.tmp 4]) (by kernel_rfl) 4000 [.s 4, .j 4 ((slotAt (cfgR q0) 0).toNat), .sp [129, 127, 128] [.e 2, .z [0, 1, 1, 1, 1, 1, 1, 1, 1, 1, 1, 1, 1, 1, 1, 1, 1, 1, 1, 1] 49 [129, 130, 131]] [.dead]] (o := .obl (a2_21 = a2_21 ∧ i2.2.2.ws.length = i2.2.2.ws.length) (.obl ((0 : Int) ≤ (slotAt (cfgR q0) 0) ∧ (slotAt (cfgR q0) 0) < ((i2.2.2.ws.length : Nat) : Int)) (.obl (slAt a2_21 ((slotAt (cfgR q0) 0).toNat) 1 = slAt a2_21 ((slotAt (cfgR q0) 0).toNat) 1) (.obl ((slotAt (cfgR q0) 0).toNat < i2.2.2.ws.length) (.obl (((i2.2.2.ws.getD ((slotAt (cfgR q0) 0).toNat) 0) == 0) = ((i2.2.2.ws.getD ((slotAt (cfgR q0) 0).toNat) 0) == 0)) (.obl (((i2.2.2.ws.getD ((slotAt (cfgR q0) 0).toNat) 0) == 0) = ((i2.2.2.ws.getD ((slotAt (cfgR q0) 0).toNat) 0) == 0)) (.br ((i2.2.2.ws.getD ((slotAt (cfgR q0) 0).toNat) 0) == 0) (.obl (b_4 = b_4) (.stop [.o [0, 1, 1, 1, 1, 1, 1, 1, 1, 1, 1, 1, 1, 1, 1, 1, 1, 1, 1, 1] 49, .c [1, 1, 1, 1, 1, 1, 1, 1, 1, 1, 1, 1, 1, 1, 1, 1, 1, 1, 1, 1]] [(129, .bool true), (130, .slice a2_21 i2.2.2.ws.length c2_22), (131, cfgV (cfgR q0))] [.pts b_1 [vI q0, vI q1] 22, E93487 b_2 e_ g_ k_ l_ b_, Ee1539 b_4 (cfgR q0), Ebee6b b_10 (ctlEpoch (ctlW e_ g_ k_ l_ b_)) (ctlGen (ctlW e_ g_ k_ l_ b_)) (ctlBlock (ctlW e_ g_ k_ l_ b_)) (ctlLive (ctlW e_ g_ k_ l_ b_)) (ctlBusy (ctlW e_ g_ k_ l_ b_)), E72a8d a2_21 c2_22 i2.2.2.ws, .raw 0 o_, Ed5fc1 ba_5 i2.2.2, E5552f i2.2.2, Ee565f g_8 (cfgR q0) i2.2.1.client i2.2.1.epoch i2.2.1.slot i2.2.1.word (nxG g_8 i2.2.1.ph) i2.2.1.seen i2.2.1.block i2.2.1.failed i2.2.1.commit (errV i2.2.1.code)])) (.bad)))))))) (by kernel_rfl) ?_
        refine ok_obl ⟨rfl, (by first | rfl | omega | (simp; done) | (simp; omega))⟩ ?_
        refine ok_obl (by first | omega | (simp; done) | (simp; omega)) ?_
        refine ok_obl rfl ?_
        refine ok_obl (by first | omega | (simp; done) | (simp; omega)) ?_
        refine ok_obl rfl ?_
        refine ok_obl rfl ?_
        refine ok_br (fun _ => ?_) (fun h => absurd (show ((i2.2.2.ws.getD ((slotAt (cfgR q0) 0).toNat) 0) == 0) = true from (beq_iff_eq.2 (by first | exact hv0 | exact hv1))) (by rw [h]; simp))
        refine ok_obl rfl ?_
        refine ok_stop ?_
        refine go_call (some 132) [] Tryd.call20 (plan_Slot (cfgR q0) 1 hc) (by kernel_rfl) ?_
        rintro v post ⟨rfl, rfl⟩
        refine go_exec (rs := [.tmp 4]) (by kernel_rfl) 4000 [.s 4, .j 4 ((slotAt (cfgR q0) 1).toNat)] (o := .obl (a2_21 = a2_21 ∧ i2.2.2.ws.length = i2.2.2.ws.length) (.obl ((0 : Int) ≤ (slotAt (cfgR q0) 1) ∧ (slotAt (cfgR q0) 1) < ((i2.2.2.ws.length : Nat) : Int)) (.obl (slAt a2_21 ((slotAt (cfgR q0) 1).toNat) 1 = slAt a2_21 ((slotAt (cfgR q0) 1).toNat) 1) (.obl ((slotAt (cfgR q0) 1).toNat < i2.2.2.ws.length) (.ret (.bool ((i2.2.2.ws.getD ((slotAt (cfgR q0) 1).toNat) 0) == 0)) [.pts b_1 [vI q0, vI q1] 22, E93487 b_2 e_ g_ k_ l_ b_, Ee1539 b_4 (cfgR q0), Ebee6b b_10 (ctlEpoch (ctlW e_ g_ k_ l_ b_)) (ctlGen (ctlW e_ g_ k_ l_ b_)) (ctlBlock (ctlW e_ g_ k_ l_ b_)) (ctlLive (ctlW e_ g_ k_ l_ b_)) (ctlBusy (ctlW e_ g_ k_ l_ b_)), E72a8d a2_21 c2_22 i2.2.2.ws, .raw 0 o_, Ed5fc1 ba_5 i2.2.2, E5552f i2.2.2, Ee565f g_8 (cfgR q0) i2.2.1.client i2.2.1.epoch i2.2.1.slot i2.2.1.word (nxG g_8 i2.2.1.ph) i2.2.1.seen i2.2.1.block i2.2.1.failed i2.2.1.commit (errV i2.2.1.code)]))))) (by kernel_rfl) ?_
        refine ok_obl ⟨rfl, (by first | rfl | omega | (simp; done) | (simp; omega))⟩ ?_
        refine ok_obl (by first | omega | (simp; done) | (simp; omega)) ?_
        refine ok_obl rfl ?_
        refine ok_obl (by first | omega | (simp; done) | (simp; omega)) ?_
        exact ret_ok (post := [.raw 0 o_]) [5] (by kernel_rfl) ⟨(congrArg Value.bool (by first | rfl | exact beq_iff_eq.2 hv1)), (by kernel_rfl)⟩
  · have hl := (Bool.not_eq_true _).mp hl
    refine go_exec (rs := [.tmp 4]) (by kernel_rfl) 4000 [.e 7, .sp [52, 51] [.z [0, 1, 0, 1, 1, 1, 1, 1, 1, 1, 1, 1, 1, 1, 1] 0 [5, 6, 7, 9, 10, 11, 12, 13]] [.dead]] (o := .obl (b_10 = b_10) (.obl ((!(ctlLive (ctlW e_ g_ k_ l_ b_))) = (!(ctlLive (ctlW e_ g_ k_ l_ b_)))) (.br (!(ctlLive (ctlW e_ g_ k_ l_ b_))) (.stop [.c [0, 1, 0, 1, 1, 1, 1, 1, 1, 1, 1, 1, 1, 1, 1], .b 0, .c [1, 1, 1, 1, 1, 1, 1, 1, 1, 1, 1, 1, 1]] [(5, .bool true), (6, vP b_4), (7, vP ba_5), (9, vP g_8), (10, vI (((mkAr (cfgR q0) aw_6 cw_7).store (ctlAt (cfgR q0) 1) (ctlW e_ g_ k_ l_ b_)).steps)), (11, vP b_10), (12, vI 22), (13, vI 0)] [.pts b_1 [vI q0, vI q1] 22, E93487 b_2 e_ g_ k_ l_ b_, .raw 0 o_, Ee1539 b_4 (cfgR q0), Ee565f g_8 (cfgR q0) ((newGu (cfgR q0) 1 0 1 (bAnd .i64 q1 3)).client) ((newGu (cfgR q0) 1 0 1 (bAnd .i64 q1 3)).epoch) ((newGu (cfgR q0) 1 0 1 (bAnd .i64 q1 3)).slot) ((newGu (cfgR q0) 1 0 1 (bAnd .i64 q1 3)).word) (nxG g_8 (newGu (cfgR q0) 1 0 1 (bAnd .i64 q1 3)).ph) ((newGu (cfgR q0) 1 0 1 (bAnd .i64 q1 3)).seen) ((newGu (cfgR q0) 1 0 1 (bAnd .i64 q1 3)).block) ((newGu (cfgR q0) 1 0 1 (bAnd .i64 q1 3)).failed) ((newGu (cfgR q0) 1 0 1 (bAnd .i64 q1 3)).commit) (errV (newGu (cfgR q0) 1 0 1 (bAnd .i64 q1 3)).code), Ed5fc1 ba_5 ((mkAr (cfgR q0) aw_6 cw_7).store (ctlAt (cfgR q0) 1) (ctlW e_ g_ k_ l_ b_)), E5552f ((mkAr (cfgR q0) aw_6 cw_7).store (ctlAt (cfgR q0) 1) (ctlW e_ g_ k_ l_ b_)), Ebee6b b_10 (ctlEpoch (ctlW e_ g_ k_ l_ b_)) (ctlGen (ctlW e_ g_ k_ l_ b_)) (ctlBlock (ctlW e_ g_ k_ l_ b_)) (ctlLive (ctlW e_ g_ k_ l_ b_)) (ctlBusy (ctlW e_ g_ k_ l_ b_))]) (.bad)))) (by kernel_rfl) ?_
    refine ok_obl rfl ?_
    refine ok_obl rfl ?_
    refine ok_br (fun _ => ?_) (fun h => absurd (show (!(ctlLive (ctlW e_ g_ k_ l_ b_))) = true from (by simp [hl])) (by rw [h]; simp))
    refine ok_stop ?_
    refine go_loop (ι := Int × Gu × Ar) (fun i2 => [(5, .bool true), (6, vP b_4), (7, vP ba_5), (9, vP g_8), (10, vI (((mkAr (cfgR q0) aw_6 cw_7).store (ctlAt (cfgR q0) 1) (ctlW e_ g_ k_ l_ b_)).steps)), (11, vP b_10), (12, vI 22), (13, vI i2.1)]) (fun i2 => [.pts b_1 [vI q0, vI q1] 22, E93487 b_2 e_ g_ k_ l_ b_, .raw 0 o_, Ee1539 b_4 (cfgR q0), Ebee6b b_10 (ctlEpoch (ctlW e_ g_ k_ l_ b_)) (ctlGen (ctlW e_ g_ k_ l_ b_)) (ctlBlock (ctlW e_ g_ k_ l_ b_)) (ctlLive (ctlW e_ g_ k_ l_ b_)) (ctlBusy (ctlW e_ g_ k_ l_ b_)), Ee565f g_8 (cfgR q0) i2.2.1.client i2.2.1.epoch i2.2.1.slot i2.2.1.word (nxG g_8 i2.2.1.ph) i2.2.1.seen i2.2.1.block i2.2.1.failed i2.2.1.commit (errV i2.2.1.code), Ed5fc1 ba_5 i2.2.2, E5552f i2.2.2]) (fun i2 => (0 ≤ i2.1 ∧ i2.1 ≤ 5) ∧ (i2.2.1, i2.2.2) = runGu (cfgR q0).retry i2.1.toNat (newGu (cfgR q0) 1 0 1 (bAnd .i64 q1 3)) ((mkAr (cfgR q0) aw_6 cw_7).store (ctlAt (cfgR q0) 1) (ctlW e_ g_ k_ l_ b_)) ∧ Gu.Ok (cfgR q0) i2.2.2.n i2.2.1 ∧ ArW (cfgR q0) i2.2.2 (50 + i2.1)) (fun i2 => (5 - i2.1).toNat) (0, (newGu (cfgR q0) 1 0 1 (bAnd .i64 q1 3)), ((mkAr (cfgR q0) aw_6 cw_7).store (ctlAt (cfgR q0) 1) (ctlW e_ g_ k_ l_ b_))) [5, 6, 7, 9, 10, 11, 12, 13] [0, 1, 2, 3, 7, 4, 5, 6] (by kernel_rfl) (by kernel_rfl) (by kernel_rfl) (by kernel_rfl) ⟨(by dsimp only; omega), rfl, hG1, (hA1.mono (by dsimp only; omega))⟩ ?_
    intro i2 J_23 hIJ_23 hJ_23
    have hxi2 := hIJ_23
    have hki2 := hxi2.1
    refine go_exec (rs := [.tmp 4]) (by kernel_rfl) 4000 [.sp [64] [.z [0, 0, 1, 0, 0, 1, 0, 1, 1, 1, 1, 1, 1, 1, 1, 1, 1, 1, 1] 2 [5, 6, 7, 9, 10, 11, 12, 13, 67, 68]] [.z [0, 1, 1, 1, 1, 1, 1, 1, 1, 1, 1, 1, 1, 1, 1, 1, 1, 1] 0 [5, 6, 7, 9, 10, 12, 14, 15, 16]]] (o := .br (decide (i2.1 < 5)) (.stop [.o [0, 0, 1, 0, 0, 1, 0, 1, 1, 1, 1, 1, 1, 1, 1, 1, 1, 1, 1] 2, .b 1, .c [1, 1, 0, 0, 1, 0, 1, 1, 1, 1, 1, 1, 1, 1, 1, 1, 1, 1], .j J_23, .b 0, .c [1, 1, 1, 1, 1, 1, 1, 1, 1, 1, 1, 1, 1]] [(5, .bool true), (6, vP b_4), (7, vP ba_5), (9, vP g_8), (10, vI (((mkAr (cfgR q0) aw_6 cw_7).store (ctlAt (cfgR q0) 1) (ctlW e_ g_ k_ l_ b_)).steps)), (11, vP b_10), (12, vI 22), (13, vI i2.1), (67, vP g_8), (68, vP ba_5)] [.pts b_1 [vI q0, vI q1] 22, E93487 b_2 e_ g_ k_ l_ b_, .raw 0 o_, Ee1539 b_4 (cfgR q0), Ebee6b b_10 (ctlEpoch (ctlW e_ g_ k_ l_ b_)) (ctlGen (ctlW e_ g_ k_ l_ b_)) (ctlBlock (ctlW e_ g_ k_ l_ b_)) (ctlLive (ctlW e_ g_ k_ l_ b_)) (ctlBusy (ctlW e_ g_ k_ l_ b_)), Ee565f g_8 (cfgR q0) i2.2.1.client i2.2.1.epoch i2.2.1.slot i2.2.1.word (nxG g_8 i2.2.1.ph) i2.2.1.seen i2.2.1.block i2.2.1.failed i2.2.1.commit (errV i2.2.1.code), Ed5fc1 ba_5 i2.2.2, E5552f i2.2.2]) (.stop [.o [0, 1, 1, 1, 1, 1, 1, 1, 1, 1, 1, 1, 1, 1, 1, 1, 1, 1] 0, .c [1, 1, 1, 1, 1, 1, 1, 1, 1, 1, 1, 1, 1, 1, 1, 1, 1, 1]] [(5, .bool true), (6, vP b_4), (7, vP ba_5), (9, vP g_8), (10, vI (((mkAr (cfgR q0) aw_6 cw_7).store (ctlAt (cfgR q0) 1) (ctlW e_ g_ k_ l_ b_)).steps)), (12, vI 22), (14, vI 1), (15, vU 0), (16, vI 0)] [.pts b_1 [vI q0, vI q1] 22, E93487 b_2 e_ g_ k_ l_ b_, .raw 0 o_, Ee1539 b_4 (cfgR q0), Ebee6b b_10 (ctlEpoch (ctlW e_ g_ k_ l_ b_)) (ctlGen (ctlW e_ g_ k_ l_ b_)) (ctlBlock (ctlW e_ g_ k_ l_ b_)) (ctlLive (ctlW e_ g_ k_ l_ b_)) (ctlBusy (ctlW e_ g_ k_ l_ b_)), Ee565f g_8 (cfgR q0) i2.2.1.client i2.2.1.epoch i2.2.1.slot i2.2.1.word (nxG g_8 i2.2.1.ph) i2.2.1.seen i2.2.1.block i2.2.1.failed i2.2.1.commit (errV i2.2.1.code), Ed5fc1 ba_5 i2.2.2, E5552f i2.2.2])) (by kernel_rfl) ?_
    refine ok_br (fun h_24 => ?_) (fun h_24 => ?_)
    · replace h_24 := decT h_24
      refine ok_stop ?_
      refine go_call (some 69) [5, 6, 7] Tryd.call15 (guard_Step (cfgR q0) g_8 ba_5 i2.2.1 i2.2.2 hc hxi2.2.2.2.1 (by have h2 := hxi2.2.2.2.2.2.2; omega) hxi2.2.2.2.2.2.1 hxi2.2.2.1) (by kernel_rfl) ?_
      rintro v post ⟨rfl, rfl⟩
      refine go_exec (rs := [.tmp 4]) (by kernel_rfl) 4000 [.n, .z [] 0 [5, 6, 7, 9, 10, 11, 12, 13]] (o := .obl (InK .i64 (i2.1 + 1)) (.stop [.j J_23, .b 0, .c [1, 1, 1, 1, 1, 1, 1, 1, 1, 1, 1, 1, 1]] [(5, .bool true), (6, vP b_4), (7, vP ba_5), (9, vP g_8), (10, vI (((mkAr (cfgR q0) aw_6 cw_7).store (ctlAt (cfgR q0) 1) (ctlW e_ g_ k_ l_ b_)).steps)), (11, vP b_10), (12, vI 22), (13, vI (i2.1 + 1))] [.pts b_1 [vI q0, vI q1] 22, E93487 b_2 e_ g_ k_ l_ b_, .raw 0 o_, Ee1539 b_4 (cfgR q0), Ebee6b b_10 (ctlEpoch (ctlW e_ g_ k_ l_ b_)) (ctlGen (ctlW e_ g_ k_ l_ b_)) (ctlBlock (ctlW e_ g_ k_ l_ b_)) (ctlLive (ctlW e_ g_ k_ l_ b_)) (ctlBusy (ctlW e_ g_ k_ l_ b_)), Ee565f g_8 (cfgR q0) ((i2.2.1.step ((cfgR q0).retry) i2.2.2).1.client) ((i2.2.1.step ((cfgR q0).retry) i2.2.2).1.epoch) ((i2.2.1.step ((cfgR q0).retry) i2.2.2).1.slot) ((i2.2.1.step ((cfgR q0).retry) i2.2.2).1.word) (nxG g_8 (i2.2.1.step ((cfgR q0).retry) i2.2.2).1.ph) ((i2.2.1.step ((cfgR q0).retry) i2.2.2).1.seen) ((i2.2.1.step ((cfgR q0).retry) i2.2.2).1.block) ((i2.2.1.step ((cfgR q0).retry) i2.2.2).1.failed) ((i2.2.1.step ((cfgR q0).retry) i2.2.2).1.commit) (errV (i2.2.1.step ((cfgR q0).retry) i2.2.2).1.code), Ed5fc1 ba_5 ((i2.2.1.step ((cfgR q0).retry) i2.2.2).2), E5552f ((i2.2.1.step ((cfgR q0).retry) i2.2.2).2)])) (by kernel_rfl) ?_
      refine ok_obl (by have := and3 q1; simp only [InK]; omega) ?_
      refine ok_stop ?_
      exact go_back hJ_23 ((i2.1 + 1), (i2.2.1.step ((cfgR q0).retry) i2.2.2).1, (i2.2.1.step ((cfgR q0).retry) i2.2.2).2) [0, 1, 2, 3, 4, 5, 6, 7] (by kernel_rfl) (by kernel_rfl) (by kernel_rfl) ⟨(by dsimp only; omega), (by dsimp only; rw [show (i2.1 + 1).toNat = i2.1.toNat + 1 by omega, runGu_succ, ← hxi2.2.1]), (gu_step hc hxi2.2.2.1 hxi2.2.2.2).1, ((gu_step hc hxi2.2.2.1 hxi2.2.2.2).2.mono (by dsimp only; omega))⟩ (by dsimp only; omega)
    · replace h_24 := decF h_24
      refine ok_stop ?_
      have h9 : i2.1 = 5 := by omega
      have hr5 := hxi2.2.1
      rw [h9] at hr5
      have hr5 : (i2.2.1, i2.2.2) = runGu (cfgR q0).retry 5 (newGu (cfgR q0) 1 0 1 (bAnd .i64 q1 3)) ((mkAr (cfgR q0) aw_6 cw_7).store (ctlAt (cfgR q0) 1) (ctlW e_ g_ k_ l_ b_)) := hr5
      have hlk : lookE (List.getD ((mkAr (cfgR q0) aw_6 cw_7).store (ctlAt (cfgR q0) 1) (ctlW e_ g_ k_ l_ b_)).ws (Gu.word (newGu (cfgR q0) 1 0 1 (bAnd .i64 q1 3))).toNat 0) (Gu.epoch (newGu (cfgR q0) 1 0 1 (bAnd .i64 q1 3))) = 22 := by
        show lookE (List.getD _ (ctlAt (cfgR q0) 1).toNat 0) (bAnd .i64 q1 3) = 22
        rw [hwW]; exact (by unfold lookE; rw [if_neg (by rw [hl]; simp)])
      have hfin := hr5.trans (steady_bad (r := (cfgR q0).retry) (G := (newGu (cfgR q0) 1 0 1 (bAnd .i64 q1 3))) (A := ((mkAr (cfgR q0) aw_6 cw_7).store (ctlAt (cfgR q0) 1) (ctlW e_ g_ k_ l_ b_))) rfl (by rw [hlk]; decide))
      rw [hlk] at hfin
      have hG5 := congrArg Prod.fst hfin
      have hA5 := congrArg Prod.snd hfin
      simp only at hG5 hA5
      have hv0 : i2.2.2.ws.getD (slotAt (cfgR q0) 0).toNat 0 = 0 := by rw [hA5]; exact hw0
      have hv1 : i2.2.2.ws.getD (slotAt (cfgR q0) 1).toNat 0 = 0 := by rw [hA5]; exact hw1
      have hL5 := hxi2.2.2.2.1
      have hN5 := hxi2.2.2.2.2.1
      have hS5 := hxi2.2.2.2.2.2.2
      refine go_exec (rs := [.tmp 4]) (by kernel_rfl) 4000 [.z [0, 1, 1, 1, 1, 1, 1, 1, 1, 1, 1, 1, 1, 1, 1, 1, 1, 1] 1 [5, 6, 7, 9, 10, 12, 14, 15, 16, 77]] (o := .stop [.o [0, 1, 1, 1, 1, 1, 1, 1, 1, 1, 1, 1, 1, 1, 1, 1, 1, 1] 1, .c [1, 1, 1, 1, 1, 1, 1, 1, 1, 1, 1, 1, 1, 1, 1, 1, 1, 1]] [(5, .bool true), (6, vP b_4), (7, vP ba_5), (9, vP g_8), (10, vI (((mkAr (cfgR q0) aw_6 cw_7).store (ctlAt (cfgR q0) 1) (ctlW e_ g_ k_ l_ b_)).steps)), (12, vI 22), (14, vI 1), (15, vU 0), (16, vI 0), (77, vP g_8)] [.pts b_1 [vI q0, vI q1] 22, E93487 b_2 e_ g_ k_ l_ b_, .raw 0 o_, Ee1539 b_4 (cfgR q0), Ebee6b b_10 (ctlEpoch (ctlW e_ g_ k_ l_ b_)) (ctlGen (ctlW e_ g_ k_ l_ b_)) (ctlBlock (ctlW e_ g_ k_ l_ b_)) (ctlLive (ctlW e_ g_ k_ l_ b_)) (ctlBusy (ctlW e_ g_ k_ l_ b_)), Ee565f g_8 (cfgR q0) i2.2.1.client i2.2.1.epoch i2.2.1.slot i2.2.1.word (nxG g_8 i2.2.1.ph) i2.2.1.seen i2.2.1.block i2.2.1.failed i2.2.1.commit (errV i2.2.1.code), Ed5fc1 ba_5 i2.2.2, E5552f i2.2.2]) (by kernel_rfl) ?_
      refine ok_stop ?_
      refine go_call (some 78) [5] Tryd.call16 (guard_Told (cfgR q0) g_8 i2.2.1 hxi2.2.2.1.ph) (by kernel_rfl) ?_
      rintro v post ⟨rfl, rfl⟩
      refine go_exec (rs := [.tmp 4]) (by kernel_rfl) 4000 [.z [0, 1, 1, 1, 1, 1, 1, 1, 1, 1, 1, 1, 1, 1, 1, 1, 1, 1, 1] 1 [5, 6, 7, 9, 10, 12, 14, 15, 16, 17, 18, 81]] (o := .stop [.o [0, 1, 1, 1, 1, 1, 1, 1, 1, 1, 1, 1, 1, 1, 1, 1, 1, 1, 1] 1, .c [1, 1, 1, 1, 1, 1, 1, 1, 1, 1, 1, 1, 1, 1, 1, 1, 1, 1, 1]] [(5, .bool true), (6, vP b_4), (7, vP ba_5), (9, vP g_8), (10, vI (((mkAr (cfgR q0) aw_6 cw_7).store (ctlAt (cfgR q0) 1) (ctlW e_ g_ k_ l_ b_)).steps)), (12, vI 22), (14, vI 1), (15, vU 0), (16, vI 0), (17, vI ((Gu.told i2.2.1).1)), (18, (errV (Gu.told i2.2.1).2)), (81, vP ba_5)] [.pts b_1 [vI q0, vI q1] 22, E93487 b_2 e_ g_ k_ l_ b_, .raw 0 o_, Ee1539 b_4 (cfgR q0), Ebee6b b_10 (ctlEpoch (ctlW e_ g_ k_ l_ b_)) (ctlGen (ctlW e_ g_ k_ l_ b_)) (ctlBlock (ctlW e_ g_ k_ l_ b_)) (ctlLive (ctlW e_ g_ k_ l_ b_)) (ctlBusy (ctlW e_ g_ k_ l_ b_)), Ed5fc1 ba_5 i2.2.2, E5552f i2.2.2, Ee565f g_8 (cfgR q0) i2.2.1.client i2.2.1.epoch i2.2.1.slot i2.2.1.word (nxG g_8 i2.2.1.ph) i2.2.1.seen i2.2.1.block i2.2.1.failed i2.2.1.commit (errV i2.2.1.code)]) (by kernel_rfl) ?_
      refine ok_stop ?_
      refine go_call (some 82) [5, 6] Tryd.call19 (arena_Words ba_5 i2.2.2 hL5 (by have := sizeOfC_ok hc; omega)) (by kernel_rfl) ?_
      rintro v post ⟨a2_25, c2_26, rfl, rfl⟩
      refine go_exec (rs := [.tmp 4]) (by kernel_rfl) 4000 [.z [0, 1, 1, 1, 1, 1, 1, 1, 1, 1, 1, 1, 1, 1, 1, 1, 1, 1, 1, 1] 3 [6, 7, 9, 10, 12, 14, 15, 16, 17, 18, 19, 84, 85]] (o := .stop [.o [0, 1, 1, 1, 1, 1, 1, 1, 1, 1, 1, 1, 1, 1, 1, 1, 1, 1, 1, 1] 3, .c [1, 1, 1, 1, 1, 1, 1, 1, 1, 1, 1, 1, 1, 1, 1, 1, 1, 1, 1, 1]] [(6, vP b_4), (7, vP ba_5), (9, vP g_8), (10, vI (((mkAr (cfgR q0) aw_6 cw_7).store (ctlAt (cfgR q0) 1) (ctlW e_ g_ k_ l_ b_)).steps)), (12, vI 22), (14, vI 1), (15, vU 0), (16, vI 0), (17, vI ((Gu.told i2.2.1).1)), (18, (errV (Gu.told i2.2.1).2)), (19, .slice a2_25 i2.2.2.ws.length c2_26), (84, .bool true), (85, vP g_8)] [.pts b_1 [vI q0, vI q1] 22, E93487 b_2 e_ g_ k_ l_ b_, .raw 0 o_, Ee1539 b_4 (cfgR q0), Ebee6b b_10 (ctlEpoch (ctlW e_ g_ k_ l_ b_)) (ctlGen (ctlW e_ g_ k_ l_ b_)) (ctlBlock (ctlW e_ g_ k_ l_ b_)) (ctlLive (ctlW e_ g_ k_ l_ b_)) (ctlBusy (ctlW e_ g_ k_ l_ b_)), Ee565f g_8 (cfgR q0) i2.2.1.client i2.2.1.epoch i2.2.1.slot i2.2.1.word (nxG g_8 i2.2.1.ph) i2.2.1.seen i2.2.1.block i2.2.1.failed i2.2.1.commit (errV i2.2.1.code), Ed5fc1 ba_5 i2.2.2, E5552f i2.2.2, E72a8d a2_25 c2_26 i2.2.2.ws]) (by kernel_rfl) ?_
      refine ok_stop ?_
      refine go_call (some 86) [5] Tryd.call14 (guard_Done (cfgR q0) g_8 i2.2.1 hxi2.2.2.1.ph) (by kernel_rfl) ?_
      rintro v post ⟨rfl, rfl⟩
      refine go_exec (rs := [.tmp 4]) (by kernel_rfl) 4000 [.sp [88, 86, 87] [.z [0, 1, 1, 1, 1, 1, 1, 1, 1, 1, 1, 1, 1, 1, 1, 1, 1, 1, 1, 1] 7 [6, 7, 9, 10, 12, 14, 15, 16, 17, 19, 88, 89]] [.dead]] (o := .obl ((i2.2.1.ph == 0) = (i2.2.1.ph == 0)) (.obl ((i2.2.1.ph == 0) = (i2.2.1.ph == 0)) (.br (i2.2.1.ph == 0) (.stop [.o [0, 1, 1, 1, 1, 1, 1, 1, 1, 1, 1, 1, 1, 1, 1, 1, 1, 1, 1, 1] 7, .c [1, 1, 1, 1, 1, 1, 1, 1, 1, 1, 1, 1, 1, 1, 1, 1, 1, 1, 1, 1]] [(6, vP b_4), (7, vP ba_5), (9, vP g_8), (10, vI (((mkAr (cfgR q0) aw_6 cw_7).store (ctlAt (cfgR q0) 1) (ctlW e_ g_ k_ l_ b_)).steps)), (12, vI 22), (14, vI 1), (15, vU 0), (16, vI 0), (17, vI ((Gu.told i2.2.1).1)), (19, .slice a2_25 i2.2.2.ws.length c2_26), (88, .bool true), (89, (errV (Gu.told i2.2.1).2))] [.pts b_1 [vI q0, vI q1] 22, E93487 b_2 e_ g_ k_ l_ b_, .raw 0 o_, Ee1539 b_4 (cfgR q0), Ebee6b b_10 (ctlEpoch (ctlW e_ g_ k_ l_ b_)) (ctlGen (ctlW e_ g_ k_ l_ b_)) (ctlBlock (ctlW e_ g_ k_ l_ b_)) (ctlLive (ctlW e_ g_ k_ l_ b_)) (ctlBusy (ctlW e_ g_ k_ l_ b_)), Ed5fc1 ba_5 i2.2.2, E5552f i2.2.2, E72a8d a2_25 c2_26 i2.2.2.ws, Ee565f g_8 (cfgR q0) i2.2.1.client i2.2.1.epoch i2.2.1.slot i2.2.1.word (nxG g_8 i2.2.1.ph) i2.2.1.seen i2.2.1.block i2.2.1.failed i2.2.1.commit (errV i2.2.1.code)]) (.bad)))) (by kernel_rfl) ?_
      refine ok_obl rfl ?_
      refine ok_obl rfl ?_
      refine ok_br (fun _ => ?_) (fun h => absurd (show (i2.2.1.ph == 0) = true from (by rw [hG5]; rfl)) (by rw [h]; simp))
      refine ok_stop ?_
      refine go_call (some 90) [2] Tryd.call17 (cause_Top o_ ((Gu.told i2.2.1).2) ho) (by kernel_rfl) ?_
      rintro v post ⟨rfl, rfl⟩
      refine go_exec (rs := [.tmp 4]) (by kernel_rfl) 4000 [.sp [94, 92, 93] [.sp [99, 97, 98] [.z [0, 1, 1, 1, 1, 1, 1, 1, 1, 1, 1, 1, 1, 1, 1, 1, 1, 1, 1, 1] 18 [6, 9, 10, 14, 15, 19, 99, 100]] [.dead]] [.dead]] (o := .obl ((((Gu.told i2.2.1).2) == 22) = (((Gu.told i2.2.1).2) == 22)) (.obl ((((Gu.told i2.2.1).2) == 22) = (((Gu.told i2.2.1).2) == 22)) (.br (((Gu.told i2.2.1).2) == 22) (.obl ((((Gu.told i2.2.1).1) == 0) = (((Gu.told i2.2.1).1) == 0)) (.obl ((((Gu.told i2.2.1).1) == 0) = (((Gu.told i2.2.1).1) == 0)) (.br (((Gu.told i2.2.1).1) == 0) (.stop [.o [0, 1, 1, 1, 1, 1, 1, 1, 1, 1, 1, 1, 1, 1, 1, 1, 1, 1, 1, 1] 18, .c [1, 1, 1, 1, 1, 1, 1, 1, 1, 1, 1, 1, 1, 1, 1, 1, 1, 1, 1, 1]] [(6, vP b_4), (9, vP g_8), (10, vI (((mkAr (cfgR q0) aw_6 cw_7).store (ctlAt (cfgR q0) 1) (ctlW e_ g_ k_ l_ b_)).steps)), (14, vI 1), (15, vU 0), (19, .slice a2_25 i2.2.2.ws.length c2_26), (99, .bool true), (100, vP ba_5)] [.pts b_1 [vI q0, vI q1] 22, E93487 b_2 e_ g_ k_ l_ b_, Ee1539 b_4 (cfgR q0), Ebee6b b_10 (ctlEpoch (ctlW e_ g_ k_ l_ b_)) (ctlGen (ctlW e_ g_ k_ l_ b_)) (ctlBlock (ctlW e_ g_ k_ l_ b_)) (ctlLive (ctlW e_ g_ k_ l_ b_)) (ctlBusy (ctlW e_ g_ k_ l_ b_)), Ed5fc1 ba_5 i2.2.2, E5552f i2.2.2, E72a8d a2_25 c2_26 i2.2.2.ws, Ee565f g_8 (cfgR q0) i2.2.1.client i2.2.1.epoch i2.2.1.slot i2.2.1.word (nxG g_8 i2.2.1.ph) i2.2.1.seen i2.2.1.block i2.2.1.failed i2.2.1.commit (errV i2.2.1.code), .raw 0 o_]) (.bad)))) (.bad)))) (by kernel_rfl) ?_
      refine ok_obl rfl ?_
      refine ok_obl rfl ?_
      refine ok_br (fun _ => ?_) (fun h => absurd (show (((Gu.told i2.2.1).2) == 22) = true from (by rw [hG5]; exact beq_self_eq_true _)) (by rw [h]; simp))
      refine ok_obl rfl ?_
      refine ok_obl rfl ?_
      refine ok_br (fun _ => ?_) (fun h => absurd (show (((Gu.told i2.2.1).1) == 0) = true from (by rw [hG5]; exact beq_self_eq_true _)) (by rw [h]; simp))
      refine ok_stop ?_
      refine go_call (some 101) [4, 5] Tryd.call23 (arena_Steps ba_5 i2.2.2) (by kernel_rfl) ?_
      rintro v post ⟨rfl, rfl⟩
      refine go_exec (rs := [.tmp 4]) (by kernel_rfl) 4000 [.n, .sp [107, 105, 106] [.z [0, 1, 1, 1, 1, 1, 1, 1, 1, 1, 1, 1, 1, 1, 1, 1, 1, 1, 1, 1] 26 [6, 10, 14, 15, 19, 107, 108]] [.dead]] (o := .obl (InK .i64 ((((mkAr (cfgR q0) aw_6 cw_7).store (ctlAt (cfgR q0) 1) (ctlW e_ g_ k_ l_ b_)).steps) + 1)) (.obl ((i2.2.2.steps == ((((mkAr (cfgR q0) aw_6 cw_7).store (ctlAt (cfgR q0) 1) (ctlW e_ g_ k_ l_ b_)).steps) + 1)) = (i2.2.2.steps == ((((mkAr (cfgR q0) aw_6 cw_7).store (ctlAt (cfgR q0) 1) (ctlW e_ g_ k_ l_ b_)).steps) + 1))) (.obl ((i2.2.2.steps == ((((mkAr (cfgR q0) aw_6 cw_7).store (ctlAt (cfgR q0) 1) (ctlW e_ g_ k_ l_ b_)).steps) + 1)) = (i2.2.2.steps == ((((mkAr (cfgR q0) aw_6 cw_7).store (ctlAt (cfgR q0) 1) (ctlW e_ g_ k_ l_ b_)).steps) + 1))) (.br (i2.2.2.steps == ((((mkAr (cfgR q0) aw_6 cw_7).store (ctlAt (cfgR q0) 1) (ctlW e_ g_ k_ l_ b_)).steps) + 1)) (.stop [.o [0, 1, 1, 1, 1, 1, 1, 1, 1, 1, 1, 1, 1, 1, 1, 1, 1, 1, 1, 1] 26, .c [1, 1, 1, 1, 1, 1, 1, 1, 1, 1, 1, 1, 1, 1, 1, 1, 1, 1, 1, 1]] [(6, vP b_4), (10, vI (((mkAr (cfgR q0) aw_6 cw_7).store (ctlAt (cfgR q0) 1) (ctlW e_ g_ k_ l_ b_)).steps)), (14, vI 1), (15, vU 0), (19, .slice a2_25 i2.2.2.ws.length c2_26), (107, .bool true), (108, vP g_8)] [.pts b_1 [vI q0, vI q1] 22, E93487 b_2 e_ g_ k_ l_ b_, Ee1539 b_4 (cfgR q0), Ebee6b b_10 (ctlEpoch (ctlW e_ g_ k_ l_ b_)) (ctlGen (ctlW e_ g_ k_ l_ b_)) (ctlBlock (ctlW e_ g_ k_ l_ b_)) (ctlLive (ctlW e_ g_ k_ l_ b_)) (ctlBusy (ctlW e_ g_ k_ l_ b_)), E72a8d a2_25 c2_26 i2.2.2.ws, Ee565f g_8 (cfgR q0) i2.2.1.client i2.2.1.epoch i2.2.1.slot i2.2.1.word (nxG g_8 i2.2.1.ph) i2.2.1.seen i2.2.1.block i2.2.1.failed i2.2.1.commit (errV i2.2.1.code), .raw 0 o_, Ed5fc1 ba_5 i2.2.2, E5552f i2.2.2]) (.bad))))) (by kernel_rfl) ?_
      refine ok_obl (by have := and3 q1; simp only [InK]; omega) ?_
      refine ok_obl rfl ?_
      refine ok_obl rfl ?_
      refine ok_br (fun _ => ?_) (fun h => absurd (show (i2.2.2.steps == ((((mkAr (cfgR q0) aw_6 cw_7).store (ctlAt (cfgR q0) 1) (ctlW e_ g_ k_ l_ b_)).steps) + 1)) = true from (beq_iff_eq.2 (by rw [hA5]; simp only [Ar.load, Ar.store] <;> omega))) (by rw [h]; simp))
      refine ok_stop ?_
      refine go_call (some 109) [5] Tryd.call18 (guard_Commit (cfgR q0) g_8 i2.2.1 hxi2.2.2.1.ph) (by kernel_rfl) ?_
      rintro v post ⟨rfl, rfl⟩
      refine go_exec (rs := [.tmp 4]) (by kernel_rfl) 4000 [.n, .sp [115, 113, 114] [.sp [120, 118, 119] [.e 2, .z [0, 1, 1, 1, 1, 1, 1, 1, 1, 1, 1, 1, 1, 1, 1, 1, 1, 1, 1, 1] 40 [6, 15, 19, 120, 121, 122]] [.dead]] [.dead]] (o := .obl (InK .i64 ((((mkAr (cfgR q0) aw_6 cw_7).store (ctlAt (cfgR q0) 1) (ctlW e_ g_ k_ l_ b_)).steps) + 1)) (.obl (((Gu.comm i2.2.1) == ((((mkAr (cfgR q0) aw_6 cw_7).store (ctlAt (cfgR q0) 1) (ctlW e_ g_ k_ l_ b_)).steps) + 1)) = ((Gu.comm i2.2.1) == ((((mkAr (cfgR q0) aw_6 cw_7).store (ctlAt (cfgR q0) 1) (ctlW e_ g_ k_ l_ b_)).steps) + 1))) (.obl (((Gu.comm i2.2.1) == ((((mkAr (cfgR q0) aw_6 cw_7).store (ctlAt (cfgR q0) 1) (ctlW e_ g_ k_ l_ b_)).steps) + 1)) = ((Gu.comm i2.2.1) == ((((mkAr (cfgR q0) aw_6 cw_7).store (ctlAt (cfgR q0) 1) (ctlW e_ g_ k_ l_ b_)).steps) + 1))) (.br ((Gu.comm i2.2.1) == ((((mkAr (cfgR q0) aw_6 cw_7).store (ctlAt (cfgR q0) 1) (ctlW e_ g_ k_ l_ b_)).steps) + 1)) (.obl ((decide (((i2.2.2.ws.length : Nat) : Int) > 8)) = (decide (((i2.2.2.ws.length : Nat) : Int) > 8))) (.obl ((decide (((i2.2.2.ws.length : Nat) : Int) > 8)) = (decide (((i2.2.2.ws.length : Nat) : Int) > 8))) (.br (decide (((i2.2.2.ws.length : Nat) : Int) > 8)) (.obl (b_4 = b_4) (.stop [.o [0, 1, 1, 1, 1, 1, 1, 1, 1, 1, 1, 1, 1, 1, 1, 1, 1, 1, 1, 1] 40, .c [1, 1, 1, 1, 1, 1, 1, 1, 1, 1, 1, 1, 1, 1, 1, 1, 1, 1, 1, 1]] [(6, vP b_4), (15, vU 0), (19, .slice a2_25 i2.2.2.ws.length c2_26), (120, .bool true), (121, .slice a2_25 i2.2.2.ws.length c2_26), (122, cfgV (cfgR q0))] [.pts b_1 [vI q0, vI q1] 22, E93487 b_2 e_ g_ k_ l_ b_, Ee1539 b_4 (cfgR q0), Ebee6b b_10 (ctlEpoch (ctlW e_ g_ k_ l_ b_)) (ctlGen (ctlW e_ g_ k_ l_ b_)) (ctlBlock (ctlW e_ g_ k_ l_ b_)) (ctlLive (ctlW e_ g_ k_ l_ b_)) (ctlBusy (ctlW e_ g_ k_ l_ b_)), E72a8d a2_25 c2_26 i2.2.2.ws, .raw 0 o_, Ed5fc1 ba_5 i2.2.2, E5552f i2.2.2, Ee565f g_8 (cfgR q0) i2.2.1.client i2.2.1.epoch i2.2.1.slot i2.2.1.word (nxG g_8 i2.2.1.ph) i2.2.1.seen i2.2.1.block i2.2.1.failed i2.2.1.commit (errV i2.2.1.code)])) (.bad)))) (.bad))))) (by kernel_rfl) ?_
      refine ok_obl (by have := and3 q1; simp only [InK]; omega) ?_
      refine ok_obl rfl ?_
      refine ok_obl rfl ?_
      refine ok_br (fun _ => ?_) (fun h => absurd (show ((Gu.comm i2.2.1) == ((((mkAr (cfgR q0) aw_6 cw_7).store (ctlAt (cfgR q0) 1) (ctlW e_ g_ k_ l_ b_)).steps) + 1)) = true from (beq_iff_eq.2 (by rw [hG5]; rfl))) (by rw [h]; simp))
      refine ok_obl rfl ?_
      refine ok_obl rfl ?_
      refine ok_br (fun _ => ?_) (fun h => absurd (show (decide (((i2.2.2.ws.length : Nat) : Int) > 8)) = true from (decide_eq_true (by omega))) (by rw [h]; simp))
      refine ok_obl rfl ?_
      refine ok_stop ?_
      refine go_call (some 123) [] Tryd.call20 (plan_Slot (cfgR q0) 0 hc) (by kernel_rfl) ?_
      rintro v post ⟨rfl, rfl⟩
      refine go_exec (rs := [.tmp 4]) (by kernel_rfl) 4000 [.s 4, .j 4 ((slotAt (cfgR q0) 0).toNat), .sp [129, 127, 128] [.e 2, .z [0, 1, 1, 1, 1, 1, 1, 1, 1, 1, 1, 1, 1, 1, 1, 1, 1, 1, 1, 1] 49 [129, 130, 131]] [.dead]] (o := .obl (a2_25 = a2_25 ∧ i2.2.2.ws.length = i2.2.2.ws.length) (.obl ((0 : Int) ≤ (slotAt (cfgR q0) 0) ∧ (slotAt (cfgR q0) 0) < ((i2.2.2.ws.length : Nat) : Int)) (.obl (slAt a2_25 ((slotAt (cfgR q0) 0).toNat) 1 = slAt a2_25 ((slotAt (cfgR q0) 0).toNat) 1) (.obl ((slotAt (cfgR q0) 0).toNat < i2.2.2.ws.length) (.obl (((i2.2.2.ws.getD ((slotAt (cfgR q0) 0).toNat) 0) == 0) = ((i2.2.2.ws.getD ((slotAt (cfgR q0) 0).toNat) 0) == 0)) (.obl (((i2.2.2.ws.getD ((slotAt (cfgR q0) 0).toNat) 0) == 0) = ((i2.2.2.ws.getD ((slotAt (cfgR q0) 0).toNat) 0) == 0)) (.br ((i2.2.2.ws.getD ((slotAt (cfgR q0) 0).toNat) 0) == 0) (.obl (b_4 = b_4) (.stop [.o [0, 1, 1, 1, 1, 1, 1, 1, 1, 1, 1, 1, 1, 1, 1, 1, 1, 1, 1, 1] 49, .c [1, 1, 1, 1, 1, 1, 1, 1, 1, 1, 1, 1, 1, 1, 1, 1, 1, 1, 1, 1]] [(129, .bool true), (130, .slice a2_25 i2.2.2.ws.length c2_26), (131, cfgV (cfgR q0))] [.pts b_1 [vI q0, vI q1] 22, E93487 b_2 e_ g_ k_ l_ b_, Ee1539 b_4 (cfgR q0), Ebee6b b_10 (ctlEpoch (ctlW e_ g_ k_ l_ b_)) (ctlGen (ctlW e_ g_ k_ l_ b_)) (ctlBlock (ctlW e_ g_ k_ l_ b_)) (ctlLive (ctlW e_ g_ k_ l_ b_)) (ctlBusy (ctlW e_ g_ k_ l_ b_)), E72a8d a2_25 c2_26 i2.2.2.ws, .raw 0 o_, Ed5fc1 ba_5 i2.2.2, E5552f i2.2.2, Ee565f g_8 (cfgR q0) i2.2.1.client i2.2.1.epoch i2.2.1.slot i2.2.1.word (nxG g_8 i2.2.1.ph) i2.2.1.seen i2.2.1.block i2.2.1.failed i2.2.1.commit (errV i2.2.1.code)])) (.bad)))))))) (by kernel_rfl) ?_
      refine ok_obl ⟨rfl, (by first | rfl | omega | (simp; done) | (simp; omega))⟩ ?_
      refine ok_obl (by first | omega | (simp; done) | (simp; omega)) ?_
      refine ok_obl rfl ?_
      refine ok_obl (by first | omega | (simp; done) | (simp; omega)) ?_
      refine ok_obl rfl ?_
      refine ok_obl rfl ?_
      refine ok_br (fun _ => ?_) (fun h => absurd (show ((i2.2.2.ws.getD ((slotAt (cfgR q0) 0).toNat) 0) == 0) = true from (beq_iff_eq.2 (by first | exact hv0 | exact hv1))) (by rw [h]; simp))
      refine ok_obl rfl ?_
      refine ok_stop ?_
      refine go_call (some 132) [] Tryd.call20 (plan_Slot (cfgR q0) 1 hc) (by kernel_rfl) ?_
      rintro v post ⟨rfl, rfl⟩
      refine go_exec (rs := [.tmp 4]) (by kernel_rfl) 4000 [.s 4, .j 4 ((slotAt (cfgR q0) 1).toNat)] (o := .obl (a2_25 = a2_25 ∧ i2.2.2.ws.length = i2.2.2.ws.length) (.obl ((0 : Int) ≤ (slotAt (cfgR q0) 1) ∧ (slotAt (cfgR q0) 1) < ((i2.2.2.ws.length : Nat) : Int)) (.obl (slAt a2_25 ((slotAt (cfgR q0) 1).toNat) 1 = slAt a2_25 ((slotAt (cfgR q0) 1).toNat) 1) (.obl ((slotAt (cfgR q0) 1).toNat < i2.2.2.ws.length) (.ret (.bool ((i2.2.2.ws.getD ((slotAt (cfgR q0) 1).toNat) 0) == 0)) [.pts b_1 [vI q0, vI q1] 22, E93487 b_2 e_ g_ k_ l_ b_, Ee1539 b_4 (cfgR q0), Ebee6b b_10 (ctlEpoch (ctlW e_ g_ k_ l_ b_)) (ctlGen (ctlW e_ g_ k_ l_ b_)) (ctlBlock (ctlW e_ g_ k_ l_ b_)) (ctlLive (ctlW e_ g_ k_ l_ b_)) (ctlBusy (ctlW e_ g_ k_ l_ b_)), E72a8d a2_25 c2_26 i2.2.2.ws, .raw 0 o_, Ed5fc1 ba_5 i2.2.2, E5552f i2.2.2, Ee565f g_8 (cfgR q0) i2.2.1.client i2.2.1.epoch i2.2.1.slot i2.2.1.word (nxG g_8 i2.2.1.ph) i2.2.1.seen i2.2.1.block i2.2.1.failed i2.2.1.commit (errV i2.2.1.code)]))))) (by kernel_rfl) ?_
      refine ok_obl ⟨rfl, (by first | rfl | omega | (simp; done) | (simp; omega))⟩ ?_
      refine ok_obl (by first | omega | (simp; done) | (simp; omega)) ?_
      refine ok_obl rfl ?_
      refine ok_obl (by first | omega | (simp; done) | (simp; omega)) ?_
      exact ret_ok (post := [.raw 0 o_]) [5] (by kernel_rfl) ⟨(congrArg Value.bool (by first | rfl | exact beq_iff_eq.2 hv1)), (by kernel_rfl)⟩

end Go.Proofs.YtilaihbbollcnaaDoor


/- Walks: what functions of the program and of the document compute, part 2 of those on which PinPlays rests. -/
import Derived.Test.YtiiepkjckmdmkaaGreatDoorRtA

set_option linter.unusedVariables false
set_option linter.unusedSimpArgs false

namespace Go.Proofs.YtiiepkjckmdmkaaGreatDoor
open Go.Sx
abbrev Ef894e (x0 : Nat) (c1 : Cfg) (x2 : Int) (x3 : Int) (x4 : Int) (x5 : Int) (x6 : Value) (x7 : Int) (x8 : Int) (x9 : Int) (x10 : Int) (x11 : Value) : Ent := .pts x0 [.int .i64 c1.topics, .int .i64 c1.small, .int .i64 c1.slots, .int .i64 c1.clients, .int .i64 c1.s0, .int .i64 c1.n0, .int .i64 c1.s1, .int .i64 c1.n1, .int .i64 c1.retry, .int .i64 x2, .int .i64 x3, .int .i64 x4, .int .i64 x5, x6, .int .u64 x7, .int .i64 x8, .int .i64 x9, .int .i64 x10, x11] 153
abbrev E9f3a0 (x0 : Nat) (c1 : Cfg) (x2 : Int) (x3 : Int) (x4 : Int) (x5 : Int) (x6 : Value) (x7 : Int) (x8 : Int) (x9 : Int) (x10 : Int) : Ent := .pts x0 [.int .i64 c1.topics, .int .i64 c1.small, .int .i64 c1.slots, .int .i64 c1.clients, .int .i64 c1.s0, .int .i64 c1.n0, .int .i64 c1.s1, .int .i64 c1.n1, .int .i64 c1.retry, .int .i64 x2, .int .i64 x3, .int .i64 x4, .int .i64 x5, x6, .int .u64 x7, .int .i64 x8, .int .i64 x9, .int .i64 x10, .nilIface] 153
abbrev q31_0 : List Nat := [0, 1, 1, 1, 0, 1, 1]
abbrev q31_1 : List Nat := [0, 0, 1, 0, 1, 1, 1]

/-- the step that is next -/
noncomputable def nxG (g : Nat) : Nat → Value
  | 1 => .func (.func 128) #[vP g] #[]
  | 2 => .func (.func 141) #[vP g] #[]
  | 3 => .func (.func 144) #[vP g] #[]
  | _ => .nilFunc
noncomputable def B142 : Code := (Tryz.f142.body).getD .skip

theorem gEnd0 (c : Cfg) (g : Nat) (cl ep sl wd sn bk fl cm : Int) (nx er : Value)  :
    Ctr Tryz.prog 142 #[vP g, vI 0] [Ef894e g c cl ep sl wd nx sn bk fl cm er] (Ret (undef) [E9f3a0 g c cl ep sl wd (.nilFunc) sn bk fl cm]) := by
  refine ctr_of (args := [vP g, vI 0]) (fn := Tryz.f142) (body := B142) (nt := 20) Tryz.func142 (by kernel_rfl) (by kernel_rfl) ?_
  intro F
  refine go_exec (rs := []) (by kernel_rfl) 4000 [.e 0, .z [0, 1] 2 [0, 7, 8]] (o := .obl (g = g) (.stop [.o [0, 1] 2, .c [1, 1]] [(0, vP g), (7, vP g), (8, vI 0)] [Ef894e g c cl ep sl wd (.nilFunc) sn bk fl cm er])) (by kernel_rfl) ?_
  refine ok_obl rfl ?_
  refine ok_stop ?_
  refine go_call (some 9) [] Tryz.call36 (cause_New0) (by kernel_rfl) ?_
  rintro v post ⟨rfl, rfl⟩
  refine go_exec (rs := []) (by kernel_rfl) 4000 [.e 0, .e 0] (o := .obl (g = g) (.obl (g = g) (.ret (undef) [E9f3a0 g c cl ep sl wd (.nilFunc) sn bk fl cm]))) (by kernel_rfl) ?_
  refine ok_obl rfl ?_
  refine ok_obl rfl ?_
  exact ret_ok (post := [E9f3a0 g c cl ep sl wd (.nilFunc) sn bk fl cm]) [0] (by kernel_rfl) ⟨rfl, (by kernel_rfl)⟩


theorem gEndE (c : Cfg) (g : Nat) (cl ep sl wd sn bk fl cm : Int) (nx er : Value) (k_ : Int) (hk : k_ ≠ 0) :
    Ctr Tryz.prog 142 #[vP g, vI k_] [Ef894e g c cl ep sl wd nx sn bk fl cm er] (Ret (undef) [Ef894e g c cl ep sl wd (.nilFunc) sn 0 fl cm (.iface 46 (vI k_))]) := by
  refine ctr_of (args := [vP g, vI k_]) (fn := Tryz.f142) (body := B142) (nt := 20) Tryz.func142 (by kernel_rfl) (by kernel_rfl) ?_
  intro F
  refine go_exec (rs := []) (by kernel_rfl) 4000 [.e 0, .z [0, 1] 2 [0, 7, 8]] (o := .obl (g = g) (.stop [.o [0, 1] 2, .c [1, 1]] [(0, vP g), (7, vP g), (8, vI k_)] [Ef894e g c cl ep sl wd (.nilFunc) sn bk fl cm er])) (by kernel_rfl) ?_
  refine ok_obl rfl ?_
  refine ok_stop ?_
  refine go_call (some 9) [] Tryz.call36 (cause_NewE k_ (by first | assumption | omega | (simp only [InK] at *; omega))) (by kernel_rfl) ?_
  rintro v post ⟨rfl, rfl⟩
  refine go_exec (rs := []) (by kernel_rfl) 4000 [.e 0, .e 0, .e 0] (o := .obl (g = g) (.obl (g = g) (.obl (g = g) (.ret (undef) [Ef894e g c cl ep sl wd (.nilFunc) sn 0 fl cm (.iface 46 (vI k_))])))) (by kernel_rfl) ?_
  refine ok_obl rfl ?_
  refine ok_obl rfl ?_
  refine ok_obl rfl ?_
  exact ret_ok (post := [Ef894e g c cl ep sl wd (.nilFunc) sn 0 fl cm (.iface 46 (vI k_))]) [0] (by kernel_rfl) ⟨rfl, (by kernel_rfl)⟩

noncomputable def B137 : Code := (Tryz.f137.body).getD .skip

theorem gLookD (c : Cfg) (g : Nat) (cl ep sl wd sn bk fl cm : Int) (nx er : Value) (w_ : Int) (hw : U64 w_) (hl : ctlLive w_ = false) :
    Ctr Tryz.prog 137 #[vP g, vU w_] [Ef894e g c cl ep sl wd nx sn bk fl cm er] (Ret (undef) [Ef894e g c cl ep sl wd (.nilFunc) w_ 0 fl cm (.iface 46 (vI 22))]) := by
  refine ctr_of (args := [vP g, vU w_]) (fn := Tryz.f137) (body := B137) (nt := 42) Tryz.func137 (by kernel_rfl) (by kernel_rfl) ?_
  intro F
  refine go_exec (rs := []) (by kernel_rfl) 4000 [.z [0] 1 [0, 1, 5]] (o := .stop [.o [0] 1, .c [1]] [(0, vP g), (1, vU w_), (5, vU w_)] [Ef894e g c cl ep sl wd nx sn bk fl cm er]) (by kernel_rfl) ?_
  refine ok_stop ?_
  refine go_call (some 6) [] Tryz.call140 (ctl_Unpack w_ (by first | assumption | omega | (simp only [InK] at *; omega))) (by kernel_rfl) ?_
  rintro v post ⟨rfl, rfl⟩
  refine go_exec (rs := []) (by kernel_rfl) 4000 [.e 1, .z [0, 1] 0 [0, 1, 4]] (o := .new fun b_2 => .obl (b_2 = b_2) (.stop [.c [0, 1], .c [1, 1]] [(0, vP g), (1, vU w_), (4, vP b_2)] [Ef894e g c cl ep sl wd nx sn bk fl cm er, E4ea3a b_2 (ctlEpoch w_) (ctlGen w_) (ctlBlock w_) (ctlLive w_) (ctlBusy w_)])) (by kernel_rfl) ?_
  refine ok_new fun b_2 => ?_
  refine ok_obl rfl ?_
  refine ok_stop ?_
  refine go_lz (by kernel_rfl) (by kernel_rfl) ?_
  refine lz_node (l' := (mk 17 [0, 1, 2, 3, 4, 5, 6, 7, 8, 9])) (V' := [0, 1, 2, 3, 4, 5, 6, 7, 8, 9]) (T1 := [(0, vP g), (1, vU w_), (4, vP b_2), (7, vP g), (8, vP g), (9, vP g), (10, vU w_), (11, .pointer (some ⟨b_2, 2, none⟩)), (12, vI (ctlBlock w_)), (13, vP g), (14, .func (.func 141) #[vP g] #[]), (15, vP g), (16, .pointer (some ⟨g, 14, none⟩))]) (ps := [b_2 = b_2]) [0, 1, 2, 3, 4, 5, 6, 7, 8, 9] [(0, .h .w), (1, .h .w), (2, .h .w), (3, .h .w), (4, .h .w), (5, .h (.e 1)), (6, .h .w), (7, .h .w), (8, .h .w), (9, .h .w)] [0, 1, 4, 7, 8, 9, 10, 11, 12, 13, 14, 15, 16] [10] (by kernel_rfl) ⟨rfl, trivial⟩ ⟨?_, trivial⟩
  refine lz_op (l' := (mk 17 [0, 1, 2, 3, 4, 5, 6, 7, 8, 9, 10])) (V' := [1, 2, 4, 5, 6, 7]) (so := .obl (g = g) (.ok .skip [Ef894e g c cl ep sl wd nx w_ bk fl cm er, E4ea3a b_2 (ctlEpoch w_) (ctlGen w_) (ctlBlock w_) (ctlLive w_) (ctlBusy w_)])) (dst := none) (.e 0) (by kernel_rfl) ?_
  refine sat_obl rfl ?_
  refine sat_skip ?_
  refine lz_node (l' := (mk 17 [0, 1, 2, 3, 4, 5, 6, 7, 8, 9, 10, 11, 12])) (V' := [1, 2, 4, 5, 6, 7, 11, 12]) (T1 := [(0, vP g), (4, vP b_2), (8, vP g), (9, vP g), (11, .pointer (some ⟨b_2, 2, none⟩)), (12, vI (ctlBlock w_)), (13, vP g), (14, .func (.func 141) #[vP g] #[]), (17, vP g), (18, .pointer (some ⟨g, 15, none⟩))]) (ps := [b_2 = b_2]) [11, 12] [(1, .h .w), (2, .h .w), (4, .h .w), (5, .h (.e 1)), (6, .h .w), (7, .h .w), (11, .h .w), (12, .h .w)] [0, 4, 8, 9, 11, 12, 13, 14, 17, 18] [13] (by kernel_rfl) ⟨rfl, trivial⟩ ⟨?_, trivial⟩
  refine lz_op (l' := (mk 17 [0, 1, 2, 3, 4, 5, 6, 7, 8, 9, 10, 11, 12, 13])) (V' := [2, 6, 7]) (so := .obl (g = g) (.ok .skip [Ef894e g c cl ep sl wd nx w_ (ctlBlock w_) fl cm er, E4ea3a b_2 (ctlEpoch w_) (ctlGen w_) (ctlBlock w_) (ctlLive w_) (ctlBusy w_)])) (dst := none) (.e 0) (by kernel_rfl) ?_
  refine sat_obl rfl ?_
  refine sat_skip ?_
  refine lz_node (l' := (mk 17 [0, 1, 2, 3, 4, 5, 6, 7, 8, 9, 10, 11, 12, 13, 14, 15])) (V' := [2, 6, 7, 14, 15]) (T1 := [(0, vP g), (4, vP b_2), (9, vP g), (13, vP g), (14, .func (.func 141) #[vP g] #[]), (19, vP g), (20, .pointer (some ⟨g, 13, none⟩))]) (ps := []) [14, 15] [(2, .h .w), (6, .h .w), (7, .h .w), (14, .h .w), (15, .h .w)] [0, 4, 9, 13, 14, 19, 20] [16] (by kernel_rfl) trivial ⟨?_, trivial⟩
  refine lz_op (l' := (mk 17 [0, 1, 2, 3, 4, 5, 6, 7, 8, 9, 10, 11, 12, 13, 14, 15, 16])) (V' := []) (so := .obl (g = g) (.ok .skip [Ef894e g c cl ep sl wd (.func (.func 141) #[vP g] #[]) w_ (ctlBlock w_) fl cm er, E4ea3a b_2 (ctlEpoch w_) (ctlGen w_) (ctlBlock w_) (ctlLive w_) (ctlBusy w_)])) (dst := none) (.e 0) (by kernel_rfl) ?_
  refine sat_obl rfl ?_
  refine sat_skip ?_
  refine lz_end (T1 := [(0, vP g), (4, vP b_2)]) (ps := []) [] [] [0, 4] (by kernel_rfl) trivial ?_
  refine go_exec (rs := []) (by kernel_rfl) 4000 [.z [0, 0, 1, 1] 0 [0, 4]] (o := .stop [.c [0, 0, 1, 1], .c [1, 0, 1, 1], .b 0] [(0, vP g), (4, vP b_2)] [Ef894e g c cl ep sl wd (.func (.func 141) #[vP g] #[]) w_ (ctlBlock w_) fl cm er, E4ea3a b_2 (ctlEpoch w_) (ctlGen w_) (ctlBlock w_) (ctlLive w_) (ctlBusy w_)]) (by kernel_rfl) ?_
  refine ok_stop ?_
  refine go_quiet (tm' := [(0, vP g), (4, vP b_2), (21, .bool true)]) (ps := [b_2 = b_2, (!(ctlLive w_)) = true]) (cs := []) [(0, .h .w), (1, .h (.e 1)), (2, .h (.t true)), (3, .h .w), (4, .h .w), (5, .h .w), (6, .h .w), (7, .h .w), (8, .h .w), (9, .h .w), (10, .h .w), (11, .h .w), (12, .h .w)] [0, 4, 21] (by kernel_rfl) (by kernel_rfl) ⟨rfl, (by simp [hl]), trivial⟩ trivial ?_
  refine go_exec (rs := []) (by kernel_rfl) 4000 [.z [0, 1, 0, 1, 1] 1 [34]] (o := .stop [.o [0, 1, 0, 1, 1] 1, .b 0] [(34, vP g)] [Ef894e g c cl ep sl wd (.func (.func 141) #[vP g] #[]) w_ (ctlBlock w_) fl cm er, E4ea3a b_2 (ctlEpoch w_) (ctlGen w_) (ctlBlock w_) (ctlLive w_) (ctlBusy w_)]) (by kernel_rfl) ?_
  refine ok_stop ?_
  refine go_call (some 35) [0] Tryz.call142 (gEndE c g cl ep sl wd w_ (ctlBlock w_) fl cm (.func (.func 141) #[vP g] #[]) er 22 (by decide)) (by kernel_rfl) ?_
  rintro v post ⟨rfl, rfl⟩
  refine go_exec (rs := []) (by kernel_rfl) 4000 [] (o := .ret (undef) [E4ea3a b_2 (ctlEpoch w_) (ctlGen w_) (ctlBlock w_) (ctlLive w_) (ctlBusy w_), Ef894e g c cl ep sl wd (.nilFunc) w_ 0 fl cm (.iface 46 (vI 22))]) (by kernel_rfl) ?_
  exact ret_ok (post := [Ef894e g c cl ep sl wd (.nilFunc) w_ 0 fl cm (.iface 46 (vI 22))]) [1] (by kernel_rfl) ⟨rfl, (by kernel_rfl)⟩


theorem gLookP (c : Cfg) (g : Nat) (cl ep sl wd sn bk fl cm : Int) (nx er : Value) (w_ : Int) (hw : U64 w_) (hl : ctlLive w_ = true) (he : ctlEpoch w_ ≠ ep) :
    Ctr Tryz.prog 137 #[vP g, vU w_] [Ef894e g c cl ep sl wd nx sn bk fl cm er] (Ret (undef) [Ef894e g c cl ep sl wd (.nilFunc) w_ 0 fl cm (.iface 46 (vI 22))]) := by
  refine ctr_of (args := [vP g, vU w_]) (fn := Tryz.f137) (body := B137) (nt := 42) Tryz.func137 (by kernel_rfl) (by kernel_rfl) ?_
  intro F
  refine go_exec (rs := []) (by kernel_rfl) 4000 [.z [0] 1 [0, 1, 5]] (o := .stop [.o [0] 1, .c [1]] [(0, vP g), (1, vU w_), (5, vU w_)] [Ef894e g c cl ep sl wd nx sn bk fl cm er]) (by kernel_rfl) ?_
  refine ok_stop ?_
  refine go_call (some 6) [] Tryz.call140 (ctl_Unpack w_ (by first | assumption | omega | (simp only [InK] at *; omega))) (by kernel_rfl) ?_
  rintro v post ⟨rfl, rfl⟩
  refine go_exec (rs := []) (by kernel_rfl) 4000 [.e 1, .z [0, 1] 0 [0, 1, 4]] (o := .new fun b_2 => .obl (b_2 = b_2) (.stop [.c [0, 1], .c [1, 1]] [(0, vP g), (1, vU w_), (4, vP b_2)] [Ef894e g c cl ep sl wd nx sn bk fl cm er, E4ea3a b_2 (ctlEpoch w_) (ctlGen w_) (ctlBlock w_) (ctlLive w_) (ctlBusy w_)])) (by kernel_rfl) ?_
  refine ok_new fun b_2 => ?_
  refine ok_obl rfl ?_
  refine ok_stop ?_
  refine go_lz (by kernel_rfl) (by kernel_rfl) ?_
  refine lz_node (l' := (mk 17 [0, 1, 2, 3, 4, 5, 6, 7, 8, 9])) (V' := [0, 1, 2, 3, 4, 5, 6, 7, 8, 9]) (T1 := [(0, vP g), (1, vU w_), (4, vP b_2), (7, vP g), (8, vP g), (9, vP g), (10, vU w_), (11, .pointer (some ⟨b_2, 2, none⟩)), (12, vI (ctlBlock w_)), (13, vP g), (14, .func (.func 141) #[vP g] #[]), (15, vP g), (16, .pointer (some ⟨g, 14, none⟩))]) (ps := [b_2 = b_2]) [0, 1, 2, 3, 4, 5, 6, 7, 8, 9] [(0, .h .w), (1, .h .w), (2, .h .w), (3, .h .w), (4, .h .w), (5, .h (.e 1)), (6, .h .w), (7, .h .w), (8, .h .w), (9, .h .w)] [0, 1, 4, 7, 8, 9, 10, 11, 12, 13, 14, 15, 16] [10] (by kernel_rfl) ⟨rfl, trivial⟩ ⟨?_, trivial⟩
  refine lz_op (l' := (mk 17 [0, 1, 2, 3, 4, 5, 6, 7, 8, 9, 10])) (V' := [1, 2, 4, 5, 6, 7]) (so := .obl (g = g) (.ok .skip [Ef894e g c cl ep sl wd nx w_ bk fl cm er, E4ea3a b_2 (ctlEpoch w_) (ctlGen w_) (ctlBlock w_) (ctlLive w_) (ctlBusy w_)])) (dst := none) (.e 0) (by kernel_rfl) ?_
  refine sat_obl rfl ?_
  refine sat_skip ?_
  refine lz_node (l' := (mk 17 [0, 1, 2, 3, 4, 5, 6, 7, 8, 9, 10, 11, 12])) (V' := [1, 2, 4, 5, 6, 7, 11, 12]) (T1 := [(0, vP g), (4, vP b_2), (8, vP g), (9, vP g), (11, .pointer (some ⟨b_2, 2, none⟩)), (12, vI (ctlBlock w_)), (13, vP g), (14, .func (.func 141) #[vP g] #[]), (17, vP g), (18, .pointer (some ⟨g, 15, none⟩))]) (ps := [b_2 = b_2]) [11, 12] [(1, .h .w), (2, .h .w), (4, .h .w), (5, .h (.e 1)), (6, .h .w), (7, .h .w), (11, .h .w), (12, .h .w)] [0, 4, 8, 9, 11, 12, 13, 14, 17, 18] [13] (by kernel_rfl) ⟨rfl, trivial⟩ ⟨?_, trivial⟩
  refine lz_op (l' := (mk 17 [0, 1, 2, 3, 4, 5, 6, 7, 8, 9, 10, 11, 12, 13])) (V' := [2, 6, 7]) (so := .obl (g = g) (.ok .skip [Ef894e g c cl ep sl wd nx w_ (ctlBlock w_) fl cm er, E4ea3a b_2 (ctlEpoch w_) (ctlGen w_) (ctlBlock w_) (ctlLive w_) (ctlBusy w_)])) (dst := none) (.e 0) (by kernel_rfl) ?_
  refine sat_obl rfl ?_
  refine sat_skip ?_
  refine lz_node (l' := (mk 17 [0, 1, 2, 3, 4, 5, 6, 7, 8, 9, 10, 11, 12, 13, 14, 15])) (V' := [2, 6, 7, 14, 15]) (T1 := [(0, vP g), (4, vP b_2), (9, vP g), (13, vP g), (14, .func (.func 141) #[vP g] #[]), (19, vP g), (20, .pointer (some ⟨g, 13, none⟩))]) (ps := []) [14, 15] [(2, .h .w), (6, .h .w), (7, .h .w), (14, .h .w), (15, .h .w)] [0, 4, 9, 13, 14, 19, 20] [16] (by kernel_rfl) trivial ⟨?_, trivial⟩
  refine lz_op (l' := (mk 17 [0, 1, 2, 3, 4, 5, 6, 7, 8, 9, 10, 11, 12, 13, 14, 15, 16])) (V' := []) (so := .obl (g = g) (.ok .skip [Ef894e g c cl ep sl wd (.func (.func 141) #[vP g] #[]) w_ (ctlBlock w_) fl cm er, E4ea3a b_2 (ctlEpoch w_) (ctlGen w_) (ctlBlock w_) (ctlLive w_) (ctlBusy w_)])) (dst := none) (.e 0) (by kernel_rfl) ?_
  refine sat_obl rfl ?_
  refine sat_skip ?_
  refine lz_end (T1 := [(0, vP g), (4, vP b_2)]) (ps := []) [] [] [0, 4] (by kernel_rfl) trivial ?_
  refine go_exec (rs := []) (by kernel_rfl) 4000 [.z [0, 0, 1, 1] 0 [0, 4]] (o := .stop [.c [0, 0, 1, 1], .c [1, 0, 1, 1], .b 0] [(0, vP g), (4, vP b_2)] [Ef894e g c cl ep sl wd (.func (.func 141) #[vP g] #[]) w_ (ctlBlock w_) fl cm er, E4ea3a b_2 (ctlEpoch w_) (ctlGen w_) (ctlBlock w_) (ctlLive w_) (ctlBusy w_)]) (by kernel_rfl) ?_
  refine ok_stop ?_
  refine go_quiet (tm' := [(0, vP g), (4, vP b_2), (21, .bool true)]) (ps := [b_2 = b_2, (!(ctlLive w_)) = false, b_2 = b_2, g = g, ((ctlEpoch w_) != ep) = true]) (cs := []) [(0, .h .w), (1, .h (.e 1)), (2, .h (.t false)), (3, .h .w), (4, .h .w), (5, .h (.e 1)), (6, .h .w), (7, .h .w), (8, .h .w), (9, .h (.e 0)), (10, .h (.t true)), (11, .h .w), (12, .h .w)] [0, 4, 21] (by kernel_rfl) (by kernel_rfl) ⟨rfl, (by simp [hl]), rfl, rfl, (bne_iff_ne.2 he), trivial⟩ trivial ?_
  refine go_exec (rs := []) (by kernel_rfl) 4000 [.z [0, 1, 0, 1, 1] 1 [34]] (o := .stop [.o [0, 1, 0, 1, 1] 1, .b 0] [(34, vP g)] [Ef894e g c cl ep sl wd (.func (.func 141) #[vP g] #[]) w_ (ctlBlock w_) fl cm er, E4ea3a b_2 (ctlEpoch w_) (ctlGen w_) (ctlBlock w_) (ctlLive w_) (ctlBusy w_)]) (by kernel_rfl) ?_
  refine ok_stop ?_
  refine go_call (some 35) [0] Tryz.call142 (gEndE c g cl ep sl wd w_ (ctlBlock w_) fl cm (.func (.func 141) #[vP g] #[]) er 22 (by decide)) (by kernel_rfl) ?_
  rintro v post ⟨rfl, rfl⟩
  refine go_exec (rs := []) (by kernel_rfl) 4000 [] (o := .ret (undef) [E4ea3a b_2 (ctlEpoch w_) (ctlGen w_) (ctlBlock w_) (ctlLive w_) (ctlBusy w_), Ef894e g c cl ep sl wd (.nilFunc) w_ 0 fl cm (.iface 46 (vI 22))]) (by kernel_rfl) ?_
  exact ret_ok (post := [Ef894e g c cl ep sl wd (.nilFunc) w_ 0 fl cm (.iface 46 (vI 22))]) [1] (by kernel_rfl) ⟨rfl, (by kernel_rfl)⟩


theorem gLookE (c : Cfg) (g : Nat) (cl ep sl wd sn bk fl cm : Int) (nx er : Value) (w_ : Int) (hw : U64 w_) (hl : ctlLive w_ = true) (he : ctlEpoch w_ = ep) (hb : ctlBlock w_ = 0) :
    Ctr Tryz.prog 137 #[vP g, vU w_] [Ef894e g c cl ep sl wd nx sn bk fl cm er] (Ret (undef) [Ef894e g c cl ep sl wd (.nilFunc) w_ 0 fl cm (.iface 46 (vI 20))]) := by
  refine ctr_of (args := [vP g, vU w_]) (fn := Tryz.f137) (body := B137) (nt := 42) Tryz.func137 (by kernel_rfl) (by kernel_rfl) ?_
  intro F
  refine go_exec (rs := []) (by kernel_rfl) 4000 [.z [0] 1 [0, 1, 5]] (o := .stop [.o [0] 1, .c [1]] [(0, vP g), (1, vU w_), (5, vU w_)] [Ef894e g c cl ep sl wd nx sn bk fl cm er]) (by kernel_rfl) ?_
  refine ok_stop ?_
  refine go_call (some 6) [] Tryz.call140 (ctl_Unpack w_ (by first | assumption | omega | (simp only [InK] at *; omega))) (by kernel_rfl) ?_
  rintro v post ⟨rfl, rfl⟩
  refine go_exec (rs := []) (by kernel_rfl) 4000 [.e 1, .z [0, 1] 0 [0, 1, 4]] (o := .new fun b_2 => .obl (b_2 = b_2) (.stop [.c [0, 1], .c [1, 1]] [(0, vP g), (1, vU w_), (4, vP b_2)] [Ef894e g c cl ep sl wd nx sn bk fl cm er, E4ea3a b_2 (ctlEpoch w_) (ctlGen w_) (ctlBlock w_) (ctlLive w_) (ctlBusy w_)])) (by kernel_rfl) ?_
  refine ok_new fun b_2 => ?_
  refine ok_obl rfl ?_
  refine ok_stop ?_
  refine go_lz (by kernel_rfl) (by kernel_rfl) ?_
  refine lz_node (l' := (mk 17 [0, 1, 2, 3, 4, 5, 6, 7, 8, 9])) (V' := [0, 1, 2, 3, 4, 5, 6, 7, 8, 9]) (T1 := [(0, vP g), (1, vU w_), (4, vP b_2), (7, vP g), (8, vP g), (9, vP g), (10, vU w_), (11, .pointer (some ⟨b_2, 2, none⟩)), (12, vI (ctlBlock w_)), (13, vP g), (14, .func (.func 141) #[vP g] #[]), (15, vP g), (16, .pointer (some ⟨g, 14, none⟩))]) (ps := [b_2 = b_2]) [0, 1, 2, 3, 4, 5, 6, 7, 8, 9] [(0, .h .w), (1, .h .w), (2, .h .w), (3, .h .w), (4, .h .w), (5, .h (.e 1)), (6, .h .w), (7, .h .w), (8, .h .w), (9, .h .w)] [0, 1, 4, 7, 8, 9, 10, 11, 12, 13, 14, 15, 16] [10] (by kernel_rfl) ⟨rfl, trivial⟩ ⟨?_, trivial⟩
  refine lz_op (l' := (mk 17 [0, 1, 2, 3, 4, 5, 6, 7, 8, 9, 10])) (V' := [1, 2, 4, 5, 6, 7]) (so := .obl (g = g) (.ok .skip [Ef894e g c cl ep sl wd nx w_ bk fl cm er, E4ea3a b_2 (ctlEpoch w_) (ctlGen w_) (ctlBlock w_) (ctlLive w_) (ctlBusy w_)])) (dst := none) (.e 0) (by kernel_rfl) ?_
  refine sat_obl rfl ?_
  refine sat_skip ?_
  refine lz_node (l' := (mk 17 [0, 1, 2, 3, 4, 5, 6, 7, 8, 9, 10, 11, 12])) (V' := [1, 2, 4, 5, 6, 7, 11, 12]) (T1 := [(0, vP g), (4, vP b_2), (8, vP g), (9, vP g), (11, .pointer (some ⟨b_2, 2, none⟩)), (12, vI (ctlBlock w_)), (13, vP g), (14, .func (.func 141) #[vP g] #[]), (17, vP g), (18, .pointer (some ⟨g, 15, none⟩))]) (ps := [b_2 = b_2]) [11, 12] [(1, .h .w), (2, .h .w), (4, .h .w), (5, .h (.e 1)), (6, .h .w), (7, .h .w), (11, .h .w), (12, .h .w)] [0, 4, 8, 9, 11, 12, 13, 14, 17, 18] [13] (by kernel_rfl) ⟨rfl, trivial⟩ ⟨?_, trivial⟩
  refine lz_op (l' := (mk 17 [0, 1, 2, 3, 4, 5, 6, 7, 8, 9, 10, 11, 12, 13])) (V' := [2, 6, 7]) (so := .obl (g = g) (.ok .skip [Ef894e g c cl ep sl wd nx w_ (ctlBlock w_) fl cm er, E4ea3a b_2 (ctlEpoch w_) (ctlGen w_) (ctlBlock w_) (ctlLive w_) (ctlBusy w_)])) (dst := none) (.e 0) (by kernel_rfl) ?_
  refine sat_obl rfl ?_
  refine sat_skip ?_
  refine lz_node (l' := (mk 17 [0, 1, 2, 3, 4, 5, 6, 7, 8, 9, 10, 11, 12, 13, 14, 15])) (V' := [2, 6, 7, 14, 15]) (T1 := [(0, vP g), (4, vP b_2), (9, vP g), (13, vP g), (14, .func (.func 141) #[vP g] #[]), (19, vP g), (20, .pointer (some ⟨g, 13, none⟩))]) (ps := []) [14, 15] [(2, .h .w), (6, .h .w), (7, .h .w), (14, .h .w), (15, .h .w)] [0, 4, 9, 13, 14, 19, 20] [16] (by kernel_rfl) trivial ⟨?_, trivial⟩
  refine lz_op (l' := (mk 17 [0, 1, 2, 3, 4, 5, 6, 7, 8, 9, 10, 11, 12, 13, 14, 15, 16])) (V' := []) (so := .obl (g = g) (.ok .skip [Ef894e g c cl ep sl wd (.func (.func 141) #[vP g] #[]) w_ (ctlBlock w_) fl cm er, E4ea3a b_2 (ctlEpoch w_) (ctlGen w_) (ctlBlock w_) (ctlLive w_) (ctlBusy w_)])) (dst := none) (.e 0) (by kernel_rfl) ?_
  refine sat_obl rfl ?_
  refine sat_skip ?_
  refine lz_end (T1 := [(0, vP g), (4, vP b_2)]) (ps := []) [] [] [0, 4] (by kernel_rfl) trivial ?_
  refine go_exec (rs := []) (by kernel_rfl) 4000 [.z [0, 0, 1, 1] 0 [0, 4]] (o := .stop [.c [0, 0, 1, 1], .c [1, 0, 1, 1], .b 0] [(0, vP g), (4, vP b_2)] [Ef894e g c cl ep sl wd (.func (.func 141) #[vP g] #[]) w_ (ctlBlock w_) fl cm er, E4ea3a b_2 (ctlEpoch w_) (ctlGen w_) (ctlBlock w_) (ctlLive w_) (ctlBusy w_)]) (by kernel_rfl) ?_
  refine ok_stop ?_
  refine go_quiet (tm' := [(0, vP g), (4, vP b_2), (21, .bool false)]) (ps := [b_2 = b_2, (!(ctlLive w_)) = false, b_2 = b_2, g = g, ((ctlEpoch w_) != ep) = false]) (cs := []) [(0, .h .w), (1, .h (.e 1)), (2, .h (.t false)), (3, .h .w), (4, .h .w), (5, .h (.e 1)), (6, .h .w), (7, .h .w), (8, .h .w), (9, .h (.e 0)), (10, .h (.t false)), (11, .h .w), (12, .h .w)] [0, 4, 21] (by kernel_rfl) (by kernel_rfl) ⟨rfl, (by simp [hl]), rfl, rfl, (bne_eq_false_iff_eq.2 he), trivial⟩ trivial ?_
  refine go_exec (rs := []) (by kernel_rfl) 4000 [.e 1, .sp [36, 39] [.z q31_0 1 [40]] [.dead]] (o := .obl (b_2 = b_2) (.obl (((ctlBlock w_) == 0) = ((ctlBlock w_) == 0)) (.br ((ctlBlock w_) == 0) (.stop [.o q31_0 1, .b 0] [(40, vP g)] [Ef894e g c cl ep sl wd (.func (.func 141) #[vP g] #[]) w_ (ctlBlock w_) fl cm er, E4ea3a b_2 (ctlEpoch w_) (ctlGen w_) (ctlBlock w_) (ctlLive w_) (ctlBusy w_)]) (.bad)))) (by kernel_rfl) ?_
  refine ok_obl rfl ?_
  refine ok_obl rfl ?_
  refine ok_br (fun _ => ?_) (fun h => absurd (show ((ctlBlock w_) == 0) = true from (beq_iff_eq.2 hb)) (by rw [h]; simp))
  refine ok_stop ?_
  refine go_call (some 41) [0] Tryz.call142 (gEndE c g cl ep sl wd w_ (ctlBlock w_) fl cm (.func (.func 141) #[vP g] #[]) er 20 (by decide)) (by kernel_rfl) ?_
  rintro v post ⟨rfl, rfl⟩
  refine go_exec (rs := []) (by kernel_rfl) 4000 [] (o := .ret (undef) [E4ea3a b_2 (ctlEpoch w_) (ctlGen w_) (ctlBlock w_) (ctlLive w_) (ctlBusy w_), Ef894e g c cl ep sl wd (.nilFunc) w_ 0 fl cm (.iface 46 (vI 20))]) (by kernel_rfl) ?_
  exact ret_ok (post := [Ef894e g c cl ep sl wd (.nilFunc) w_ 0 fl cm (.iface 46 (vI 20))]) [1] (by kernel_rfl) ⟨rfl, (by kernel_rfl)⟩


theorem gLookN (c : Cfg) (g : Nat) (cl ep sl wd sn bk fl cm : Int) (nx er : Value) (w_ : Int) (hw : U64 w_) (hl : ctlLive w_ = true) (he : ctlEpoch w_ = ep) (hb : ctlBlock w_ ≠ 0) :
    Ctr Tryz.prog 137 #[vP g, vU w_] [Ef894e g c cl ep sl wd nx sn bk fl cm er] (Ret (undef) [Ef894e g c cl ep sl wd (.func (.func 141) #[vP g] #[]) w_ (ctlBlock w_) fl cm er]) := by
  refine ctr_of (args := [vP g, vU w_]) (fn := Tryz.f137) (body := B137) (nt := 42) Tryz.func137 (by kernel_rfl) (by kernel_rfl) ?_
  intro F
  refine go_exec (rs := []) (by kernel_rfl) 4000 [.z [0] 1 [0, 1, 5]] (o := .stop [.o [0] 1, .c [1]] [(0, vP g), (1, vU w_), (5, vU w_)] [Ef894e g c cl ep sl wd nx sn bk fl cm er]) (by kernel_rfl) ?_
  refine ok_stop ?_
  refine go_call (some 6) [] Tryz.call140 (ctl_Unpack w_ (by first | assumption | omega | (simp only [InK] at *; omega))) (by kernel_rfl) ?_
  rintro v post ⟨rfl, rfl⟩
  refine go_exec (rs := []) (by kernel_rfl) 4000 [.e 1, .z [0, 1] 0 [0, 1, 4]] (o := .new fun b_2 => .obl (b_2 = b_2) (.stop [.c [0, 1], .c [1, 1]] [(0, vP g), (1, vU w_), (4, vP b_2)] [Ef894e g c cl ep sl wd nx sn bk fl cm er, E4ea3a b_2 (ctlEpoch w_) (ctlGen w_) (ctlBlock w_) (ctlLive w_) (ctlBusy w_)])) (by kernel_rfl) ?_
  refine ok_new fun b_2 => ?_
  refine ok_obl rfl ?_
  refine ok_stop ?_
  refine go_lz (by kernel_rfl) (by kernel_rfl) ?_
  refine lz_node (l' := (mk 17 [0, 1, 2, 3, 4, 5, 6, 7, 8, 9])) (V' := [0, 1, 2, 3, 4, 5, 6, 7, 8, 9]) (T1 := [(0, vP g), (1, vU w_), (4, vP b_2), (7, vP g), (8, vP g), (9, vP g), (10, vU w_), (11, .pointer (some ⟨b_2, 2, none⟩)), (12, vI (ctlBlock w_)), (13, vP g), (14, .func (.func 141) #[vP g] #[]), (15, vP g), (16, .pointer (some ⟨g, 14, none⟩))]) (ps := [b_2 = b_2]) [0, 1, 2, 3, 4, 5, 6, 7, 8, 9] [(0, .h .w), (1, .h .w), (2, .h .w), (3, .h .w), (4, .h .w), (5, .h (.e 1)), (6, .h .w), (7, .h .w), (8, .h .w), (9, .h .w)] [0, 1, 4, 7, 8, 9, 10, 11, 12, 13, 14, 15, 16] [10] (by kernel_rfl) ⟨rfl, trivial⟩ ⟨?_, trivial⟩
  refine lz_op (l' := (mk 17 [0, 1, 2, 3, 4, 5, 6, 7, 8, 9, 10])) (V' := [1, 2, 4, 5, 6, 7]) (so := .obl (g = g) (.ok .skip [Ef894e g c cl ep sl wd nx w_ bk fl cm er, E4ea3a b_2 (ctlEpoch w_) (ctlGen w_) (ctlBlock w_) (ctlLive w_) (ctlBusy w_)])) (dst := none) (.e 0) (by kernel_rfl) ?_
  refine sat_obl rfl ?_
  refine sat_skip ?_
  refine lz_node (l' := (mk 17 [0, 1, 2, 3, 4, 5, 6, 7, 8, 9, 10, 11, 12])) (V' := [1, 2, 4, 5, 6, 7, 11, 12]) (T1 := [(0, vP g), (4, vP b_2), (8, vP g), (9, vP g), (11, .pointer (some ⟨b_2, 2, none⟩)), (12, vI (ctlBlock w_)), (13, vP g), (14, .func (.func 141) #[vP g] #[]), (17, vP g), (18, .pointer (some ⟨g, 15, none⟩))]) (ps := [b_2 = b_2]) [11, 12] [(1, .h .w), (2, .h .w), (4, .h .w), (5, .h (.e 1)), (6, .h .w), (7, .h .w), (11, .h .w), (12, .h .w)] [0, 4, 8, 9, 11, 12, 13, 14, 17, 18] [13] (by kernel_rfl) ⟨rfl, trivial⟩ ⟨?_, trivial⟩
  refine lz_op (l' := (mk 17 [0, 1, 2, 3, 4, 5, 6, 7, 8, 9, 10, 11, 12, 13])) (V' := [2, 6, 7]) (so := .obl (g = g) (.ok .skip [Ef894e g c cl ep sl wd nx w_ (ctlBlock w_) fl cm er, E4ea3a b_2 (ctlEpoch w_) (ctlGen w_) (ctlBlock w_) (ctlLive w_) (ctlBusy w_)])) (dst := none) (.e 0) (by kernel_rfl) ?_
  refine sat_obl rfl ?_
  refine sat_skip ?_
  refine lz_node (l' := (mk 17 [0, 1, 2, 3, 4, 5, 6, 7, 8, 9, 10, 11, 12, 13, 14, 15])) (V' := [2, 6, 7, 14, 15]) (T1 := [(0, vP g), (4, vP b_2), (9, vP g), (13, vP g), (14, .func (.func 141) #[vP g] #[]), (19, vP g), (20, .pointer (some ⟨g, 13, none⟩))]) (ps := []) [14, 15] [(2, .h .w), (6, .h .w), (7, .h .w), (14, .h .w), (15, .h .w)] [0, 4, 9, 13, 14, 19, 20] [16] (by kernel_rfl) trivial ⟨?_, trivial⟩
  refine lz_op (l' := (mk 17 [0, 1, 2, 3, 4, 5, 6, 7, 8, 9, 10, 11, 12, 13, 14, 15, 16])) (V' := []) (so := .obl (g = g) (.ok .skip [Ef894e g c cl ep sl wd (.func (.func 141) #[vP g] #[]) w_ (ctlBlock w_) fl cm er, E4ea3a b_2 (ctlEpoch w_) (ctlGen w_) (ctlBlock w_) (ctlLive w_) (ctlBusy w_)])) (dst := none) (.e 0) (by kernel_rfl) ?_
  refine sat_obl rfl ?_
  refine sat_skip ?_
  refine lz_end (T1 := [(0, vP g), (4, vP b_2)]) (ps := []) [] [] [0, 4] (by kernel_rfl) trivial ?_
  refine go_exec (rs := []) (by kernel_rfl) 4000 [.z [0, 0, 1, 1] 0 [0, 4]] (o := .stop [.c [0, 0, 1, 1], .c [1, 0, 1, 1], .b 0] [(0, vP g), (4, vP b_2)] [Ef894e g c cl ep sl wd (.func (.func 141) #[vP g] #[]) w_ (ctlBlock w_) fl cm er, E4ea3a b_2 (ctlEpoch w_) (ctlGen w_) (ctlBlock w_) (ctlLive w_) (ctlBusy w_)]) (by kernel_rfl) ?_
  refine ok_stop ?_
  refine go_quiet (tm' := [(0, vP g), (4, vP b_2), (21, .bool false)]) (ps := [b_2 = b_2, (!(ctlLive w_)) = false, b_2 = b_2, g = g, ((ctlEpoch w_) != ep) = false]) (cs := []) [(0, .h .w), (1, .h (.e 1)), (2, .h (.t false)), (3, .h .w), (4, .h .w), (5, .h (.e 1)), (6, .h .w), (7, .h .w), (8, .h .w), (9, .h (.e 0)), (10, .h (.t false)), (11, .h .w), (12, .h .w)] [0, 4, 21] (by kernel_rfl) (by kernel_rfl) ⟨rfl, (by simp [hl]), rfl, rfl, (bne_eq_false_iff_eq.2 he), trivial⟩ trivial ?_
  refine go_exec (rs := []) (by kernel_rfl) 4000 [.e 1, .sp [36, 39] [.dead] []] (o := .obl (b_2 = b_2) (.obl (((ctlBlock w_) == 0) = ((ctlBlock w_) == 0)) (.br ((ctlBlock w_) == 0) (.bad) (.ret (undef) [Ef894e g c cl ep sl wd (.func (.func 141) #[vP g] #[]) w_ (ctlBlock w_) fl cm er, E4ea3a b_2 (ctlEpoch w_) (ctlGen w_) (ctlBlock w_) (ctlLive w_) (ctlBusy w_)])))) (by kernel_rfl) ?_
  refine ok_obl rfl ?_
  refine ok_obl rfl ?_
  refine ok_br (fun h => absurd (show ((ctlBlock w_) == 0) = false from (beq_eq_false_iff_ne.2 hb)) (by rw [h]; simp)) (fun _ => ?_)
  exact ret_ok (post := [Ef894e g c cl ep sl wd (.func (.func 141) #[vP g] #[]) w_ (ctlBlock w_) fl cm er]) [0] (by kernel_rfl) ⟨rfl, (by kernel_rfl)⟩

noncomputable def B138 : Code := (Tryz.f138.body).getD .skip

theorem gLoad (c : Cfg) (g ba : Nat) (cl ep sl wd sn bk fl cm : Int) (nx er : Value) (A : Ar) (hn : A.ws.length = A.n) (hs : 0 ≤ A.steps ∧ A.steps ≤ 1000000000) (hwd : 0 ≤ wd ∧ wd < A.n) :
    Ctr Tryz.prog 138 #[vP g, vP ba] [Ef894e g c cl ep sl wd nx sn bk fl cm er, Ebed9f ba A, E632c4 A] (Ret (vU (A.ws.getD wd.toNat 0)) [Ef894e g c cl ep sl wd nx sn bk fl ((A.load wd).steps) er, Ebed9f ba (A.load wd), E632c4 (A.load wd)]) := by
  refine ctr_of (args := [vP g, vP ba]) (fn := Tryz.f138) (body := B138) (nt := 18) Tryz.func138 (by kernel_rfl) (by kernel_rfl) ?_
  intro F
  refine go_exec (rs := [.tmp 4]) (by kernel_rfl) 4000 [.e 0, .z [0, 1] 5 [0, 1, 6, 10]] (o := .obl (g = g) (.stop [.o [0, 1] 5, .c [1, 1]] [(0, vP g), (1, vP ba), (6, vP ba), (10, vI wd)] [Ef894e g c cl ep sl wd nx sn bk fl cm er, Ebed9f ba A, E632c4 A])) (by kernel_rfl) ?_
  refine ok_obl rfl ?_
  refine ok_stop ?_
  refine go_call (some 11) [1, 2] Tryz.call40 (arena_Load ba A wd (by first | assumption | omega | (simp only [InK] at *; omega)) hwd (by first | assumption | omega | (simp only [InK] at *; omega))) (by kernel_rfl) ?_
  rintro v post ⟨rfl, rfl⟩
  refine go_exec (rs := [.tmp 4]) (by kernel_rfl) 4000 [.z [0, 1, 1] 2 [5, 12, 13]] (o := .stop [.o [0, 1, 1] 2, .c [1, 1, 1]] [(5, vU (A.ws.getD wd.toNat 0)), (12, vP g), (13, vP ba)] [Ef894e g c cl ep sl wd nx sn bk fl cm er, Ebed9f ba (A.load wd), E632c4 (A.load wd)]) (by kernel_rfl) ?_
  refine ok_stop ?_
  refine go_call (some 14) [1, 2] Tryz.call33 (arena_Steps ba (A.load wd)) (by kernel_rfl) ?_
  rintro v post ⟨rfl, rfl⟩
  refine go_exec (rs := [.tmp 4]) (by kernel_rfl) 4000 [.e 0] (o := .obl (g = g) (.ret (vU (A.ws.getD wd.toNat 0)) [Ef894e g c cl ep sl wd nx sn bk fl ((A.load wd).steps) er, Ebed9f ba (A.load wd), E632c4 (A.load wd)])) (by kernel_rfl) ?_
  refine ok_obl rfl ?_
  exact ret_ok (post := [Ef894e g c cl ep sl wd nx sn bk fl ((A.load wd).steps) er, Ebed9f ba (A.load wd), E632c4 (A.load wd)]) [0, 1, 2] (by kernel_rfl) ⟨rfl, (by kernel_rfl)⟩

noncomputable def B128 : Code := (Tryz.f128.body).getD .skip

theorem gFirstD (c : Cfg) (g ba : Nat) (cl ep sl wd sn bk fl cm : Int) (nx er : Value) (A : Ar) (hn : A.ws.length = A.n) (hs : 0 ≤ A.steps ∧ A.steps ≤ 1000000000) (hwd : 0 ≤ wd ∧ wd < A.n) (hw : U64 (A.ws.getD wd.toNat 0)) (hl : ctlLive (A.ws.getD wd.toNat 0) = false) :
    Ctr Tryz.prog 128 #[vP g, vP ba] [Ef894e g c cl ep sl wd nx sn bk fl cm er, Ebed9f ba A, E632c4 A] (Ret (undef) [Ef894e g c cl ep sl wd (.nilFunc) (A.ws.getD wd.toNat 0) 0 fl ((A.load wd).steps) (.iface 46 (vI 22)), Ebed9f ba (A.load wd), E632c4 (A.load wd)]) := by
  refine ctr_of (args := [vP g, vP ba]) (fn := Tryz.f128) (body := B128) (nt := 9) Tryz.func128 (by kernel_rfl) (by kernel_rfl) ?_
  intro F
  refine go_exec (rs := []) (by kernel_rfl) 4000 [.z [] 3 [4, 5, 6]] (o := .stop [.o [] 3] [(4, vP g), (5, vP g), (6, vP ba)] [Ef894e g c cl ep sl wd nx sn bk fl cm er, Ebed9f ba A, E632c4 A]) (by kernel_rfl) ?_
  refine ok_stop ?_
  refine go_call (some 7) [0, 1, 2] Tryz.call138 (gLoad c g ba cl ep sl wd sn bk fl cm nx er A (by first | assumption | omega | (simp only [InK] at *; omega)) (by first | assumption | omega | (simp only [InK] at *; omega)) (by first | assumption | omega | (simp only [InK] at *; omega))) (by kernel_rfl) ?_
  rintro v post ⟨rfl, rfl⟩
  refine go_call (some 8) [0] Tryz.call137 (gLookD c g cl ep sl wd sn bk fl ((A.load wd).steps) nx er (A.ws.getD wd.toNat 0) (by first | assumption | omega | (simp only [InK] at *; omega)) (by first | assumption | omega | (simp only [InK] at *; omega))) (by kernel_rfl) ?_
  rintro v post ⟨rfl, rfl⟩
  refine go_exec (rs := []) (by kernel_rfl) 4000 [] (o := .ret (undef) [Ebed9f ba (A.load wd), E632c4 (A.load wd), Ef894e g c cl ep sl wd (.nilFunc) (A.ws.getD wd.toNat 0) 0 fl ((A.load wd).steps) (.iface 46 (vI 22))]) (by kernel_rfl) ?_
  exact ret_ok (post := [Ef894e g c cl ep sl wd (.nilFunc) (A.ws.getD wd.toNat 0) 0 fl ((A.load wd).steps) (.iface 46 (vI 22)), Ebed9f ba (A.load wd), E632c4 (A.load wd)]) [2, 0, 1] (by kernel_rfl) ⟨rfl, (by kernel_rfl)⟩


theorem gFirstP (c : Cfg) (g ba : Nat) (cl ep sl wd sn bk fl cm : Int) (nx er : Value) (A : Ar) (hn : A.ws.length = A.n) (hs : 0 ≤ A.steps ∧ A.steps ≤ 1000000000) (hwd : 0 ≤ wd ∧ wd < A.n) (hw : U64 (A.ws.getD wd.toNat 0)) (hl : ctlLive (A.ws.getD wd.toNat 0) = true) (he : ctlEpoch (A.ws.getD wd.toNat 0) ≠ ep) :
    Ctr Tryz.prog 128 #[vP g, vP ba] [Ef894e g c cl ep sl wd nx sn bk fl cm er, Ebed9f ba A, E632c4 A] (Ret (undef) [Ef894e g c cl ep sl wd (.nilFunc) (A.ws.getD wd.toNat 0) 0 fl ((A.load wd).steps) (.iface 46 (vI 22)), Ebed9f ba (A.load wd), E632c4 (A.load wd)]) := by
  refine ctr_of (args := [vP g, vP ba]) (fn := Tryz.f128) (body := B128) (nt := 9) Tryz.func128 (by kernel_rfl) (by kernel_rfl) ?_
  intro F
  refine go_exec (rs := []) (by kernel_rfl) 4000 [.z [] 3 [4, 5, 6]] (o := .stop [.o [] 3] [(4, vP g), (5, vP g), (6, vP ba)] [Ef894e g c cl ep sl wd nx sn bk fl cm er, Ebed9f ba A, E632c4 A]) (by kernel_rfl) ?_
  refine ok_stop ?_
  refine go_call (some 7) [0, 1, 2] Tryz.call138 (gLoad c g ba cl ep sl wd sn bk fl cm nx er A (by first | assumption | omega | (simp only [InK] at *; omega)) (by first | assumption | omega | (simp only [InK] at *; omega)) (by first | assumption | omega | (simp only [InK] at *; omega))) (by kernel_rfl) ?_
  rintro v post ⟨rfl, rfl⟩
  refine go_call (some 8) [0] Tryz.call137 (gLookP c g cl ep sl wd sn bk fl ((A.load wd).steps) nx er (A.ws.getD wd.toNat 0) (by first | assumption | omega | (simp only [InK] at *; omega)) (by first | assumption | omega | (simp only [InK] at *; omega)) (by first | assumption | omega | (simp only [InK] at *; omega))) (by kernel_rfl) ?_
  rintro v post ⟨rfl, rfl⟩
  refine go_exec (rs := []) (by kernel_rfl) 4000 [] (o := .ret (undef) [Ebed9f ba (A.load wd), E632c4 (A.load wd), Ef894e g c cl ep sl wd (.nilFunc) (A.ws.getD wd.toNat 0) 0 fl ((A.load wd).steps) (.iface 46 (vI 22))]) (by kernel_rfl) ?_
  exact ret_ok (post := [Ef894e g c cl ep sl wd (.nilFunc) (A.ws.getD wd.toNat 0) 0 fl ((A.load wd).steps) (.iface 46 (vI 22)), Ebed9f ba (A.load wd), E632c4 (A.load wd)]) [2, 0, 1] (by kernel_rfl) ⟨rfl, (by kernel_rfl)⟩


theorem gFirstE (c : Cfg) (g ba : Nat) (cl ep sl wd sn bk fl cm : Int) (nx er : Value) (A : Ar) (hn : A.ws.length = A.n) (hs : 0 ≤ A.steps ∧ A.steps ≤ 1000000000) (hwd : 0 ≤ wd ∧ wd < A.n) (hw : U64 (A.ws.getD wd.toNat 0)) (hl : ctlLive (A.ws.getD wd.toNat 0) = true) (he : ctlEpoch (A.ws.getD wd.toNat 0) = ep) (hb : ctlBlock (A.ws.getD wd.toNat 0) = 0) :
    Ctr Tryz.prog 128 #[vP g, vP ba] [Ef894e g c cl ep sl wd nx sn bk fl cm er, Ebed9f ba A, E632c4 A] (Ret (undef) [Ef894e g c cl ep sl wd (.nilFunc) (A.ws.getD wd.toNat 0) 0 fl ((A.load wd).steps) (.iface 46 (vI 20)), Ebed9f ba (A.load wd), E632c4 (A.load wd)]) := by
  refine ctr_of (args := [vP g, vP ba]) (fn := Tryz.f128) (body := B128) (nt := 9) Tryz.func128 (by kernel_rfl) (by kernel_rfl) ?_
  intro F
  refine go_exec (rs := []) (by kernel_rfl) 4000 [.z [] 3 [4, 5, 6]] (o := .stop [.o [] 3] [(4, vP g), (5, vP g), (6, vP ba)] [Ef894e g c cl ep sl wd nx sn bk fl cm er, Ebed9f ba A, E632c4 A]) (by kernel_rfl) ?_
  refine ok_stop ?_
  refine go_call (some 7) [0, 1, 2] Tryz.call138 (gLoad c g ba cl ep sl wd sn bk fl cm nx er A (by first | assumption | omega | (simp only [InK] at *; omega)) (by first | assumption | omega | (simp only [InK] at *; omega)) (by first | assumption | omega | (simp only [InK] at *; omega))) (by kernel_rfl) ?_
  rintro v post ⟨rfl, rfl⟩
  refine go_call (some 8) [0] Tryz.call137 (gLookE c g cl ep sl wd sn bk fl ((A.load wd).steps) nx er (A.ws.getD wd.toNat 0) (by first | assumption | omega | (simp only [InK] at *; omega)) (by first | assumption | omega | (simp only [InK] at *; omega)) (by first | assumption | omega | (simp only [InK] at *; omega)) (by first | assumption | omega | (simp only [InK] at *; omega))) (by kernel_rfl) ?_
  rintro v post ⟨rfl, rfl⟩
  refine go_exec (rs := []) (by kernel_rfl) 4000 [] (o := .ret (undef) [Ebed9f ba (A.load wd), E632c4 (A.load wd), Ef894e g c cl ep sl wd (.nilFunc) (A.ws.getD wd.toNat 0) 0 fl ((A.load wd).steps) (.iface 46 (vI 20))]) (by kernel_rfl) ?_
  exact ret_ok (post := [Ef894e g c cl ep sl wd (.nilFunc) (A.ws.getD wd.toNat 0) 0 fl ((A.load wd).steps) (.iface 46 (vI 20)), Ebed9f ba (A.load wd), E632c4 (A.load wd)]) [2, 0, 1] (by kernel_rfl) ⟨rfl, (by kernel_rfl)⟩


theorem gFirstN (c : Cfg) (g ba : Nat) (cl ep sl wd sn bk fl cm : Int) (nx er : Value) (A : Ar) (hn : A.ws.length = A.n) (hs : 0 ≤ A.steps ∧ A.steps ≤ 1000000000) (hwd : 0 ≤ wd ∧ wd < A.n) (hw : U64 (A.ws.getD wd.toNat 0)) (hl : ctlLive (A.ws.getD wd.toNat 0) = true) (he : ctlEpoch (A.ws.getD wd.toNat 0) = ep) (hb : ctlBlock (A.ws.getD wd.toNat 0) ≠ 0) :
    Ctr Tryz.prog 128 #[vP g, vP ba] [Ef894e g c cl ep sl wd nx sn bk fl cm er, Ebed9f ba A, E632c4 A] (Ret (undef) [Ef894e g c cl ep sl wd (.func (.func 141) #[vP g] #[]) (A.ws.getD wd.toNat 0) (ctlBlock (A.ws.getD wd.toNat 0)) fl ((A.load wd).steps) er, Ebed9f ba (A.load wd), E632c4 (A.load wd)]) := by
  refine ctr_of (args := [vP g, vP ba]) (fn := Tryz.f128) (body := B128) (nt := 9) Tryz.func128 (by kernel_rfl) (by kernel_rfl) ?_
  intro F
  refine go_exec (rs := []) (by kernel_rfl) 4000 [.z [] 3 [4, 5, 6]] (o := .stop [.o [] 3] [(4, vP g), (5, vP g), (6, vP ba)] [Ef894e g c cl ep sl wd nx sn bk fl cm er, Ebed9f ba A, E632c4 A]) (by kernel_rfl) ?_
  refine ok_stop ?_
  refine go_call (some 7) [0, 1, 2] Tryz.call138 (gLoad c g ba cl ep sl wd sn bk fl cm nx er A (by first | assumption | omega | (simp only [InK] at *; omega)) (by first | assumption | omega | (simp only [InK] at *; omega)) (by first | assumption | omega | (simp only [InK] at *; omega))) (by kernel_rfl) ?_
  rintro v post ⟨rfl, rfl⟩
  refine go_call (some 8) [0] Tryz.call137 (gLookN c g cl ep sl wd sn bk fl ((A.load wd).steps) nx er (A.ws.getD wd.toNat 0) (by first | assumption | omega | (simp only [InK] at *; omega)) (by first | assumption | omega | (simp only [InK] at *; omega)) (by first | assumption | omega | (simp only [InK] at *; omega)) (by first | assumption | omega | (simp only [InK] at *; omega))) (by kernel_rfl) ?_
  rintro v post ⟨rfl, rfl⟩
  refine go_exec (rs := []) (by kernel_rfl) 4000 [] (o := .ret (undef) [Ebed9f ba (A.load wd), E632c4 (A.load wd), Ef894e g c cl ep sl wd (.func (.func 141) #[vP g] #[]) (A.ws.getD wd.toNat 0) (ctlBlock (A.ws.getD wd.toNat 0)) fl ((A.load wd).steps) er]) (by kernel_rfl) ?_
  exact ret_ok (post := [Ef894e g c cl ep sl wd (.func (.func 141) #[vP g] #[]) (A.ws.getD wd.toNat 0) (ctlBlock (A.ws.getD wd.toNat 0)) fl ((A.load wd).steps) er, Ebed9f ba (A.load wd), E632c4 (A.load wd)]) [2, 0, 1] (by kernel_rfl) ⟨rfl, (by kernel_rfl)⟩

noncomputable def B141 : Code := (Tryz.f141.body).getD .skip

theorem gSecond (c : Cfg) (g ba : Nat) (cl ep sl wd sn bk fl cm : Int) (nx er : Value) (A : Ar) (hn : A.ws.length = A.n) (hs : 0 ≤ A.steps ∧ A.steps ≤ 1000000000) (hsl : 0 ≤ sl ∧ sl < A.n) (hcl : 0 ≤ cl ∧ cl ≤ 1000) (hbk : 0 ≤ bk ∧ bk ≤ 65535) :
    Ctr Tryz.prog 141 #[vP g, vP ba] [Ef894e g c cl ep sl wd nx sn bk fl cm er, Ebed9f ba A, E632c4 A] (Ret (undef) [Ef894e g c cl ep sl wd (.func (.func 144) #[vP g] #[]) sn bk fl cm er, Ebed9f ba (A.store sl (markW cl bk)), E632c4 (A.store sl (markW cl bk))]) := by
  refine ctr_of (args := [vP g, vP ba]) (fn := Tryz.f141) (body := B141) (nt := 24) Tryz.func141 (by kernel_rfl) (by kernel_rfl) ?_
  intro F
  refine go_exec (rs := []) (by kernel_rfl) 4000 [.z [0] 0 [0, 1]] (o := .stop [.c [0], .c [1]] [(0, vP g), (1, vP ba)] [Ef894e g c cl ep sl wd nx sn bk fl cm er, Ebed9f ba A, E632c4 A]) (by kernel_rfl) ?_
  refine ok_stop ?_
  refine go_tail_call (dst := (some 18)) (ps := [g = g, g = g, g = g]) (cs := [(123, #[vI cl, vI bk], vU (markW cl bk))]) [(0, .h .w), (1, .h .w), (2, .h .w), (3, .h .w), (4, .h (.e 0)), (5, .h .w), (6, .h .w), (7, .h .w), (8, .h (.e 0)), (9, .h .w), (10, .h .w), (11, .h .w), (12, .h (.e 0)), (13, .q (vU (markW cl bk)))] 14 [] [1, 2] [0] (by kernel_rfl) Tryz.call20 (arena_Store ba A sl (markW cl bk) (by first | assumption | omega | (simp only [InK] at *; omega)) hsl (by first | assumption | omega | (simp only [InK] at *; omega))) (by kernel_rfl) ⟨rfl, rfl, rfl, trivial⟩ ⟨⟨Tryz.call123, quiet_of [] (slots_Mark cl bk (by omega) (by omega)) (by kernel_rfl) (by rintro v post ⟨rfl, rfl⟩; exact ⟨rfl, rfl⟩)⟩, trivial⟩ ?_
  rintro v post ⟨rfl, rfl⟩
  refine tail_next (tm' := [(0, vP g)]) (ps2 := []) (by kernel_rfl) trivial ?_
  refine go_exec (rs := []) (by kernel_rfl) 4000 [.e 0] (o := .obl (g = g) (.ret (undef) [Ef894e g c cl ep sl wd (.func (.func 144) #[vP g] #[]) sn bk fl cm er, Ebed9f ba (A.store sl (markW cl bk)), E632c4 (A.store sl (markW cl bk))])) (by kernel_rfl) ?_
  refine ok_obl rfl ?_
  exact ret_ok (post := [Ef894e g c cl ep sl wd (.func (.func 144) #[vP g] #[]) sn bk fl cm er, Ebed9f ba (A.store sl (markW cl bk)), E632c4 (A.store sl (markW cl bk))]) [0, 1, 2] (by kernel_rfl) ⟨rfl, (by kernel_rfl)⟩

noncomputable def B144 : Code := (Tryz.f144.body).getD .skip

theorem gThirdK (c : Cfg) (g ba : Nat) (cl ep sl wd sn bk fl cm : Int) (nx er : Value) (A : Ar) (hn : A.ws.length = A.n) (hs : 0 ≤ A.steps ∧ A.steps ≤ 1000000000) (hwd : 0 ≤ wd ∧ wd < A.n) (hw : U64 (A.ws.getD wd.toNat 0)) (hf0 : 0 ≤ fl ∧ fl ≤ 1000) (hq : (A.ws.getD wd.toNat 0) = sn) :
    Ctr Tryz.prog 144 #[vP g, vP ba] [Ef894e g c cl ep sl wd nx sn bk fl cm er, Ebed9f ba A, E632c4 A] (Ret (undef) [E9f3a0 g c cl ep sl wd (.nilFunc) sn bk fl ((A.load wd).steps), Ebed9f ba (A.load wd), E632c4 (A.load wd)]) := by
  refine ctr_of (args := [vP g, vP ba]) (fn := Tryz.f144) (body := B144) (nt := 38) Tryz.func144 (by kernel_rfl) (by kernel_rfl) ?_
  intro F
  refine go_exec (rs := []) (by kernel_rfl) 4000 [.z [0] 2 [0, 5, 6]] (o := .stop [.o [0] 2, .c [1]] [(0, vP g), (5, vP g), (6, vP ba)] [Ef894e g c cl ep sl wd nx sn bk fl cm er, Ebed9f ba A, E632c4 A]) (by kernel_rfl) ?_
  refine ok_stop ?_
  refine go_call (some 7) [0, 1, 2] Tryz.call138 (gLoad c g ba cl ep sl wd sn bk fl cm nx er A (by first | assumption | omega | (simp only [InK] at *; omega)) (by first | assumption | omega | (simp only [InK] at *; omega)) (by first | assumption | omega | (simp only [InK] at *; omega))) (by kernel_rfl) ?_
  rintro v post ⟨rfl, rfl⟩
  refine go_exec (rs := []) (by kernel_rfl) 4000 [.e 0, .sp [13] [.z [0, 0, 1, 0, 1] 1 [14]] [.dead]] (o := .obl (g = g) (.br ((A.ws.getD wd.toNat 0) == sn) (.stop [.o [0, 0, 1, 0, 1] 1, .c [1, 0, 1, 0, 1], .c [1, 1]] [(14, vP g)] [Ef894e g c cl ep sl wd nx sn bk fl ((A.load wd).steps) er, Ebed9f ba (A.load wd), E632c4 (A.load wd)]) (.bad))) (by kernel_rfl) ?_
  refine ok_obl rfl ?_
  refine ok_br (fun _ => ?_) (fun h => absurd (show ((A.ws.getD wd.toNat 0) == sn) = true from (beq_iff_eq.2 hq)) (by rw [h]; simp))
  refine ok_stop ?_
  refine go_call (some 15) [0] Tryz.call142 (gEnd0 c g cl ep sl wd sn bk fl ((A.load wd).steps) nx er) (by kernel_rfl) ?_
  rintro v post ⟨rfl, rfl⟩
  refine go_exec (rs := []) (by kernel_rfl) 4000 [] (o := .ret (undef) [Ebed9f ba (A.load wd), E632c4 (A.load wd), E9f3a0 g c cl ep sl wd (.nilFunc) sn bk fl ((A.load wd).steps)]) (by kernel_rfl) ?_
  exact ret_ok (post := [E9f3a0 g c cl ep sl wd (.nilFunc) sn bk fl ((A.load wd).steps), Ebed9f ba (A.load wd), E632c4 (A.load wd)]) [2, 0, 1] (by kernel_rfl) ⟨rfl, (by kernel_rfl)⟩


theorem gThirdR (c : Cfg) (g ba : Nat) (cl ep sl wd sn bk fl cm : Int) (nx er : Value) (A : Ar) (hn : A.ws.length = A.n) (hs : 0 ≤ A.steps ∧ A.steps ≤ 1000000000) (hwd : 0 ≤ wd ∧ wd < A.n) (hw : U64 (A.ws.getD wd.toNat 0)) (hf0 : 0 ≤ fl ∧ fl ≤ 1000) (hq : (A.ws.getD wd.toNat 0) ≠ sn) (hr : fl + 1 = c.retry) :
    Ctr Tryz.prog 144 #[vP g, vP ba] [Ef894e g c cl ep sl wd nx sn bk fl cm er, Ebed9f ba A, E632c4 A] (Ret (undef) [Ef894e g c cl ep sl wd (.nilFunc) sn 0 (fl + 1) ((A.load wd).steps) (.iface 46 (vI 17)), Ebed9f ba (A.load wd), E632c4 (A.load wd)]) := by
  refine ctr_of (args := [vP g, vP ba]) (fn := Tryz.f144) (body := B144) (nt := 38) Tryz.func144 (by kernel_rfl) (by kernel_rfl) ?_
  intro F
  refine go_exec (rs := []) (by kernel_rfl) 4000 [.z [0] 2 [0, 5, 6]] (o := .stop [.o [0] 2, .c [1]] [(0, vP g), (5, vP g), (6, vP ba)] [Ef894e g c cl ep sl wd nx sn bk fl cm er, Ebed9f ba A, E632c4 A]) (by kernel_rfl) ?_
  refine ok_stop ?_
  refine go_call (some 7) [0, 1, 2] Tryz.call138 (gLoad c g ba cl ep sl wd sn bk fl cm nx er A (by first | assumption | omega | (simp only [InK] at *; omega)) (by first | assumption | omega | (simp only [InK] at *; omega)) (by first | assumption | omega | (simp only [InK] at *; omega))) (by kernel_rfl) ?_
  rintro v post ⟨rfl, rfl⟩
  refine go_exec (rs := []) (by kernel_rfl) 4000 [.e 0, .sp [13] [.dead] [.e 0, .n, .e 0, .z [0, 0, 1, 1, 1] 0 [0, 4]]] (o := .obl (g = g) (.br ((A.ws.getD wd.toNat 0) == sn) (.bad) (.obl (g = g) (.obl (InK .i64 (fl + 1)) (.obl (g = g) (.stop [.c [0, 0, 1, 1, 1], .c [1, 0, 1, 1, 1], .c [1, 1, 1, 1]] [(0, vP g), (4, vU (A.ws.getD wd.toNat 0))] [Ef894e g c cl ep sl wd nx sn bk (fl + 1) ((A.load wd).steps) er, Ebed9f ba (A.load wd), E632c4 (A.load wd)])))))) (by kernel_rfl) ?_
  refine ok_obl rfl ?_
  refine ok_br (fun h => absurd (show ((A.ws.getD wd.toNat 0) == sn) = false from (beq_eq_false_iff_ne.2 hq)) (by rw [h]; simp)) (fun _ => ?_)
  refine ok_obl rfl ?_
  refine ok_obl (by simp only [InK]; omega) ?_
  refine ok_obl rfl ?_
  refine ok_stop ?_
  refine go_quiet (tm' := [(0, vP g), (4, vU (A.ws.getD wd.toNat 0)), (32, .bool true)]) (ps := [g = g, g = g, ((fl + 1) == c.retry) = true]) (cs := []) [(0, .h .w), (1, .h .w), (2, .h .w), (3, .h (.e 0)), (4, .h .w), (5, .h .w), (6, .h .w), (7, .h .w), (8, .h (.e 0)), (9, .h (.t true))] [0, 4, 32] (by kernel_rfl) (by kernel_rfl) ⟨rfl, rfl, (beq_iff_eq.2 hr), trivial⟩ trivial ?_
  refine go_exec (rs := []) (by kernel_rfl) 4000 [.z q31_1 1 [33]] (o := .stop [.o q31_1 1, .c [1, 0, 1, 0, 1, 1, 1], .c [1, 1, 1, 1]] [(33, vP g)] [Ef894e g c cl ep sl wd nx sn bk (fl + 1) ((A.load wd).steps) er, Ebed9f ba (A.load wd), E632c4 (A.load wd)]) (by kernel_rfl) ?_
  refine ok_stop ?_
  refine go_call (some 34) [0] Tryz.call142 (gEndE c g cl ep sl wd sn bk (fl + 1) ((A.load wd).steps) nx er 17 (by decide)) (by kernel_rfl) ?_
  rintro v post ⟨rfl, rfl⟩
  refine go_exec (rs := []) (by kernel_rfl) 4000 [] (o := .ret (undef) [Ebed9f ba (A.load wd), E632c4 (A.load wd), Ef894e g c cl ep sl wd (.nilFunc) sn 0 (fl + 1) ((A.load wd).steps) (.iface 46 (vI 17))]) (by kernel_rfl) ?_
  exact ret_ok (post := [Ef894e g c cl ep sl wd (.nilFunc) sn 0 (fl + 1) ((A.load wd).steps) (.iface 46 (vI 17)), Ebed9f ba (A.load wd), E632c4 (A.load wd)]) [2, 0, 1] (by kernel_rfl) ⟨rfl, (by kernel_rfl)⟩


theorem gThirdD (c : Cfg) (g ba : Nat) (cl ep sl wd sn bk fl cm : Int) (nx er : Value) (A : Ar) (hn : A.ws.length = A.n) (hs : 0 ≤ A.steps ∧ A.steps ≤ 1000000000) (hwd : 0 ≤ wd ∧ wd < A.n) (hw : U64 (A.ws.getD wd.toNat 0)) (hf0 : 0 ≤ fl ∧ fl ≤ 1000) (hq : (A.ws.getD wd.toNat 0) ≠ sn) (hr : fl + 1 ≠ c.retry) (hl : ctlLive (A.ws.getD wd.toNat 0) = false) :
    Ctr Tryz.prog 144 #[vP g, vP ba] [Ef894e g c cl ep sl wd nx sn bk fl cm er, Ebed9f ba A, E632c4 A] (Ret (undef) [Ef894e g c cl ep sl wd (.nilFunc) (A.ws.getD wd.toNat 0) 0 (fl + 1) ((A.load wd).steps) (.iface 46 (vI 22)), Ebed9f ba (A.load wd), E632c4 (A.load wd)]) := by
  refine ctr_of (args := [vP g, vP ba]) (fn := Tryz.f144) (body := B144) (nt := 38) Tryz.func144 (by kernel_rfl) (by kernel_rfl) ?_
  intro F
  refine go_exec (rs := []) (by kernel_rfl) 4000 [.z [0] 2 [0, 5, 6]] (o := .stop [.o [0] 2, .c [1]] [(0, vP g), (5, vP g), (6, vP ba)] [Ef894e g c cl ep sl wd nx sn bk fl cm er, Ebed9f ba A, E632c4 A]) (by kernel_rfl) ?_
  refine ok_stop ?_
  refine go_call (some 7) [0, 1, 2] Tryz.call138 (gLoad c g ba cl ep sl wd sn bk fl cm nx er A (by first | assumption | omega | (simp only [InK] at *; omega)) (by first | assumption | omega | (simp only [InK] at *; omega)) (by first | assumption | omega | (simp only [InK] at *; omega))) (by kernel_rfl) ?_
  rintro v post ⟨rfl, rfl⟩
  refine go_exec (rs := []) (by kernel_rfl) 4000 [.e 0, .sp [13] [.dead] [.e 0, .n, .e 0, .z [0, 0, 1, 1, 1] 0 [0, 4]]] (o := .obl (g = g) (.br ((A.ws.getD wd.toNat 0) == sn) (.bad) (.obl (g = g) (.obl (InK .i64 (fl + 1)) (.obl (g = g) (.stop [.c [0, 0, 1, 1, 1], .c [1, 0, 1, 1, 1], .c [1, 1, 1, 1]] [(0, vP g), (4, vU (A.ws.getD wd.toNat 0))] [Ef894e g c cl ep sl wd nx sn bk (fl + 1) ((A.load wd).steps) er, Ebed9f ba (A.load wd), E632c4 (A.load wd)])))))) (by kernel_rfl) ?_
  refine ok_obl rfl ?_
  refine ok_br (fun h => absurd (show ((A.ws.getD wd.toNat 0) == sn) = false from (beq_eq_false_iff_ne.2 hq)) (by rw [h]; simp)) (fun _ => ?_)
  refine ok_obl rfl ?_
  refine ok_obl (by simp only [InK]; omega) ?_
  refine ok_obl rfl ?_
  refine ok_stop ?_
  refine go_quiet (tm' := [(0, vP g), (4, vU (A.ws.getD wd.toNat 0)), (32, .bool false)]) (ps := [g = g, g = g, ((fl + 1) == c.retry) = false]) (cs := []) [(0, .h .w), (1, .h .w), (2, .h .w), (3, .h (.e 0)), (4, .h .w), (5, .h .w), (6, .h .w), (7, .h .w), (8, .h (.e 0)), (9, .h (.t false))] [0, 4, 32] (by kernel_rfl) (by kernel_rfl) ⟨rfl, rfl, (beq_eq_false_iff_ne.2 hr), trivial⟩ trivial ?_
  refine go_exec (rs := []) (by kernel_rfl) 4000 [.z [1, 1, 1, 1] 2 [35, 36]] (o := .stop [.o [1, 1, 1, 1] 2] [(35, vP g), (36, vU (A.ws.getD wd.toNat 0))] [Ef894e g c cl ep sl wd nx sn bk (fl + 1) ((A.load wd).steps) er, Ebed9f ba (A.load wd), E632c4 (A.load wd)]) (by kernel_rfl) ?_
  refine ok_stop ?_
  refine go_call (some 37) [0] Tryz.call137 (gLookD c g cl ep sl wd sn bk (fl + 1) ((A.load wd).steps) nx er (A.ws.getD wd.toNat 0) (by first | assumption | omega | (simp only [InK] at *; omega)) (by first | assumption | omega | (simp only [InK] at *; omega))) (by kernel_rfl) ?_
  rintro v post ⟨rfl, rfl⟩
  refine go_exec (rs := []) (by kernel_rfl) 4000 [] (o := .ret (undef) [Ebed9f ba (A.load wd), E632c4 (A.load wd), Ef894e g c cl ep sl wd (.nilFunc) (A.ws.getD wd.toNat 0) 0 (fl + 1) ((A.load wd).steps) (.iface 46 (vI 22))]) (by kernel_rfl) ?_
  exact ret_ok (post := [Ef894e g c cl ep sl wd (.nilFunc) (A.ws.getD wd.toNat 0) 0 (fl + 1) ((A.load wd).steps) (.iface 46 (vI 22)), Ebed9f ba (A.load wd), E632c4 (A.load wd)]) [2, 0, 1] (by kernel_rfl) ⟨rfl, (by kernel_rfl)⟩


theorem gThirdP (c : Cfg) (g ba : Nat) (cl ep sl wd sn bk fl cm : Int) (nx er : Value) (A : Ar) (hn : A.ws.length = A.n) (hs : 0 ≤ A.steps ∧ A.steps ≤ 1000000000) (hwd : 0 ≤ wd ∧ wd < A.n) (hw : U64 (A.ws.getD wd.toNat 0)) (hf0 : 0 ≤ fl ∧ fl ≤ 1000) (hq : (A.ws.getD wd.toNat 0) ≠ sn) (hr : fl + 1 ≠ c.retry) (hl : ctlLive (A.ws.getD wd.toNat 0) = true) (he : ctlEpoch (A.ws.getD wd.toNat 0) ≠ ep) :
    Ctr Tryz.prog 144 #[vP g, vP ba] [Ef894e g c cl ep sl wd nx sn bk fl cm er, Ebed9f ba A, E632c4 A] (Ret (undef) [Ef894e g c cl ep sl wd (.nilFunc) (A.ws.getD wd.toNat 0) 0 (fl + 1) ((A.load wd).steps) (.iface 46 (vI 22)), Ebed9f ba (A.load wd), E632c4 (A.load wd)]) := by
  refine ctr_of (args := [vP g, vP ba]) (fn := Tryz.f144) (body := B144) (nt := 38) Tryz.func144 (by kernel_rfl) (by kernel_rfl) ?_
  intro F
  refine go_exec (rs := []) (by kernel_rfl) 4000 [.z [0] 2 [0, 5, 6]] (o := .stop [.o [0] 2, .c [1]] [(0, vP g), (5, vP g), (6, vP ba)] [Ef894e g c cl ep sl wd nx sn bk fl cm er, Ebed9f ba A, E632c4 A]) (by kernel_rfl) ?_
  refine ok_stop ?_
  refine go_call (some 7) [0, 1, 2] Tryz.call138 (gLoad c g ba cl ep sl wd sn bk fl cm nx er A (by first | assumption | omega | (simp only [InK] at *; omega)) (by first | assumption | omega | (simp only [InK] at *; omega)) (by first | assumption | omega | (simp only [InK] at *; omega))) (by kernel_rfl) ?_
  rintro v post ⟨rfl, rfl⟩
  refine go_exec (rs := []) (by kernel_rfl) 4000 [.e 0, .sp [13] [.dead] [.e 0, .n, .e 0, .z [0, 0, 1, 1, 1] 0 [0, 4]]] (o := .obl (g = g) (.br ((A.ws.getD wd.toNat 0) == sn) (.bad) (.obl (g = g) (.obl (InK .i64 (fl + 1)) (.obl (g = g) (.stop [.c [0, 0, 1, 1, 1], .c [1, 0, 1, 1, 1], .c [1, 1, 1, 1]] [(0, vP g), (4, vU (A.ws.getD wd.toNat 0))] [Ef894e g c cl ep sl wd nx sn bk (fl + 1) ((A.load wd).steps) er, Ebed9f ba (A.load wd), E632c4 (A.load wd)])))))) (by kernel_rfl) ?_
  refine ok_obl rfl ?_
  refine ok_br (fun h => absurd (show ((A.ws.getD wd.toNat 0) == sn) = false from (beq_eq_false_iff_ne.2 hq)) (by rw [h]; simp)) (fun _ => ?_)
  refine ok_obl rfl ?_
  refine ok_obl (by simp only [InK]; omega) ?_
  refine ok_obl rfl ?_
  refine ok_stop ?_
  refine go_quiet (tm' := [(0, vP g), (4, vU (A.ws.getD wd.toNat 0)), (32, .bool false)]) (ps := [g = g, g = g, ((fl + 1) == c.retry) = false]) (cs := []) [(0, .h .w), (1, .h .w), (2, .h .w), (3, .h (.e 0)), (4, .h .w), (5, .h .w), (6, .h .w), (7, .h .w), (8, .h (.e 0)), (9, .h (.t false))] [0, 4, 32] (by kernel_rfl) (by kernel_rfl) ⟨rfl, rfl, (beq_eq_false_iff_ne.2 hr), trivial⟩ trivial ?_
  refine go_exec (rs := []) (by kernel_rfl) 4000 [.z [1, 1, 1, 1] 2 [35, 36]] (o := .stop [.o [1, 1, 1, 1] 2] [(35, vP g), (36, vU (A.ws.getD wd.toNat 0))] [Ef894e g c cl ep sl wd nx sn bk (fl + 1) ((A.load wd).steps) er, Ebed9f ba (A.load wd), E632c4 (A.load wd)]) (by kernel_rfl) ?_
  refine ok_stop ?_
  refine go_call (some 37) [0] Tryz.call137 (gLookP c g cl ep sl wd sn bk (fl + 1) ((A.load wd).steps) nx er (A.ws.getD wd.toNat 0) (by first | assumption | omega | (simp only [InK] at *; omega)) (by first | assumption | omega | (simp only [InK] at *; omega)) (by first | assumption | omega | (simp only [InK] at *; omega))) (by kernel_rfl) ?_
  rintro v post ⟨rfl, rfl⟩
  refine go_exec (rs := []) (by kernel_rfl) 4000 [] (o := .ret (undef) [Ebed9f ba (A.load wd), E632c4 (A.load wd), Ef894e g c cl ep sl wd (.nilFunc) (A.ws.getD wd.toNat 0) 0 (fl + 1) ((A.load wd).steps) (.iface 46 (vI 22))]) (by kernel_rfl) ?_
  exact ret_ok (post := [Ef894e g c cl ep sl wd (.nilFunc) (A.ws.getD wd.toNat 0) 0 (fl + 1) ((A.load wd).steps) (.iface 46 (vI 22)), Ebed9f ba (A.load wd), E632c4 (A.load wd)]) [2, 0, 1] (by kernel_rfl) ⟨rfl, (by kernel_rfl)⟩


theorem gThirdE (c : Cfg) (g ba : Nat) (cl ep sl wd sn bk fl cm : Int) (nx er : Value) (A : Ar) (hn : A.ws.length = A.n) (hs : 0 ≤ A.steps ∧ A.steps ≤ 1000000000) (hwd : 0 ≤ wd ∧ wd < A.n) (hw : U64 (A.ws.getD wd.toNat 0)) (hf0 : 0 ≤ fl ∧ fl ≤ 1000) (hq : (A.ws.getD wd.toNat 0) ≠ sn) (hr : fl + 1 ≠ c.retry) (hl : ctlLive (A.ws.getD wd.toNat 0) = true) (he : ctlEpoch (A.ws.getD wd.toNat 0) = ep) (hb : ctlBlock (A.ws.getD wd.toNat 0) = 0) :
    Ctr Tryz.prog 144 #[vP g, vP ba] [Ef894e g c cl ep sl wd nx sn bk fl cm er, Ebed9f ba A, E632c4 A] (Ret (undef) [Ef894e g c cl ep sl wd (.nilFunc) (A.ws.getD wd.toNat 0) 0 (fl + 1) ((A.load wd).steps) (.iface 46 (vI 20)), Ebed9f ba (A.load wd), E632c4 (A.load wd)]) := by
  refine ctr_of (args := [vP g, vP ba]) (fn := Tryz.f144) (body := B144) (nt := 38) Tryz.func144 (by kernel_rfl) (by kernel_rfl) ?_
  intro F
  refine go_exec (rs := []) (by kernel_rfl) 4000 [.z [0] 2 [0, 5, 6]] (o := .stop [.o [0] 2, .c [1]] [(0, vP g), (5, vP g), (6, vP ba)] [Ef894e g c cl ep sl wd nx sn bk fl cm er, Ebed9f ba A, E632c4 A]) (by kernel_rfl) ?_
  refine ok_stop ?_
  refine go_call (some 7) [0, 1, 2] Tryz.call138 (gLoad c g ba cl ep sl wd sn bk fl cm nx er A (by first | assumption | omega | (simp only [InK] at *; omega)) (by first | assumption | omega | (simp only [InK] at *; omega)) (by first | assumption | omega | (simp only [InK] at *; omega))) (by kernel_rfl) ?_
  rintro v post ⟨rfl, rfl⟩
  refine go_exec (rs := []) (by kernel_rfl) 4000 [.e 0, .sp [13] [.dead] [.e 0, .n, .e 0, .z [0, 0, 1, 1, 1] 0 [0, 4]]] (o := .obl (g = g) (.br ((A.ws.getD wd.toNat 0) == sn) (.bad) (.obl (g = g) (.obl (InK .i64 (fl + 1)) (.obl (g = g) (.stop [.c [0, 0, 1, 1, 1], .c [1, 0, 1, 1, 1], .c [1, 1, 1, 1]] [(0, vP g), (4, vU (A.ws.getD wd.toNat 0))] [Ef894e g c cl ep sl wd nx sn bk (fl + 1) ((A.load wd).steps) er, Ebed9f ba (A.load wd), E632c4 (A.load wd)])))))) (by kernel_rfl) ?_
  refine ok_obl rfl ?_
  refine ok_br (fun h => absurd (show ((A.ws.getD wd.toNat 0) == sn) = false from (beq_eq_false_iff_ne.2 hq)) (by rw [h]; simp)) (fun _ => ?_)
  refine ok_obl rfl ?_
  refine ok_obl (by simp only [InK]; omega) ?_
  refine ok_obl rfl ?_
  refine ok_stop ?_
  refine go_quiet (tm' := [(0, vP g), (4, vU (A.ws.getD wd.toNat 0)), (32, .bool false)]) (ps := [g = g, g = g, ((fl + 1) == c.retry) = false]) (cs := []) [(0, .h .w), (1, .h .w), (2, .h .w), (3, .h (.e 0)), (4, .h .w), (5, .h .w), (6, .h .w), (7, .h .w), (8, .h (.e 0)), (9, .h (.t false))] [0, 4, 32] (by kernel_rfl) (by kernel_rfl) ⟨rfl, rfl, (beq_eq_false_iff_ne.2 hr), trivial⟩ trivial ?_
  refine go_exec (rs := []) (by kernel_rfl) 4000 [.z [1, 1, 1, 1] 2 [35, 36]] (o := .stop [.o [1, 1, 1, 1] 2] [(35, vP g), (36, vU (A.ws.getD wd.toNat 0))] [Ef894e g c cl ep sl wd nx sn bk (fl + 1) ((A.load wd).steps) er, Ebed9f ba (A.load wd), E632c4 (A.load wd)]) (by kernel_rfl) ?_
  refine ok_stop ?_
  refine go_call (some 37) [0] Tryz.call137 (gLookE c g cl ep sl wd sn bk (fl + 1) ((A.load wd).steps) nx er (A.ws.getD wd.toNat 0) (by first | assumption | omega | (simp only [InK] at *; omega)) (by first | assumption | omega | (simp only [InK] at *; omega)) (by first | assumption | omega | (simp only [InK] at *; omega)) (by first | assumption | omega | (simp only [InK] at *; omega))) (by kernel_rfl) ?_
  rintro v post ⟨rfl, rfl⟩
  refine go_exec (rs := []) (by kernel_rfl) 4000 [] (o := .ret (undef) [Ebed9f ba (A.load wd), E632c4 (A.load wd), Ef894e g c cl ep sl wd (.nilFunc) (A.ws.getD wd.toNat 0) 0 (fl + 1) ((A.load wd).steps) (.iface 46 (vI 20))]) (by kernel_rfl) ?_
  exact ret_ok (post := [Ef894e g c cl ep sl wd (.nilFunc) (A.ws.getD wd.toNat 0) 0 (fl + 1) ((A.load wd).steps) (.iface 46 (vI 20)), Ebed9f ba (A.load wd), E632c4 (A.load wd)]) [2, 0, 1] (by kernel_rfl) ⟨rfl, (by kernel_rfl)⟩


theorem gThirdN (c : Cfg) (g ba : Nat) (cl ep sl wd sn bk fl cm : Int) (nx er : Value) (A : Ar) (hn : A.ws.length = A.n) (hs : 0 ≤ A.steps ∧ A.steps ≤ 1000000000) (hwd : 0 ≤ wd ∧ wd < A.n) (hw : U64 (A.ws.getD wd.toNat 0)) (hf0 : 0 ≤ fl ∧ fl ≤ 1000) (hq : (A.ws.getD wd.toNat 0) ≠ sn) (hr : fl + 1 ≠ c.retry) (hl : ctlLive (A.ws.getD wd.toNat 0) = true) (he : ctlEpoch (A.ws.getD wd.toNat 0) = ep) (hb : ctlBlock (A.ws.getD wd.toNat 0) ≠ 0) :
    Ctr Tryz.prog 144 #[vP g, vP ba] [Ef894e g c cl ep sl wd nx sn bk fl cm er, Ebed9f ba A, E632c4 A] (Ret (undef) [Ef894e g c cl ep sl wd (.func (.func 141) #[vP g] #[]) (A.ws.getD wd.toNat 0) (ctlBlock (A.ws.getD wd.toNat 0)) (fl + 1) ((A.load wd).steps) er, Ebed9f ba (A.load wd), E632c4 (A.load wd)]) := by
  refine ctr_of (args := [vP g, vP ba]) (fn := Tryz.f144) (body := B144) (nt := 38) Tryz.func144 (by kernel_rfl) (by kernel_rfl) ?_
  intro F
  refine go_exec (rs := []) (by kernel_rfl) 4000 [.z [0] 2 [0, 5, 6]] (o := .stop [.o [0] 2, .c [1]] [(0, vP g), (5, vP g), (6, vP ba)] [Ef894e g c cl ep sl wd nx sn bk fl cm er, Ebed9f ba A, E632c4 A]) (by kernel_rfl) ?_
  refine ok_stop ?_
  refine go_call (some 7) [0, 1, 2] Tryz.call138 (gLoad c g ba cl ep sl wd sn bk fl cm nx er A (by first | assumption | omega | (simp only [InK] at *; omega)) (by first | assumption | omega | (simp only [InK] at *; omega)) (by first | assumption | omega | (simp only [InK] at *; omega))) (by kernel_rfl) ?_
  rintro v post ⟨rfl, rfl⟩
  refine go_exec (rs := []) (by kernel_rfl) 4000 [.e 0, .sp [13] [.dead] [.e 0, .n, .e 0, .z [0, 0, 1, 1, 1] 0 [0, 4]]] (o := .obl (g = g) (.br ((A.ws.getD wd.toNat 0) == sn) (.bad) (.obl (g = g) (.obl (InK .i64 (fl + 1)) (.obl (g = g) (.stop [.c [0, 0, 1, 1, 1], .c [1, 0, 1, 1, 1], .c [1, 1, 1, 1]] [(0, vP g), (4, vU (A.ws.getD wd.toNat 0))] [Ef894e g c cl ep sl wd nx sn bk (fl + 1) ((A.load wd).steps) er, Ebed9f ba (A.load wd), E632c4 (A.load wd)])))))) (by kernel_rfl) ?_
  refine ok_obl rfl ?_
  refine ok_br (fun h => absurd (show ((A.ws.getD wd.toNat 0) == sn) = false from (beq_eq_false_iff_ne.2 hq)) (by rw [h]; simp)) (fun _ => ?_)
  refine ok_obl rfl ?_
  refine ok_obl (by simp only [InK]; omega) ?_
  refine ok_obl rfl ?_
  refine ok_stop ?_
  refine go_quiet (tm' := [(0, vP g), (4, vU (A.ws.getD wd.toNat 0)), (32, .bool false)]) (ps := [g = g, g = g, ((fl + 1) == c.retry) = false]) (cs := []) [(0, .h .w), (1, .h .w), (2, .h .w), (3, .h (.e 0)), (4, .h .w), (5, .h .w), (6, .h .w), (7, .h .w), (8, .h (.e 0)), (9, .h (.t false))] [0, 4, 32] (by kernel_rfl) (by kernel_rfl) ⟨rfl, rfl, (beq_eq_false_iff_ne.2 hr), trivial⟩ trivial ?_
  refine go_exec (rs := []) (by kernel_rfl) 4000 [.z [1, 1, 1, 1] 2 [35, 36]] (o := .stop [.o [1, 1, 1, 1] 2] [(35, vP g), (36, vU (A.ws.getD wd.toNat 0))] [Ef894e g c cl ep sl wd nx sn bk (fl + 1) ((A.load wd).steps) er, Ebed9f ba (A.load wd), E632c4 (A.load wd)]) (by kernel_rfl) ?_
  refine ok_stop ?_
  refine go_call (some 37) [0] Tryz.call137 (gLookN c g cl ep sl wd sn bk (fl + 1) ((A.load wd).steps) nx er (A.ws.getD wd.toNat 0) (by first | assumption | omega | (simp only [InK] at *; omega)) (by first | assumption | omega | (simp only [InK] at *; omega)) (by first | assumption | omega | (simp only [InK] at *; omega)) (by first | assumption | omega | (simp only [InK] at *; omega))) (by kernel_rfl) ?_
  rintro v post ⟨rfl, rfl⟩
  refine go_exec (rs := []) (by kernel_rfl) 4000 [] (o := .ret (undef) [Ebed9f ba (A.load wd), E632c4 (A.load wd), Ef894e g c cl ep sl wd (.func (.func 141) #[vP g] #[]) (A.ws.getD wd.toNat 0) (ctlBlock (A.ws.getD wd.toNat 0)) (fl + 1) ((A.load wd).steps) er]) (by kernel_rfl) ?_
  exact ret_ok (post := [Ef894e g c cl ep sl wd (.func (.func 141) #[vP g] #[]) (A.ws.getD wd.toNat 0) (ctlBlock (A.ws.getD wd.toNat 0)) (fl + 1) ((A.load wd).steps) er, Ebed9f ba (A.load wd), E632c4 (A.load wd)]) [2, 0, 1] (by kernel_rfl) ⟨rfl, (by kernel_rfl)⟩

noncomputable def B84 : Code := (Tryz.f84.body).getD .skip

theorem gDone0 (c : Cfg) (g : Nat) (cl ep sl wd sn bk fl cm : Int) (er : Value)  :
    Ctr Tryz.prog 84 #[vP g] [Ef894e g c cl ep sl wd (.nilFunc) sn bk fl cm er] (Ret (.bool true) [Ef894e g c cl ep sl wd (.nilFunc) sn bk fl cm er]) := by
  refine ctr_of (args := [vP g]) (fn := Tryz.f84) (body := B84) (nt := 12) Tryz.func84 (by kernel_rfl) (by kernel_rfl) ?_
  intro F
  refine go_exec (rs := [.tmp 2]) (by kernel_rfl) 4000 [.e 0] (o := .obl (g = g) (.ret (.bool true) [Ef894e g c cl ep sl wd (.nilFunc) sn bk fl cm er])) (by kernel_rfl) ?_
  refine ok_obl rfl ?_
  exact ret_ok (post := [Ef894e g c cl ep sl wd (.nilFunc) sn bk fl cm er]) [0] (by kernel_rfl) ⟨rfl, (by kernel_rfl)⟩


theorem gDone1 (c : Cfg) (g : Nat) (cl ep sl wd sn bk fl cm : Int) (er : Value)  :
    Ctr Tryz.prog 84 #[vP g] [Ef894e g c cl ep sl wd (.func (.func 128) #[vP g] #[]) sn bk fl cm er] (Ret (.bool false) [Ef894e g c cl ep sl wd (.func (.func 128) #[vP g] #[]) sn bk fl cm er]) := by
  refine ctr_of (args := [vP g]) (fn := Tryz.f84) (body := B84) (nt := 12) Tryz.func84 (by kernel_rfl) (by kernel_rfl) ?_
  intro F
  refine go_exec (rs := [.tmp 2]) (by kernel_rfl) 4000 [.e 0] (o := .obl (g = g) (.ret (.bool false) [Ef894e g c cl ep sl wd (.func (.func 128) #[vP g] #[]) sn bk fl cm er])) (by kernel_rfl) ?_
  refine ok_obl rfl ?_
  exact ret_ok (post := [Ef894e g c cl ep sl wd (.func (.func 128) #[vP g] #[]) sn bk fl cm er]) [0] (by kernel_rfl) ⟨rfl, (by kernel_rfl)⟩


theorem gDone2 (c : Cfg) (g : Nat) (cl ep sl wd sn bk fl cm : Int) (er : Value)  :
    Ctr Tryz.prog 84 #[vP g] [Ef894e g c cl ep sl wd (.func (.func 141) #[vP g] #[]) sn bk fl cm er] (Ret (.bool false) [Ef894e g c cl ep sl wd (.func (.func 141) #[vP g] #[]) sn bk fl cm er]) := by
  refine ctr_of (args := [vP g]) (fn := Tryz.f84) (body := B84) (nt := 12) Tryz.func84 (by kernel_rfl) (by kernel_rfl) ?_
  intro F
  refine go_exec (rs := [.tmp 2]) (by kernel_rfl) 4000 [.e 0] (o := .obl (g = g) (.ret (.bool false) [Ef894e g c cl ep sl wd (.func (.func 141) #[vP g] #[]) sn bk fl cm er])) (by kernel_rfl) ?_
  refine ok_obl rfl ?_
  exact ret_ok (post := [Ef894e g c cl ep sl wd (.func (.func 141) #[vP g] #[]) sn bk fl cm er]) [0] (by kernel_rfl) ⟨rfl, (by kernel_rfl)⟩


theorem gDone3 (c : Cfg) (g : Nat) (cl ep sl wd sn bk fl cm : Int) (er : Value)  :
    Ctr Tryz.prog 84 #[vP g] [Ef894e g c cl ep sl wd (.func (.func 144) #[vP g] #[]) sn bk fl cm er] (Ret (.bool false) [Ef894e g c cl ep sl wd (.func (.func 144) #[vP g] #[]) sn bk fl cm er]) := by
  refine ctr_of (args := [vP g]) (fn := Tryz.f84) (body := B84) (nt := 12) Tryz.func84 (by kernel_rfl) (by kernel_rfl) ?_
  intro F
  refine go_exec (rs := [.tmp 2]) (by kernel_rfl) 4000 [.e 0] (o := .obl (g = g) (.ret (.bool false) [Ef894e g c cl ep sl wd (.func (.func 144) #[vP g] #[]) sn bk fl cm er])) (by kernel_rfl) ?_
  refine ok_obl rfl ?_
  exact ret_ok (post := [Ef894e g c cl ep sl wd (.func (.func 144) #[vP g] #[]) sn bk fl cm er]) [0] (by kernel_rfl) ⟨rfl, (by kernel_rfl)⟩


noncomputable def B124 : Code := (Tryz.f124.body).getD .skip

theorem gStep0 (c : Cfg) (g ba : Nat) (cl ep sl wd sn bk fl cm : Int) (er : Value) (A : Ar)  :
    Ctr Tryz.prog 124 #[vP g, vP ba] [Ef894e g c cl ep sl wd (.nilFunc) sn bk fl cm er, Ebed9f ba A, E632c4 A] (Ret (.bool true) [Ef894e g c cl ep sl wd (.nilFunc) sn bk fl cm er, Ebed9f ba A, E632c4 A]) := by
  refine ctr_of (args := [vP g, vP ba]) (fn := Tryz.f124) (body := B124) (nt := 16) Tryz.func124 (by kernel_rfl) (by kernel_rfl) ?_
  intro F
  refine go_exec (rs := [.tmp 4]) (by kernel_rfl) 4000 [.z [0, 0, 1] 1 [0, 1, 5]] (o := .stop [.o [0, 0, 1] 1, .c [1, 0, 1], .c [1, 1]] [(0, vP g), (1, vP ba), (5, vP g)] [Ef894e g c cl ep sl wd (.nilFunc) sn bk fl cm er, Ebed9f ba A, E632c4 A]) (by kernel_rfl) ?_
  refine ok_stop ?_
  refine go_call (some 6) [0] Tryz.call84 (gDone0 c g cl ep sl wd sn bk fl cm er) (by kernel_rfl) ?_
  rintro v post ⟨rfl, rfl⟩
  refine go_exec (rs := [.tmp 4]) (by kernel_rfl) 4000 [.z [0, 1, 1] 1 [14]] (o := .stop [.o [0, 1, 1] 1, .c [1, 1, 1]] [(14, vP g)] [Ebed9f ba A, E632c4 A, Ef894e g c cl ep sl wd (.nilFunc) sn bk fl cm er]) (by kernel_rfl) ?_
  refine ok_stop ?_
  refine go_call (some 15) [2] Tryz.call84 (gDone0 c g cl ep sl wd sn bk fl cm er) (by kernel_rfl) ?_
  rintro v post ⟨rfl, rfl⟩
  refine go_exec (rs := [.tmp 4]) (by kernel_rfl) 4000 [] (o := .ret (.bool true) [Ebed9f ba A, E632c4 A, Ef894e g c cl ep sl wd (.nilFunc) sn bk fl cm er]) (by kernel_rfl) ?_
  exact ret_ok (post := [Ef894e g c cl ep sl wd (.nilFunc) sn bk fl cm er, Ebed9f ba A, E632c4 A]) [2, 0, 1] (by kernel_rfl) ⟨rfl, (by kernel_rfl)⟩


theorem gStep1D (c : Cfg) (g ba : Nat) (cl ep sl wd sn bk fl cm : Int) (er : Value) (A : Ar) (hn : A.ws.length = A.n) (hs : 0 ≤ A.steps ∧ A.steps ≤ 1000000000) (hwd : 0 ≤ wd ∧ wd < A.n) (hw : U64 (A.ws.getD wd.toNat 0)) (hl : ctlLive (A.ws.getD wd.toNat 0) = false) :
    Ctr Tryz.prog 124 #[vP g, vP ba] [Ef894e g c cl ep sl wd (.func (.func 128) #[vP g] #[]) sn bk fl cm er, Ebed9f ba A, E632c4 A] (Ret (.bool true) [Ef894e g c cl ep sl wd (.nilFunc) (A.ws.getD wd.toNat 0) 0 fl ((A.load wd).steps) (.iface 46 (vI 22)), Ebed9f ba (A.load wd), E632c4 (A.load wd)]) := by
  refine ctr_of (args := [vP g, vP ba]) (fn := Tryz.f124) (body := B124) (nt := 16) Tryz.func124 (by kernel_rfl) (by kernel_rfl) ?_
  intro F
  refine go_exec (rs := [.tmp 4]) (by kernel_rfl) 4000 [.z [0, 0, 1] 1 [0, 1, 5]] (o := .stop [.o [0, 0, 1] 1, .c [1, 0, 1], .c [1, 1]] [(0, vP g), (1, vP ba), (5, vP g)] [Ef894e g c cl ep sl wd (.func (.func 128) #[vP g] #[]) sn bk fl cm er, Ebed9f ba A, E632c4 A]) (by kernel_rfl) ?_
  refine ok_stop ?_
  refine go_call (some 6) [0] Tryz.call84 (gDone1 c g cl ep sl wd sn bk fl cm er) (by kernel_rfl) ?_
  rintro v post ⟨rfl, rfl⟩
  refine go_exec (rs := [.tmp 4]) (by kernel_rfl) 4000 [.e 2, .z [0, 1, 0, 1] 5 [0, 11, 12]] (o := .obl (g = g) (.stop [.o [0, 1, 0, 1] 5, .c [1, 1]] [(0, vP g), (11, .func (.func 128) #[vP g] #[]), (12, vP ba)] [Ebed9f ba A, E632c4 A, Ef894e g c cl ep sl wd (.func (.func 128) #[vP g] #[]) sn bk fl cm er])) (by kernel_rfl) ?_
  refine ok_obl rfl ?_
  refine ok_stop ?_
  refine go_call (some 13) [2, 0, 1] Tryz.call128 (gFirstD c g ba cl ep sl wd sn bk fl cm (.func (.func 128) #[vP g] #[]) er A (by first | assumption | omega | (simp only [InK] at *; omega)) (by first | assumption | omega | (simp only [InK] at *; omega)) (by first | assumption | omega | (simp only [InK] at *; omega)) (by first | assumption | omega | (simp only [InK] at *; omega)) (by first | assumption | omega | (simp only [InK] at *; omega))) (by kernel_rfl) ?_
  rintro v post ⟨rfl, rfl⟩
  refine go_exec (rs := [.tmp 4]) (by kernel_rfl) 4000 [.z [0, 1, 1] 1 [14]] (o := .stop [.o [0, 1, 1] 1, .c [1, 1, 1]] [(14, vP g)] [Ef894e g c cl ep sl wd (.nilFunc) (A.ws.getD wd.toNat 0) 0 fl ((A.load wd).steps) (.iface 46 (vI 22)), Ebed9f ba (A.load wd), E632c4 (A.load wd)]) (by kernel_rfl) ?_
  refine ok_stop ?_
  refine go_call (some 15) [0] Tryz.call84 (gDone0 c g cl ep sl wd (A.ws.getD wd.toNat 0) 0 fl ((A.load wd).steps) (.iface 46 (vI 22))) (by kernel_rfl) ?_
  rintro v post ⟨rfl, rfl⟩
  refine go_exec (rs := [.tmp 4]) (by kernel_rfl) 4000 [] (o := .ret (.bool true) [Ebed9f ba (A.load wd), E632c4 (A.load wd), Ef894e g c cl ep sl wd (.nilFunc) (A.ws.getD wd.toNat 0) 0 fl ((A.load wd).steps) (.iface 46 (vI 22))]) (by kernel_rfl) ?_
  exact ret_ok (post := [Ef894e g c cl ep sl wd (.nilFunc) (A.ws.getD wd.toNat 0) 0 fl ((A.load wd).steps) (.iface 46 (vI 22)), Ebed9f ba (A.load wd), E632c4 (A.load wd)]) [2, 0, 1] (by kernel_rfl) ⟨rfl, (by kernel_rfl)⟩


theorem gStep1P (c : Cfg) (g ba : Nat) (cl ep sl wd sn bk fl cm : Int) (er : Value) (A : Ar) (hn : A.ws.length = A.n) (hs : 0 ≤ A.steps ∧ A.steps ≤ 1000000000) (hwd : 0 ≤ wd ∧ wd < A.n) (hw : U64 (A.ws.getD wd.toNat 0)) (hl : ctlLive (A.ws.getD wd.toNat 0) = true) (he : ctlEpoch (A.ws.getD wd.toNat 0) ≠ ep) :
    Ctr Tryz.prog 124 #[vP g, vP ba] [Ef894e g c cl ep sl wd (.func (.func 128) #[vP g] #[]) sn bk fl cm er, Ebed9f ba A, E632c4 A] (Ret (.bool true) [Ef894e g c cl ep sl wd (.nilFunc) (A.ws.getD wd.toNat 0) 0 fl ((A.load wd).steps) (.iface 46 (vI 22)), Ebed9f ba (A.load wd), E632c4 (A.load wd)]) := by
  refine ctr_of (args := [vP g, vP ba]) (fn := Tryz.f124) (body := B124) (nt := 16) Tryz.func124 (by kernel_rfl) (by kernel_rfl) ?_
  intro F
  refine go_exec (rs := [.tmp 4]) (by kernel_rfl) 4000 [.z [0, 0, 1] 1 [0, 1, 5]] (o := .stop [.o [0, 0, 1] 1, .c [1, 0, 1], .c [1, 1]] [(0, vP g), (1, vP ba), (5, vP g)] [Ef894e g c cl ep sl wd (.func (.func 128) #[vP g] #[]) sn bk fl cm er, Ebed9f ba A, E632c4 A]) (by kernel_rfl) ?_
  refine ok_stop ?_
  refine go_call (some 6) [0] Tryz.call84 (gDone1 c g cl ep sl wd sn bk fl cm er) (by kernel_rfl) ?_
  rintro v post ⟨rfl, rfl⟩
  refine go_exec (rs := [.tmp 4]) (by kernel_rfl) 4000 [.e 2, .z [0, 1, 0, 1] 5 [0, 11, 12]] (o := .obl (g = g) (.stop [.o [0, 1, 0, 1] 5, .c [1, 1]] [(0, vP g), (11, .func (.func 128) #[vP g] #[]), (12, vP ba)] [Ebed9f ba A, E632c4 A, Ef894e g c cl ep sl wd (.func (.func 128) #[vP g] #[]) sn bk fl cm er])) (by kernel_rfl) ?_
  refine ok_obl rfl ?_
  refine ok_stop ?_
  refine go_call (some 13) [2, 0, 1] Tryz.call128 (gFirstP c g ba cl ep sl wd sn bk fl cm (.func (.func 128) #[vP g] #[]) er A (by first | assumption | omega | (simp only [InK] at *; omega)) (by first | assumption | omega | (simp only [InK] at *; omega)) (by first | assumption | omega | (simp only [InK] at *; omega)) (by first | assumption | omega | (simp only [InK] at *; omega)) (by first | assumption | omega | (simp only [InK] at *; omega)) (by first | assumption | omega | (simp only [InK] at *; omega))) (by kernel_rfl) ?_
  rintro v post ⟨rfl, rfl⟩
  refine go_exec (rs := [.tmp 4]) (by kernel_rfl) 4000 [.z [0, 1, 1] 1 [14]] (o := .stop [.o [0, 1, 1] 1, .c [1, 1, 1]] [(14, vP g)] [Ef894e g c cl ep sl wd (.nilFunc) (A.ws.getD wd.toNat 0) 0 fl ((A.load wd).steps) (.iface 46 (vI 22)), Ebed9f ba (A.load wd), E632c4 (A.load wd)]) (by kernel_rfl) ?_
  refine ok_stop ?_
  refine go_call (some 15) [0] Tryz.call84 (gDone0 c g cl ep sl wd (A.ws.getD wd.toNat 0) 0 fl ((A.load wd).steps) (.iface 46 (vI 22))) (by kernel_rfl) ?_
  rintro v post ⟨rfl, rfl⟩
  refine go_exec (rs := [.tmp 4]) (by kernel_rfl) 4000 [] (o := .ret (.bool true) [Ebed9f ba (A.load wd), E632c4 (A.load wd), Ef894e g c cl ep sl wd (.nilFunc) (A.ws.getD wd.toNat 0) 0 fl ((A.load wd).steps) (.iface 46 (vI 22))]) (by kernel_rfl) ?_
  exact ret_ok (post := [Ef894e g c cl ep sl wd (.nilFunc) (A.ws.getD wd.toNat 0) 0 fl ((A.load wd).steps) (.iface 46 (vI 22)), Ebed9f ba (A.load wd), E632c4 (A.load wd)]) [2, 0, 1] (by kernel_rfl) ⟨rfl, (by kernel_rfl)⟩


theorem gStep1E (c : Cfg) (g ba : Nat) (cl ep sl wd sn bk fl cm : Int) (er : Value) (A : Ar) (hn : A.ws.length = A.n) (hs : 0 ≤ A.steps ∧ A.steps ≤ 1000000000) (hwd : 0 ≤ wd ∧ wd < A.n) (hw : U64 (A.ws.getD wd.toNat 0)) (hl : ctlLive (A.ws.getD wd.toNat 0) = true) (he : ctlEpoch (A.ws.getD wd.toNat 0) = ep) (hb : ctlBlock (A.ws.getD wd.toNat 0) = 0) :
    Ctr Tryz.prog 124 #[vP g, vP ba] [Ef894e g c cl ep sl wd (.func (.func 128) #[vP g] #[]) sn bk fl cm er, Ebed9f ba A, E632c4 A] (Ret (.bool true) [Ef894e g c cl ep sl wd (.nilFunc) (A.ws.getD wd.toNat 0) 0 fl ((A.load wd).steps) (.iface 46 (vI 20)), Ebed9f ba (A.load wd), E632c4 (A.load wd)]) := by
  refine ctr_of (args := [vP g, vP ba]) (fn := Tryz.f124) (body := B124) (nt := 16) Tryz.func124 (by kernel_rfl) (by kernel_rfl) ?_
  intro F
  refine go_exec (rs := [.tmp 4]) (by kernel_rfl) 4000 [.z [0, 0, 1] 1 [0, 1, 5]] (o := .stop [.o [0, 0, 1] 1, .c [1, 0, 1], .c [1, 1]] [(0, vP g), (1, vP ba), (5, vP g)] [Ef894e g c cl ep sl wd (.func (.func 128) #[vP g] #[]) sn bk fl cm er, Ebed9f ba A, E632c4 A]) (by kernel_rfl) ?_
  refine ok_stop ?_
  refine go_call (some 6) [0] Tryz.call84 (gDone1 c g cl ep sl wd sn bk fl cm er) (by kernel_rfl) ?_
  rintro v post ⟨rfl, rfl⟩
  refine go_exec (rs := [.tmp 4]) (by kernel_rfl) 4000 [.e 2, .z [0, 1, 0, 1] 5 [0, 11, 12]] (o := .obl (g = g) (.stop [.o [0, 1, 0, 1] 5, .c [1, 1]] [(0, vP g), (11, .func (.func 128) #[vP g] #[]), (12, vP ba)] [Ebed9f ba A, E632c4 A, Ef894e g c cl ep sl wd (.func (.func 128) #[vP g] #[]) sn bk fl cm er])) (by kernel_rfl) ?_
  refine ok_obl rfl ?_
  refine ok_stop ?_
  refine go_call (some 13) [2, 0, 1] Tryz.call128 (gFirstE c g ba cl ep sl wd sn bk fl cm (.func (.func 128) #[vP g] #[]) er A (by first | assumption | omega | (simp only [InK] at *; omega)) (by first | assumption | omega | (simp only [InK] at *; omega)) (by first | assumption | omega | (simp only [InK] at *; omega)) (by first | assumption | omega | (simp only [InK] at *; omega)) (by first | assumption | omega | (simp only [InK] at *; omega)) (by first | assumption | omega | (simp only [InK] at *; omega)) (by first | assumption | omega | (simp only [InK] at *; omega))) (by kernel_rfl) ?_
  rintro v post ⟨rfl, rfl⟩
  refine go_exec (rs := [.tmp 4]) (by kernel_rfl) 4000 [.z [0, 1, 1] 1 [14]] (o := .stop [.o [0, 1, 1] 1, .c [1, 1, 1]] [(14, vP g)] [Ef894e g c cl ep sl wd (.nilFunc) (A.ws.getD wd.toNat 0) 0 fl ((A.load wd).steps) (.iface 46 (vI 20)), Ebed9f ba (A.load wd), E632c4 (A.load wd)]) (by kernel_rfl) ?_
  refine ok_stop ?_
  refine go_call (some 15) [0] Tryz.call84 (gDone0 c g cl ep sl wd (A.ws.getD wd.toNat 0) 0 fl ((A.load wd).steps) (.iface 46 (vI 20))) (by kernel_rfl) ?_
  rintro v post ⟨rfl, rfl⟩
  refine go_exec (rs := [.tmp 4]) (by kernel_rfl) 4000 [] (o := .ret (.bool true) [Ebed9f ba (A.load wd), E632c4 (A.load wd), Ef894e g c cl ep sl wd (.nilFunc) (A.ws.getD wd.toNat 0) 0 fl ((A.load wd).steps) (.iface 46 (vI 20))]) (by kernel_rfl) ?_
  exact ret_ok (post := [Ef894e g c cl ep sl wd (.nilFunc) (A.ws.getD wd.toNat 0) 0 fl ((A.load wd).steps) (.iface 46 (vI 20)), Ebed9f ba (A.load wd), E632c4 (A.load wd)]) [2, 0, 1] (by kernel_rfl) ⟨rfl, (by kernel_rfl)⟩


theorem gStep1N (c : Cfg) (g ba : Nat) (cl ep sl wd sn bk fl cm : Int) (er : Value) (A : Ar) (hn : A.ws.length = A.n) (hs : 0 ≤ A.steps ∧ A.steps ≤ 1000000000) (hwd : 0 ≤ wd ∧ wd < A.n) (hw : U64 (A.ws.getD wd.toNat 0)) (hl : ctlLive (A.ws.getD wd.toNat 0) = true) (he : ctlEpoch (A.ws.getD wd.toNat 0) = ep) (hb : ctlBlock (A.ws.getD wd.toNat 0) ≠ 0) :
    Ctr Tryz.prog 124 #[vP g, vP ba] [Ef894e g c cl ep sl wd (.func (.func 128) #[vP g] #[]) sn bk fl cm er, Ebed9f ba A, E632c4 A] (Ret (.bool false) [Ef894e g c cl ep sl wd (.func (.func 141) #[vP g] #[]) (A.ws.getD wd.toNat 0) (ctlBlock (A.ws.getD wd.toNat 0)) fl ((A.load wd).steps) er, Ebed9f ba (A.load wd), E632c4 (A.load wd)]) := by
  refine ctr_of (args := [vP g, vP ba]) (fn := Tryz.f124) (body := B124) (nt := 16) Tryz.func124 (by kernel_rfl) (by kernel_rfl) ?_
  intro F
  refine go_exec (rs := [.tmp 4]) (by kernel_rfl) 4000 [.z [0, 0, 1] 1 [0, 1, 5]] (o := .stop [.o [0, 0, 1] 1, .c [1, 0, 1], .c [1, 1]] [(0, vP g), (1, vP ba), (5, vP g)] [Ef894e g c cl ep sl wd (.func (.func 128) #[vP g] #[]) sn bk fl cm er, Ebed9f ba A, E632c4 A]) (by kernel_rfl) ?_
  refine ok_stop ?_
  refine go_call (some 6) [0] Tryz.call84 (gDone1 c g cl ep sl wd sn bk fl cm er) (by kernel_rfl) ?_
  rintro v post ⟨rfl, rfl⟩
  refine go_exec (rs := [.tmp 4]) (by kernel_rfl) 4000 [.e 2, .z [0, 1, 0, 1] 5 [0, 11, 12]] (o := .obl (g = g) (.stop [.o [0, 1, 0, 1] 5, .c [1, 1]] [(0, vP g), (11, .func (.func 128) #[vP g] #[]), (12, vP ba)] [Ebed9f ba A, E632c4 A, Ef894e g c cl ep sl wd (.func (.func 128) #[vP g] #[]) sn bk fl cm er])) (by kernel_rfl) ?_
  refine ok_obl rfl ?_
  refine ok_stop ?_
  refine go_call (some 13) [2, 0, 1] Tryz.call128 (gFirstN c g ba cl ep sl wd sn bk fl cm (.func (.func 128) #[vP g] #[]) er A (by first | assumption | omega | (simp only [InK] at *; omega)) (by first | assumption | omega | (simp only [InK] at *; omega)) (by first | assumption | omega | (simp only [InK] at *; omega)) (by first | assumption | omega | (simp only [InK] at *; omega)) (by first | assumption | omega | (simp only [InK] at *; omega)) (by first | assumption | omega | (simp only [InK] at *; omega)) (by first | assumption | omega | (simp only [InK] at *; omega))) (by kernel_rfl) ?_
  rintro v post ⟨rfl, rfl⟩
  refine go_exec (rs := [.tmp 4]) (by kernel_rfl) 4000 [.z [0, 1, 1] 1 [14]] (o := .stop [.o [0, 1, 1] 1, .c [1, 1, 1]] [(14, vP g)] [Ef894e g c cl ep sl wd (.func (.func 141) #[vP g] #[]) (A.ws.getD wd.toNat 0) (ctlBlock (A.ws.getD wd.toNat 0)) fl ((A.load wd).steps) er, Ebed9f ba (A.load wd), E632c4 (A.load wd)]) (by kernel_rfl) ?_
  refine ok_stop ?_
  refine go_call (some 15) [0] Tryz.call84 (gDone2 c g cl ep sl wd (A.ws.getD wd.toNat 0) (ctlBlock (A.ws.getD wd.toNat 0)) fl ((A.load wd).steps) er) (by kernel_rfl) ?_
  rintro v post ⟨rfl, rfl⟩
  refine go_exec (rs := [.tmp 4]) (by kernel_rfl) 4000 [] (o := .ret (.bool false) [Ebed9f ba (A.load wd), E632c4 (A.load wd), Ef894e g c cl ep sl wd (.func (.func 141) #[vP g] #[]) (A.ws.getD wd.toNat 0) (ctlBlock (A.ws.getD wd.toNat 0)) fl ((A.load wd).steps) er]) (by kernel_rfl) ?_
  exact ret_ok (post := [Ef894e g c cl ep sl wd (.func (.func 141) #[vP g] #[]) (A.ws.getD wd.toNat 0) (ctlBlock (A.ws.getD wd.toNat 0)) fl ((A.load wd).steps) er, Ebed9f ba (A.load wd), E632c4 (A.load wd)]) [2, 0, 1] (by kernel_rfl) ⟨rfl, (by kernel_rfl)⟩


theorem gStep2 (c : Cfg) (g ba : Nat) (cl ep sl wd sn bk fl cm : Int) (er : Value) (A : Ar) (hn : A.ws.length = A.n) (hs : 0 ≤ A.steps ∧ A.steps ≤ 1000000000) (hsl : 0 ≤ sl ∧ sl < A.n) (hcl : 0 ≤ cl ∧ cl ≤ 1000) (hbk : 0 ≤ bk ∧ bk ≤ 65535) :
    Ctr Tryz.prog 124 #[vP g, vP ba] [Ef894e g c cl ep sl wd (.func (.func 141) #[vP g] #[]) sn bk fl cm er, Ebed9f ba A, E632c4 A] (Ret (.bool false) [Ef894e g c cl ep sl wd (.func (.func 144) #[vP g] #[]) sn bk fl cm er, Ebed9f ba (A.store sl (markW cl bk)), E632c4 (A.store sl (markW cl bk))]) := by
  refine ctr_of (args := [vP g, vP ba]) (fn := Tryz.f124) (body := B124) (nt := 16) Tryz.func124 (by kernel_rfl) (by kernel_rfl) ?_
  intro F
  refine go_exec (rs := [.tmp 4]) (by kernel_rfl) 4000 [.z [0, 0, 1] 1 [0, 1, 5]] (o := .stop [.o [0, 0, 1] 1, .c [1, 0, 1], .c [1, 1]] [(0, vP g), (1, vP ba), (5, vP g)] [Ef894e g c cl ep sl wd (.func (.func 141) #[vP g] #[]) sn bk fl cm er, Ebed9f ba A, E632c4 A]) (by kernel_rfl) ?_
  refine ok_stop ?_
  refine go_call (some 6) [0] Tryz.call84 (gDone2 c g cl ep sl wd sn bk fl cm er) (by kernel_rfl) ?_
  rintro v post ⟨rfl, rfl⟩
  refine go_exec (rs := [.tmp 4]) (by kernel_rfl) 4000 [.e 2, .z [0, 1, 0, 1] 5 [0, 11, 12]] (o := .obl (g = g) (.stop [.o [0, 1, 0, 1] 5, .c [1, 1]] [(0, vP g), (11, .func (.func 141) #[vP g] #[]), (12, vP ba)] [Ebed9f ba A, E632c4 A, Ef894e g c cl ep sl wd (.func (.func 141) #[vP g] #[]) sn bk fl cm er])) (by kernel_rfl) ?_
  refine ok_obl rfl ?_
  refine ok_stop ?_
  refine go_call (some 13) [2, 0, 1] Tryz.call141 (gSecond c g ba cl ep sl wd sn bk fl cm (.func (.func 141) #[vP g] #[]) er A (by first | assumption | omega | (simp only [InK] at *; omega)) (by first | assumption | omega | (simp only [InK] at *; omega)) (by first | assumption | omega | (simp only [InK] at *; omega)) (by first | assumption | omega | (simp only [InK] at *; omega)) (by first | assumption | omega | (simp only [InK] at *; omega))) (by kernel_rfl) ?_
  rintro v post ⟨rfl, rfl⟩
  refine go_exec (rs := [.tmp 4]) (by kernel_rfl) 4000 [.z [0, 1, 1] 1 [14]] (o := .stop [.o [0, 1, 1] 1, .c [1, 1, 1]] [(14, vP g)] [Ef894e g c cl ep sl wd (.func (.func 144) #[vP g] #[]) sn bk fl cm er, Ebed9f ba (A.store sl (markW cl bk)), E632c4 (A.store sl (markW cl bk))]) (by kernel_rfl) ?_
  refine ok_stop ?_
  refine go_call (some 15) [0] Tryz.call84 (gDone3 c g cl ep sl wd sn bk fl cm er) (by kernel_rfl) ?_
  rintro v post ⟨rfl, rfl⟩
  refine go_exec (rs := [.tmp 4]) (by kernel_rfl) 4000 [] (o := .ret (.bool false) [Ebed9f ba (A.store sl (markW cl bk)), E632c4 (A.store sl (markW cl bk)), Ef894e g c cl ep sl wd (.func (.func 144) #[vP g] #[]) sn bk fl cm er]) (by kernel_rfl) ?_
  exact ret_ok (post := [Ef894e g c cl ep sl wd (.func (.func 144) #[vP g] #[]) sn bk fl cm er, Ebed9f ba (A.store sl (markW cl bk)), E632c4 (A.store sl (markW cl bk))]) [2, 0, 1] (by kernel_rfl) ⟨rfl, (by kernel_rfl)⟩


theorem gStep3K (c : Cfg) (g ba : Nat) (cl ep sl wd sn bk fl cm : Int) (er : Value) (A : Ar) (hn : A.ws.length = A.n) (hs : 0 ≤ A.steps ∧ A.steps ≤ 1000000000) (hwd : 0 ≤ wd ∧ wd < A.n) (hw : U64 (A.ws.getD wd.toNat 0)) (hf0 : 0 ≤ fl ∧ fl ≤ 1000) (hq : (A.ws.getD wd.toNat 0) = sn) :
    Ctr Tryz.prog 124 #[vP g, vP ba] [Ef894e g c cl ep sl wd (.func (.func 144) #[vP g] #[]) sn bk fl cm er, Ebed9f ba A, E632c4 A] (Ret (.bool true) [E9f3a0 g c cl ep sl wd (.nilFunc) sn bk fl ((A.load wd).steps), Ebed9f ba (A.load wd), E632c4 (A.load wd)]) := by
  refine ctr_of (args := [vP g, vP ba]) (fn := Tryz.f124) (body := B124) (nt := 16) Tryz.func124 (by kernel_rfl) (by kernel_rfl) ?_
  intro F
  refine go_exec (rs := [.tmp 4]) (by kernel_rfl) 4000 [.z [0, 0, 1] 1 [0, 1, 5]] (o := .stop [.o [0, 0, 1] 1, .c [1, 0, 1], .c [1, 1]] [(0, vP g), (1, vP ba), (5, vP g)] [Ef894e g c cl ep sl wd (.func (.func 144) #[vP g] #[]) sn bk fl cm er, Ebed9f ba A, E632c4 A]) (by kernel_rfl) ?_
  refine ok_stop ?_
  refine go_call (some 6) [0] Tryz.call84 (gDone3 c g cl ep sl wd sn bk fl cm er) (by kernel_rfl) ?_
  rintro v post ⟨rfl, rfl⟩
  refine go_exec (rs := [.tmp 4]) (by kernel_rfl) 4000 [.e 2, .z [0, 1, 0, 1] 5 [0, 11, 12]] (o := .obl (g = g) (.stop [.o [0, 1, 0, 1] 5, .c [1, 1]] [(0, vP g), (11, .func (.func 144) #[vP g] #[]), (12, vP ba)] [Ebed9f ba A, E632c4 A, Ef894e g c cl ep sl wd (.func (.func 144) #[vP g] #[]) sn bk fl cm er])) (by kernel_rfl) ?_
  refine ok_obl rfl ?_
  refine ok_stop ?_
  refine go_call (some 13) [2, 0, 1] Tryz.call144 (gThirdK c g ba cl ep sl wd sn bk fl cm (.func (.func 144) #[vP g] #[]) er A (by first | assumption | omega | (simp only [InK] at *; omega)) (by first | assumption | omega | (simp only [InK] at *; omega)) (by first | assumption | omega | (simp only [InK] at *; omega)) (by first | assumption | omega | (simp only [InK] at *; omega)) (by first | assumption | omega | (simp only [InK] at *; omega)) (by first | assumption | omega | (simp only [InK] at *; omega))) (by kernel_rfl) ?_
  rintro v post ⟨rfl, rfl⟩
  refine go_exec (rs := [.tmp 4]) (by kernel_rfl) 4000 [.z [0, 1, 1] 1 [14]] (o := .stop [.o [0, 1, 1] 1, .c [1, 1, 1]] [(14, vP g)] [E9f3a0 g c cl ep sl wd (.nilFunc) sn bk fl ((A.load wd).steps), Ebed9f ba (A.load wd), E632c4 (A.load wd)]) (by kernel_rfl) ?_
  refine ok_stop ?_
  refine go_call (some 15) [0] Tryz.call84 (gDone0 c g cl ep sl wd sn bk fl ((A.load wd).steps) (.nilIface)) (by kernel_rfl) ?_
  rintro v post ⟨rfl, rfl⟩
  refine go_exec (rs := [.tmp 4]) (by kernel_rfl) 4000 [] (o := .ret (.bool true) [Ebed9f ba (A.load wd), E632c4 (A.load wd), E9f3a0 g c cl ep sl wd (.nilFunc) sn bk fl ((A.load wd).steps)]) (by kernel_rfl) ?_
  exact ret_ok (post := [E9f3a0 g c cl ep sl wd (.nilFunc) sn bk fl ((A.load wd).steps), Ebed9f ba (A.load wd), E632c4 (A.load wd)]) [2, 0, 1] (by kernel_rfl) ⟨rfl, (by kernel_rfl)⟩


theorem gStep3R (c : Cfg) (g ba : Nat) (cl ep sl wd sn bk fl cm : Int) (er : Value) (A : Ar) (hn : A.ws.length = A.n) (hs : 0 ≤ A.steps ∧ A.steps ≤ 1000000000) (hwd : 0 ≤ wd ∧ wd < A.n) (hw : U64 (A.ws.getD wd.toNat 0)) (hf0 : 0 ≤ fl ∧ fl ≤ 1000) (hq : (A.ws.getD wd.toNat 0) ≠ sn) (hr : fl + 1 = c.retry) :
    Ctr Tryz.prog 124 #[vP g, vP ba] [Ef894e g c cl ep sl wd (.func (.func 144) #[vP g] #[]) sn bk fl cm er, Ebed9f ba A, E632c4 A] (Ret (.bool true) [Ef894e g c cl ep sl wd (.nilFunc) sn 0 (fl + 1) ((A.load wd).steps) (.iface 46 (vI 17)), Ebed9f ba (A.load wd), E632c4 (A.load wd)]) := by
  refine ctr_of (args := [vP g, vP ba]) (fn := Tryz.f124) (body := B124) (nt := 16) Tryz.func124 (by kernel_rfl) (by kernel_rfl) ?_
  intro F
  refine go_exec (rs := [.tmp 4]) (by kernel_rfl) 4000 [.z [0, 0, 1] 1 [0, 1, 5]] (o := .stop [.o [0, 0, 1] 1, .c [1, 0, 1], .c [1, 1]] [(0, vP g), (1, vP ba), (5, vP g)] [Ef894e g c cl ep sl wd (.func (.func 144) #[vP g] #[]) sn bk fl cm er, Ebed9f ba A, E632c4 A]) (by kernel_rfl) ?_
  refine ok_stop ?_
  refine go_call (some 6) [0] Tryz.call84 (gDone3 c g cl ep sl wd sn bk fl cm er) (by kernel_rfl) ?_
  rintro v post ⟨rfl, rfl⟩
  refine go_exec (rs := [.tmp 4]) (by kernel_rfl) 4000 [.e 2, .z [0, 1, 0, 1] 5 [0, 11, 12]] (o := .obl (g = g) (.stop [.o [0, 1, 0, 1] 5, .c [1, 1]] [(0, vP g), (11, .func (.func 144) #[vP g] #[]), (12, vP ba)] [Ebed9f ba A, E632c4 A, Ef894e g c cl ep sl wd (.func (.func 144) #[vP g] #[]) sn bk fl cm er])) (by kernel_rfl) ?_
  refine ok_obl rfl ?_
  refine ok_stop ?_
  refine go_call (some 13) [2, 0, 1] Tryz.call144 (gThirdR c g ba cl ep sl wd sn bk fl cm (.func (.func 144) #[vP g] #[]) er A (by first | assumption | omega | (simp only [InK] at *; omega)) (by first | assumption | omega | (simp only [InK] at *; omega)) (by first | assumption | omega | (simp only [InK] at *; omega)) (by first | assumption | omega | (simp only [InK] at *; omega)) (by first | assumption | omega | (simp only [InK] at *; omega)) (by first | assumption | omega | (simp only [InK] at *; omega)) (by first | assumption | omega | (simp only [InK] at *; omega))) (by kernel_rfl) ?_
  rintro v post ⟨rfl, rfl⟩
  refine go_exec (rs := [.tmp 4]) (by kernel_rfl) 4000 [.z [0, 1, 1] 1 [14]] (o := .stop [.o [0, 1, 1] 1, .c [1, 1, 1]] [(14, vP g)] [Ef894e g c cl ep sl wd (.nilFunc) sn 0 (fl + 1) ((A.load wd).steps) (.iface 46 (vI 17)), Ebed9f ba (A.load wd), E632c4 (A.load wd)]) (by kernel_rfl) ?_
  refine ok_stop ?_
  refine go_call (some 15) [0] Tryz.call84 (gDone0 c g cl ep sl wd sn 0 (fl + 1) ((A.load wd).steps) (.iface 46 (vI 17))) (by kernel_rfl) ?_
  rintro v post ⟨rfl, rfl⟩
  refine go_exec (rs := [.tmp 4]) (by kernel_rfl) 4000 [] (o := .ret (.bool true) [Ebed9f ba (A.load wd), E632c4 (A.load wd), Ef894e g c cl ep sl wd (.nilFunc) sn 0 (fl + 1) ((A.load wd).steps) (.iface 46 (vI 17))]) (by kernel_rfl) ?_
  exact ret_ok (post := [Ef894e g c cl ep sl wd (.nilFunc) sn 0 (fl + 1) ((A.load wd).steps) (.iface 46 (vI 17)), Ebed9f ba (A.load wd), E632c4 (A.load wd)]) [2, 0, 1] (by kernel_rfl) ⟨rfl, (by kernel_rfl)⟩


theorem gStep3D (c : Cfg) (g ba : Nat) (cl ep sl wd sn bk fl cm : Int) (er : Value) (A : Ar) (hn : A.ws.length = A.n) (hs : 0 ≤ A.steps ∧ A.steps ≤ 1000000000) (hwd : 0 ≤ wd ∧ wd < A.n) (hw : U64 (A.ws.getD wd.toNat 0)) (hf0 : 0 ≤ fl ∧ fl ≤ 1000) (hq : (A.ws.getD wd.toNat 0) ≠ sn) (hr : fl + 1 ≠ c.retry) (hl : ctlLive (A.ws.getD wd.toNat 0) = false) :
    Ctr Tryz.prog 124 #[vP g, vP ba] [Ef894e g c cl ep sl wd (.func (.func 144) #[vP g] #[]) sn bk fl cm er, Ebed9f ba A, E632c4 A] (Ret (.bool true) [Ef894e g c cl ep sl wd (.nilFunc) (A.ws.getD wd.toNat 0) 0 (fl + 1) ((A.load wd).steps) (.iface 46 (vI 22)), Ebed9f ba (A.load wd), E632c4 (A.load wd)]) := by
  refine ctr_of (args := [vP g, vP ba]) (fn := Tryz.f124) (body := B124) (nt := 16) Tryz.func124 (by kernel_rfl) (by kernel_rfl) ?_
  intro F
  refine go_exec (rs := [.tmp 4]) (by kernel_rfl) 4000 [.z [0, 0, 1] 1 [0, 1, 5]] (o := .stop [.o [0, 0, 1] 1, .c [1, 0, 1], .c [1, 1]] [(0, vP g), (1, vP ba), (5, vP g)] [Ef894e g c cl ep sl wd (.func (.func 144) #[vP g] #[]) sn bk fl cm er, Ebed9f ba A, E632c4 A]) (by kernel_rfl) ?_
  refine ok_stop ?_
  refine go_call (some 6) [0] Tryz.call84 (gDone3 c g cl ep sl wd sn bk fl cm er) (by kernel_rfl) ?_
  rintro v post ⟨rfl, rfl⟩
  refine go_exec (rs := [.tmp 4]) (by kernel_rfl) 4000 [.e 2, .z [0, 1, 0, 1] 5 [0, 11, 12]] (o := .obl (g = g) (.stop [.o [0, 1, 0, 1] 5, .c [1, 1]] [(0, vP g), (11, .func (.func 144) #[vP g] #[]), (12, vP ba)] [Ebed9f ba A, E632c4 A, Ef894e g c cl ep sl wd (.func (.func 144) #[vP g] #[]) sn bk fl cm er])) (by kernel_rfl) ?_
  refine ok_obl rfl ?_
  refine ok_stop ?_
  refine go_call (some 13) [2, 0, 1] Tryz.call144 (gThirdD c g ba cl ep sl wd sn bk fl cm (.func (.func 144) #[vP g] #[]) er A (by first | assumption | omega | (simp only [InK] at *; omega)) (by first | assumption | omega | (simp only [InK] at *; omega)) (by first | assumption | omega | (simp only [InK] at *; omega)) (by first | assumption | omega | (simp only [InK] at *; omega)) (by first | assumption | omega | (simp only [InK] at *; omega)) (by first | assumption | omega | (simp only [InK] at *; omega)) (by first | assumption | omega | (simp only [InK] at *; omega)) (by first | assumption | omega | (simp only [InK] at *; omega))) (by kernel_rfl) ?_
  rintro v post ⟨rfl, rfl⟩
  refine go_exec (rs := [.tmp 4]) (by kernel_rfl) 4000 [.z [0, 1, 1] 1 [14]] (o := .stop [.o [0, 1, 1] 1, .c [1, 1, 1]] [(14, vP g)] [Ef894e g c cl ep sl wd (.nilFunc) (A.ws.getD wd.toNat 0) 0 (fl + 1) ((A.load wd).steps) (.iface 46 (vI 22)), Ebed9f ba (A.load wd), E632c4 (A.load wd)]) (by kernel_rfl) ?_
  refine ok_stop ?_
  refine go_call (some 15) [0] Tryz.call84 (gDone0 c g cl ep sl wd (A.ws.getD wd.toNat 0) 0 (fl + 1) ((A.load wd).steps) (.iface 46 (vI 22))) (by kernel_rfl) ?_
  rintro v post ⟨rfl, rfl⟩
  refine go_exec (rs := [.tmp 4]) (by kernel_rfl) 4000 [] (o := .ret (.bool true) [Ebed9f ba (A.load wd), E632c4 (A.load wd), Ef894e g c cl ep sl wd (.nilFunc) (A.ws.getD wd.toNat 0) 0 (fl + 1) ((A.load wd).steps) (.iface 46 (vI 22))]) (by kernel_rfl) ?_
  exact ret_ok (post := [Ef894e g c cl ep sl wd (.nilFunc) (A.ws.getD wd.toNat 0) 0 (fl + 1) ((A.load wd).steps) (.iface 46 (vI 22)), Ebed9f ba (A.load wd), E632c4 (A.load wd)]) [2, 0, 1] (by kernel_rfl) ⟨rfl, (by kernel_rfl)⟩


theorem gStep3P (c : Cfg) (g ba : Nat) (cl ep sl wd sn bk fl cm : Int) (er : Value) (A : Ar) (hn : A.ws.length = A.n) (hs : 0 ≤ A.steps ∧ A.steps ≤ 1000000000) (hwd : 0 ≤ wd ∧ wd < A.n) (hw : U64 (A.ws.getD wd.toNat 0)) (hf0 : 0 ≤ fl ∧ fl ≤ 1000) (hq : (A.ws.getD wd.toNat 0) ≠ sn) (hr : fl + 1 ≠ c.retry) (hl : ctlLive (A.ws.getD wd.toNat 0) = true) (he : ctlEpoch (A.ws.getD wd.toNat 0) ≠ ep) :
    Ctr Tryz.prog 124 #[vP g, vP ba] [Ef894e g c cl ep sl wd (.func (.func 144) #[vP g] #[]) sn bk fl cm er, Ebed9f ba A, E632c4 A] (Ret (.bool true) [Ef894e g c cl ep sl wd (.nilFunc) (A.ws.getD wd.toNat 0) 0 (fl + 1) ((A.load wd).steps) (.iface 46 (vI 22)), Ebed9f ba (A.load wd), E632c4 (A.load wd)]) := by
  refine ctr_of (args := [vP g, vP ba]) (fn := Tryz.f124) (body := B124) (nt := 16) Tryz.func124 (by kernel_rfl) (by kernel_rfl) ?_
  intro F
  refine go_exec (rs := [.tmp 4]) (by kernel_rfl) 4000 [.z [0, 0, 1] 1 [0, 1, 5]] (o := .stop [.o [0, 0, 1] 1, .c [1, 0, 1], .c [1, 1]] [(0, vP g), (1, vP ba), (5, vP g)] [Ef894e g c cl ep sl wd (.func (.func 144) #[vP g] #[]) sn bk fl cm er, Ebed9f ba A, E632c4 A]) (by kernel_rfl) ?_
  refine ok_stop ?_
  refine go_call (some 6) [0] Tryz.call84 (gDone3 c g cl ep sl wd sn bk fl cm er) (by kernel_rfl) ?_
  rintro v post ⟨rfl, rfl⟩
  refine go_exec (rs := [.tmp 4]) (by kernel_rfl) 4000 [.e 2, .z [0, 1, 0, 1] 5 [0, 11, 12]] (o := .obl (g = g) (.stop [.o [0, 1, 0, 1] 5, .c [1, 1]] [(0, vP g), (11, .func (.func 144) #[vP g] #[]), (12, vP ba)] [Ebed9f ba A, E632c4 A, Ef894e g c cl ep sl wd (.func (.func 144) #[vP g] #[]) sn bk fl cm er])) (by kernel_rfl) ?_
  refine ok_obl rfl ?_
  refine ok_stop ?_
  refine go_call (some 13) [2, 0, 1] Tryz.call144 (gThirdP c g ba cl ep sl wd sn bk fl cm (.func (.func 144) #[vP g] #[]) er A (by first | assumption | omega | (simp only [InK] at *; omega)) (by first | assumption | omega | (simp only [InK] at *; omega)) (by first | assumption | omega | (simp only [InK] at *; omega)) (by first | assumption | omega | (simp only [InK] at *; omega)) (by first | assumption | omega | (simp only [InK] at *; omega)) (by first | assumption | omega | (simp only [InK] at *; omega)) (by first | assumption | omega | (simp only [InK] at *; omega)) (by first | assumption | omega | (simp only [InK] at *; omega)) (by first | assumption | omega | (simp only [InK] at *; omega))) (by kernel_rfl) ?_
  rintro v post ⟨rfl, rfl⟩
  refine go_exec (rs := [.tmp 4]) (by kernel_rfl) 4000 [.z [0, 1, 1] 1 [14]] (o := .stop [.o [0, 1, 1] 1, .c [1, 1, 1]] [(14, vP g)] [Ef894e g c cl ep sl wd (.nilFunc) (A.ws.getD wd.toNat 0) 0 (fl + 1) ((A.load wd).steps) (.iface 46 (vI 22)), Ebed9f ba (A.load wd), E632c4 (A.load wd)]) (by kernel_rfl) ?_
  refine ok_stop ?_
  refine go_call (some 15) [0] Tryz.call84 (gDone0 c g cl ep sl wd (A.ws.getD wd.toNat 0) 0 (fl + 1) ((A.load wd).steps) (.iface 46 (vI 22))) (by kernel_rfl) ?_
  rintro v post ⟨rfl, rfl⟩
  refine go_exec (rs := [.tmp 4]) (by kernel_rfl) 4000 [] (o := .ret (.bool true) [Ebed9f ba (A.load wd), E632c4 (A.load wd), Ef894e g c cl ep sl wd (.nilFunc) (A.ws.getD wd.toNat 0) 0 (fl + 1) ((A.load wd).steps) (.iface 46 (vI 22))]) (by kernel_rfl) ?_
  exact ret_ok (post := [Ef894e g c cl ep sl wd (.nilFunc) (A.ws.getD wd.toNat 0) 0 (fl + 1) ((A.load wd).steps) (.iface 46 (vI 22)), Ebed9f ba (A.load wd), E632c4 (A.load wd)]) [2, 0, 1] (by kernel_rfl) ⟨rfl, (by kernel_rfl)⟩


theorem gStep3E (c : Cfg) (g ba : Nat) (cl ep sl wd sn bk fl cm : Int) (er : Value) (A : Ar) (hn : A.ws.length = A.n) (hs : 0 ≤ A.steps ∧ A.steps ≤ 1000000000) (hwd : 0 ≤ wd ∧ wd < A.n) (hw : U64 (A.ws.getD wd.toNat 0)) (hf0 : 0 ≤ fl ∧ fl ≤ 1000) (hq : (A.ws.getD wd.toNat 0) ≠ sn) (hr : fl + 1 ≠ c.retry) (hl : ctlLive (A.ws.getD wd.toNat 0) = true) (he : ctlEpoch (A.ws.getD wd.toNat 0) = ep) (hb : ctlBlock (A.ws.getD wd.toNat 0) = 0) :
    Ctr Tryz.prog 124 #[vP g, vP ba] [Ef894e g c cl ep sl wd (.func (.func 144) #[vP g] #[]) sn bk fl cm er, Ebed9f ba A, E632c4 A] (Ret (.bool true) [Ef894e g c cl ep sl wd (.nilFunc) (A.ws.getD wd.toNat 0) 0 (fl + 1) ((A.load wd).steps) (.iface 46 (vI 20)), Ebed9f ba (A.load wd), E632c4 (A.load wd)]) := by
  refine ctr_of (args := [vP g, vP ba]) (fn := Tryz.f124) (body := B124) (nt := 16) Tryz.func124 (by kernel_rfl) (by kernel_rfl) ?_
  intro F
  refine go_exec (rs := [.tmp 4]) (by kernel_rfl) 4000 [.z [0, 0, 1] 1 [0, 1, 5]] (o := .stop [.o [0, 0, 1] 1, .c [1, 0, 1], .c [1, 1]] [(0, vP g), (1, vP ba), (5, vP g)] [Ef894e g c cl ep sl wd (.func (.func 144) #[vP g] #[]) sn bk fl cm er, Ebed9f ba A, E632c4 A]) (by kernel_rfl) ?_
  refine ok_stop ?_
  refine go_call (some 6) [0] Tryz.call84 (gDone3 c g cl ep sl wd sn bk fl cm er) (by kernel_rfl) ?_
  rintro v post ⟨rfl, rfl⟩
  refine go_exec (rs := [.tmp 4]) (by kernel_rfl) 4000 [.e 2, .z [0, 1, 0, 1] 5 [0, 11, 12]] (o := .obl (g = g) (.stop [.o [0, 1, 0, 1] 5, .c [1, 1]] [(0, vP g), (11, .func (.func 144) #[vP g] #[]), (12, vP ba)] [Ebed9f ba A, E632c4 A, Ef894e g c cl ep sl wd (.func (.func 144) #[vP g] #[]) sn bk fl cm er])) (by kernel_rfl) ?_
  refine ok_obl rfl ?_
  refine ok_stop ?_
  refine go_call (some 13) [2, 0, 1] Tryz.call144 (gThirdE c g ba cl ep sl wd sn bk fl cm (.func (.func 144) #[vP g] #[]) er A (by first | assumption | omega | (simp only [InK] at *; omega)) (by first | assumption | omega | (simp only [InK] at *; omega)) (by first | assumption | omega | (simp only [InK] at *; omega)) (by first | assumption | omega | (simp only [InK] at *; omega)) (by first | assumption | omega | (simp only [InK] at *; omega)) (by first | assumption | omega | (simp only [InK] at *; omega)) (by first | assumption | omega | (simp only [InK] at *; omega)) (by first | assumption | omega | (simp only [InK] at *; omega)) (by first | assumption | omega | (simp only [InK] at *; omega)) (by first | assumption | omega | (simp only [InK] at *; omega))) (by kernel_rfl) ?_
  rintro v post ⟨rfl, rfl⟩
  refine go_exec (rs := [.tmp 4]) (by kernel_rfl) 4000 [.z [0, 1, 1] 1 [14]] (o := .stop [.o [0, 1, 1] 1, .c [1, 1, 1]] [(14, vP g)] [Ef894e g c cl ep sl wd (.nilFunc) (A.ws.getD wd.toNat 0) 0 (fl + 1) ((A.load wd).steps) (.iface 46 (vI 20)), Ebed9f ba (A.load wd), E632c4 (A.load wd)]) (by kernel_rfl) ?_
  refine ok_stop ?_
  refine go_call (some 15) [0] Tryz.call84 (gDone0 c g cl ep sl wd (A.ws.getD wd.toNat 0) 0 (fl + 1) ((A.load wd).steps) (.iface 46 (vI 20))) (by kernel_rfl) ?_
  rintro v post ⟨rfl, rfl⟩
  refine go_exec (rs := [.tmp 4]) (by kernel_rfl) 4000 [] (o := .ret (.bool true) [Ebed9f ba (A.load wd), E632c4 (A.load wd), Ef894e g c cl ep sl wd (.nilFunc) (A.ws.getD wd.toNat 0) 0 (fl + 1) ((A.load wd).steps) (.iface 46 (vI 20))]) (by kernel_rfl) ?_
  exact ret_ok (post := [Ef894e g c cl ep sl wd (.nilFunc) (A.ws.getD wd.toNat 0) 0 (fl + 1) ((A.load wd).steps) (.iface 46 (vI 20)), Ebed9f ba (A.load wd), E632c4 (A.load wd)]) [2, 0, 1] (by kernel_rfl) ⟨rfl, (by kernel_rfl)⟩


theorem gStep3N (c : Cfg) (g ba : Nat) (cl ep sl wd sn bk fl cm : Int) (er : Value) (A : Ar) (hn : A.ws.length = A.n) (hs : 0 ≤ A.steps ∧ A.steps ≤ 1000000000) (hwd : 0 ≤ wd ∧ wd < A.n) (hw : U64 (A.ws.getD wd.toNat 0)) (hf0 : 0 ≤ fl ∧ fl ≤ 1000) (hq : (A.ws.getD wd.toNat 0) ≠ sn) (hr : fl + 1 ≠ c.retry) (hl : ctlLive (A.ws.getD wd.toNat 0) = true) (he : ctlEpoch (A.ws.getD wd.toNat 0) = ep) (hb : ctlBlock (A.ws.getD wd.toNat 0) ≠ 0) :
    Ctr Tryz.prog 124 #[vP g, vP ba] [Ef894e g c cl ep sl wd (.func (.func 144) #[vP g] #[]) sn bk fl cm er, Ebed9f ba A, E632c4 A] (Ret (.bool false) [Ef894e g c cl ep sl wd (.func (.func 141) #[vP g] #[]) (A.ws.getD wd.toNat 0) (ctlBlock (A.ws.getD wd.toNat 0)) (fl + 1) ((A.load wd).steps) er, Ebed9f ba (A.load wd), E632c4 (A.load wd)]) := by
  refine ctr_of (args := [vP g, vP ba]) (fn := Tryz.f124) (body := B124) (nt := 16) Tryz.func124 (by kernel_rfl) (by kernel_rfl) ?_
  intro F
  refine go_exec (rs := [.tmp 4]) (by kernel_rfl) 4000 [.z [0, 0, 1] 1 [0, 1, 5]] (o := .stop [.o [0, 0, 1] 1, .c [1, 0, 1], .c [1, 1]] [(0, vP g), (1, vP ba), (5, vP g)] [Ef894e g c cl ep sl wd (.func (.func 144) #[vP g] #[]) sn bk fl cm er, Ebed9f ba A, E632c4 A]) (by kernel_rfl) ?_
  refine ok_stop ?_
  refine go_call (some 6) [0] Tryz.call84 (gDone3 c g cl ep sl wd sn bk fl cm er) (by kernel_rfl) ?_
  rintro v post ⟨rfl, rfl⟩
  refine go_exec (rs := [.tmp 4]) (by kernel_rfl) 4000 [.e 2, .z [0, 1, 0, 1] 5 [0, 11, 12]] (o := .obl (g = g) (.stop [.o [0, 1, 0, 1] 5, .c [1, 1]] [(0, vP g), (11, .func (.func 144) #[vP g] #[]), (12, vP ba)] [Ebed9f ba A, E632c4 A, Ef894e g c cl ep sl wd (.func (.func 144) #[vP g] #[]) sn bk fl cm er])) (by kernel_rfl) ?_
  refine ok_obl rfl ?_
  refine ok_stop ?_
  refine go_call (some 13) [2, 0, 1] Tryz.call144 (gThirdN c g ba cl ep sl wd sn bk fl cm (.func (.func 144) #[vP g] #[]) er A (by first | assumption | omega | (simp only [InK] at *; omega)) (by first | assumption | omega | (simp only [InK] at *; omega)) (by first | assumption | omega | (simp only [InK] at *; omega)) (by first | assumption | omega | (simp only [InK] at *; omega)) (by first | assumption | omega | (simp only [InK] at *; omega)) (by first | assumption | omega | (simp only [InK] at *; omega)) (by first | assumption | omega | (simp only [InK] at *; omega)) (by first | assumption | omega | (simp only [InK] at *; omega)) (by first | assumption | omega | (simp only [InK] at *; omega)) (by first | assumption | omega | (simp only [InK] at *; omega))) (by kernel_rfl) ?_
  rintro v post ⟨rfl, rfl⟩
  refine go_exec (rs := [.tmp 4]) (by kernel_rfl) 4000 [.z [0, 1, 1] 1 [14]] (o := .stop [.o [0, 1, 1] 1, .c [1, 1, 1]] [(14, vP g)] [Ef894e g c cl ep sl wd (.func (.func 141) #[vP g] #[]) (A.ws.getD wd.toNat 0) (ctlBlock (A.ws.getD wd.toNat 0)) (fl + 1) ((A.load wd).steps) er, Ebed9f ba (A.load wd), E632c4 (A.load wd)]) (by kernel_rfl) ?_
  refine ok_stop ?_
  refine go_call (some 15) [0] Tryz.call84 (gDone2 c g cl ep sl wd (A.ws.getD wd.toNat 0) (ctlBlock (A.ws.getD wd.toNat 0)) (fl + 1) ((A.load wd).steps) er) (by kernel_rfl) ?_
  rintro v post ⟨rfl, rfl⟩
  refine go_exec (rs := [.tmp 4]) (by kernel_rfl) 4000 [] (o := .ret (.bool false) [Ebed9f ba (A.load wd), E632c4 (A.load wd), Ef894e g c cl ep sl wd (.func (.func 141) #[vP g] #[]) (A.ws.getD wd.toNat 0) (ctlBlock (A.ws.getD wd.toNat 0)) (fl + 1) ((A.load wd).steps) er]) (by kernel_rfl) ?_
  exact ret_ok (post := [Ef894e g c cl ep sl wd (.func (.func 141) #[vP g] #[]) (A.ws.getD wd.toNat 0) (ctlBlock (A.ws.getD wd.toNat 0)) (fl + 1) ((A.load wd).steps) er, Ebed9f ba (A.load wd), E632c4 (A.load wd)]) [2, 0, 1] (by kernel_rfl) ⟨rfl, (by kernel_rfl)⟩

end Go.Proofs.YtiiepkjckmdmkaaGreatDoor


namespace Go.Proofs.YtiiepkjckmdmkaaGreatDoor
open Go.Sx
noncomputable abbrev E6f719 (x0 : Nat) (c1 : Cfg) (g2 : Gu) (x3 : Nat) : Ent := .pts x0 [.int .i64 c1.topics, .int .i64 c1.small, .int .i64 c1.slots, .int .i64 c1.clients, .int .i64 c1.s0, .int .i64 c1.n0, .int .i64 c1.s1, .int .i64 c1.n1, .int .i64 c1.retry, .int .i64 g2.client, .int .i64 g2.epoch, .int .i64 g2.slot, .int .i64 g2.word, (nxG x3 g2.ph), .int .u64 g2.seen, .int .i64 g2.block, .int .i64 g2.failed, .int .i64 g2.commit, (errV g2.code)] 153
abbrev q32_0 : List Nat := [0, 0, 1, 1, 1, 0, 0, 1]
abbrev q32_1 : List Nat := [1, 0, 1, 1, 1, 0, 0, 1]

theorem guard_Step (c : Cfg) (g ba : Nat) (G : Gu) (A : Ar) (hc : c.Ok) (hn : A.ws.length = A.n) (hs : 0 ≤ A.steps ∧ A.steps ≤ 1000000000) (hR : RngW A.ws) (hG : Gu.Ok c A.n G) :
    Ctr Tryz.prog 124 #[vP g, vP ba] [E6f719 g c G g, Ebed9f ba A, E632c4 A] (Ret (.bool ((G.step c.retry A).1.ph == 0)) [E6f719 g c ((G.step c.retry A).1) g, Ebed9f ba ((G.step c.retry A).2), E632c4 ((G.step c.retry A).2)]) := by
  obtain ⟨cl, ep, sl, wd, sn, bk, fl, cm, cd, ph⟩ := G
  obtain ⟨hph, hsl, hwd, hcl, hbk, hf0, _⟩ := hG
  simp only at hph hsl hwd hcl hbk hf0
  have hc' := hc
  simp only [Cfg.Ok] at hc'
  have hw : U64 (A.ws.getD wd.toNat 0) := hR _
  match ph, hph with
  | 0, _ => exact gStep0 c g ba cl ep sl wd sn bk fl cm (errV cd) A
  | 1, _ =>
    by_cases hl : ctlLive (A.ws.getD wd.toNat 0) = true
    · by_cases he : ctlEpoch (A.ws.getD wd.toNat 0) = ep
      · by_cases hb : ctlBlock (A.ws.getD wd.toNat 0) = 0
        · have e : Gu.step c.retry (⟨cl, ep, sl, wd, sn, bk, fl, cm, cd, 1⟩ : Gu) A = ((⟨cl, ep, sl, wd, (A.ws.getD wd.toNat 0), 0, fl, (A.load wd).steps, 20, 0⟩ : Gu), A.load wd) := by
            show (Gu.look _ _, _) = _
            rw [Gu.look_E _ hl he hb]
          rw [e]; exact gStep1E c g ba cl ep sl wd sn bk fl cm (errV cd) A hn hs hwd hw hl he hb
        · have e : Gu.step c.retry (⟨cl, ep, sl, wd, sn, bk, fl, cm, cd, 1⟩ : Gu) A = ((⟨cl, ep, sl, wd, (A.ws.getD wd.toNat 0), (ctlBlock (A.ws.getD wd.toNat 0)), fl, (A.load wd).steps, cd, 2⟩ : Gu), A.load wd) := by
            show (Gu.look _ _, _) = _
            rw [Gu.look_N _ hl he hb]
          rw [e]; exact gStep1N c g ba cl ep sl wd sn bk fl cm (errV cd) A hn hs hwd hw hl he hb
      · have e : Gu.step c.retry (⟨cl, ep, sl, wd, sn, bk, fl, cm, cd, 1⟩ : Gu) A = ((⟨cl, ep, sl, wd, (A.ws.getD wd.toNat 0), 0, fl, (A.load wd).steps, 22, 0⟩ : Gu), A.load wd) := by
          show (Gu.look _ _, _) = _
          rw [Gu.look_P _ he]
        rw [e]; exact gStep1P c g ba cl ep sl wd sn bk fl cm (errV cd) A hn hs hwd hw hl he
    · have hl := (Bool.not_eq_true _).mp hl
      have e : Gu.step c.retry (⟨cl, ep, sl, wd, sn, bk, fl, cm, cd, 1⟩ : Gu) A = ((⟨cl, ep, sl, wd, (A.ws.getD wd.toNat 0), 0, fl, (A.load wd).steps, 22, 0⟩ : Gu), A.load wd) := by
        show (Gu.look _ _, _) = _
        rw [Gu.look_D _ hl]
      rw [e]; exact gStep1D c g ba cl ep sl wd sn bk fl cm (errV cd) A hn hs hwd hw hl
  | 2, _ => exact gStep2 c g ba cl ep sl wd sn bk fl cm (errV cd) A hn hs hsl (by omega) hbk
  | 3, _ =>
    by_cases hq : (A.ws.getD wd.toNat 0) = sn
    · have e : Gu.step c.retry (⟨cl, ep, sl, wd, sn, bk, fl, cm, cd, 3⟩ : Gu) A = ((⟨cl, ep, sl, wd, sn, bk, fl, (A.load wd).steps, 0, 0⟩ : Gu), A.load wd) := by
        show (if _ then _ else _) = _
        rw [if_pos hq]
      rw [e]; exact gStep3K c g ba cl ep sl wd sn bk fl cm (errV cd) A hn hs hwd hw hf0 hq
    · by_cases hr : fl + 1 = c.retry
      · have e : Gu.step c.retry (⟨cl, ep, sl, wd, sn, bk, fl, cm, cd, 3⟩ : Gu) A = ((⟨cl, ep, sl, wd, sn, 0, (fl + 1), (A.load wd).steps, 17, 0⟩ : Gu), A.load wd) := by
          show (if _ then _ else _) = _
          rw [if_neg hq, if_pos hr]
        rw [e]; exact gStep3R c g ba cl ep sl wd sn bk fl cm (errV cd) A hn hs hwd hw hf0 hq hr
      · by_cases hl : ctlLive (A.ws.getD wd.toNat 0) = true
        · by_cases he : ctlEpoch (A.ws.getD wd.toNat 0) = ep
          · by_cases hb : ctlBlock (A.ws.getD wd.toNat 0) = 0
            · have e : Gu.step c.retry (⟨cl, ep, sl, wd, sn, bk, fl, cm, cd, 3⟩ : Gu) A = ((⟨cl, ep, sl, wd, (A.ws.getD wd.toNat 0), 0, (fl + 1), (A.load wd).steps, 20, 0⟩ : Gu), A.load wd) := by
                show (if _ then _ else _) = _
                rw [if_neg hq, if_neg hr, Gu.look_E _ hl he hb]
              rw [e]; exact gStep3E c g ba cl ep sl wd sn bk fl cm (errV cd) A hn hs hwd hw hf0 hq hr hl he hb
            · have e : Gu.step c.retry (⟨cl, ep, sl, wd, sn, bk, fl, cm, cd, 3⟩ : Gu) A = ((⟨cl, ep, sl, wd, (A.ws.getD wd.toNat 0), (ctlBlock (A.ws.getD wd.toNat 0)), (fl + 1), (A.load wd).steps, cd, 2⟩ : Gu), A.load wd) := by
                show (if _ then _ else _) = _
                rw [if_neg hq, if_neg hr, Gu.look_N _ hl he hb]
              rw [e]; exact gStep3N c g ba cl ep sl wd sn bk fl cm (errV cd) A hn hs hwd hw hf0 hq hr hl he hb
          · have e : Gu.step c.retry (⟨cl, ep, sl, wd, sn, bk, fl, cm, cd, 3⟩ : Gu) A = ((⟨cl, ep, sl, wd, (A.ws.getD wd.toNat 0), 0, (fl + 1), (A.load wd).steps, 22, 0⟩ : Gu), A.load wd) := by
              show (if _ then _ else _) = _
              rw [if_neg hq, if_neg hr, Gu.look_P _ he]
            rw [e]; exact gStep3P c g ba cl ep sl wd sn bk fl cm (errV cd) A hn hs hwd hw hf0 hq hr hl he
        · have hl := (Bool.not_eq_true _).mp hl
          have e : Gu.step c.retry (⟨cl, ep, sl, wd, sn, bk, fl, cm, cd, 3⟩ : Gu) A = ((⟨cl, ep, sl, wd, (A.ws.getD wd.toNat 0), 0, (fl + 1), (A.load wd).steps, 22, 0⟩ : Gu), A.load wd) := by
            show (if _ then _ else _) = _
            rw [if_neg hq, if_neg hr, Gu.look_D _ hl]
          rw [e]; exact gStep3D c g ba cl ep sl wd sn bk fl cm (errV cd) A hn hs hwd hw hf0 hq hr hl
  | n + 4, h => omega


noncomputable def B125 : Code := (Tryz.f125.body).getD .skip

theorem gTold0 (c : Cfg) (g : Nat) (cl ep sl wd sn bk fl cm : Int) (er : Value)  :
    Ctr Tryz.prog 125 #[vP g] [Ef894e g c cl ep sl wd (.nilFunc) sn bk fl cm er] (Ret (.tuple #[vI bk, er]) [Ef894e g c cl ep sl wd (.nilFunc) sn bk fl cm er]) := by
  refine ctr_of (args := [vP g]) (fn := Tryz.f125) (body := B125) (nt := 21) Tryz.func125 (by kernel_rfl) (by kernel_rfl) ?_
  intro F
  refine go_exec (rs := [.tmp 2, .tmp 3]) (by kernel_rfl) 4000 [.z [0, 1, 1, 0, 0, 1] 1 [0, 9]] (o := .stop [.o [0, 1, 1, 0, 0, 1] 1, .c [1, 1, 1, 0, 0, 1], .b 0, .c [1, 1]] [(0, vP g), (9, vP g)] [Ef894e g c cl ep sl wd (.nilFunc) sn bk fl cm er]) (by kernel_rfl) ?_
  refine ok_stop ?_
  refine go_call (some 10) [0] Tryz.call84 (gDone0 c g cl ep sl wd sn bk fl cm er) (by kernel_rfl) ?_
  rintro v post ⟨rfl, rfl⟩
  refine go_exec (rs := [.tmp 2, .tmp 3]) (by kernel_rfl) 4000 [.z [0, 1, 1] 0 [0]] (o := .stop [.c [0, 1, 1], .c [1, 1, 1]] [(0, vP g)] [Ef894e g c cl ep sl wd (.nilFunc) sn bk fl cm er]) (by kernel_rfl) ?_
  refine ok_stop ?_
  refine go_quiet (tm' := [(2, vI bk), (3, er)]) (ps := [g = g, g = g]) (cs := []) [(0, .h .w), (1, .h .w), (2, .h .w), (3, .h (.e 0)), (4, .h .w), (5, .h .w), (6, .h .w), (7, .h (.e 0)), (8, .h .w), (9, .h .w)] [2, 3] (by kernel_rfl) (by kernel_rfl) ⟨rfl, rfl, trivial⟩ trivial ?_
  refine go_exec (rs := [.tmp 2, .tmp 3]) (by kernel_rfl) 4000 [] (o := .ret (.tuple #[vI bk, er]) [Ef894e g c cl ep sl wd (.nilFunc) sn bk fl cm er]) (by kernel_rfl) ?_
  exact ret_ok (post := [Ef894e g c cl ep sl wd (.nilFunc) sn bk fl cm er]) [0] (by kernel_rfl) ⟨rfl, (by kernel_rfl)⟩


theorem gTold1 (c : Cfg) (g : Nat) (cl ep sl wd sn bk fl cm : Int) (er : Value)  :
    Ctr Tryz.prog 125 #[vP g] [Ef894e g c cl ep sl wd (.func (.func 128) #[vP g] #[]) sn bk fl cm er] (Ret (.tuple #[vI 0, .iface 46 (vI 13)]) [Ef894e g c cl ep sl wd (.func (.func 128) #[vP g] #[]) sn bk fl cm er]) := by
  refine ctr_of (args := [vP g]) (fn := Tryz.f125) (body := B125) (nt := 21) Tryz.func125 (by kernel_rfl) (by kernel_rfl) ?_
  intro F
  refine go_exec (rs := [.tmp 2, .tmp 3]) (by kernel_rfl) 4000 [.z [0, 1, 1, 0, 0, 1] 1 [0, 9]] (o := .stop [.o [0, 1, 1, 0, 0, 1] 1, .c [1, 1, 1, 0, 0, 1], .b 0, .c [1, 1]] [(0, vP g), (9, vP g)] [Ef894e g c cl ep sl wd (.func (.func 128) #[vP g] #[]) sn bk fl cm er]) (by kernel_rfl) ?_
  refine ok_stop ?_
  refine go_call (some 10) [0] Tryz.call84 (gDone1 c g cl ep sl wd sn bk fl cm er) (by kernel_rfl) ?_
  rintro v post ⟨rfl, rfl⟩
  refine go_exec (rs := [.tmp 2, .tmp 3]) (by kernel_rfl) 4000 [.z q32_0 0 []] (o := .stop [.o q32_0 0, .c q32_1, .b 0, .c [1, 1]] [] [Ef894e g c cl ep sl wd (.func (.func 128) #[vP g] #[]) sn bk fl cm er]) (by kernel_rfl) ?_
  refine ok_stop ?_
  refine go_call (some 12) [] Tryz.call36 (cause_NewE 13 (by decide)) (by kernel_rfl) ?_
  rintro v post ⟨rfl, rfl⟩
  refine go_exec (rs := [.tmp 2, .tmp 3]) (by kernel_rfl) 4000 [] (o := .ret (.tuple #[vI 0, .iface 46 (vI 13)]) [Ef894e g c cl ep sl wd (.func (.func 128) #[vP g] #[]) sn bk fl cm er]) (by kernel_rfl) ?_
  exact ret_ok (post := [Ef894e g c cl ep sl wd (.func (.func 128) #[vP g] #[]) sn bk fl cm er]) [0] (by kernel_rfl) ⟨rfl, (by kernel_rfl)⟩


theorem gTold2 (c : Cfg) (g : Nat) (cl ep sl wd sn bk fl cm : Int) (er : Value)  :
    Ctr Tryz.prog 125 #[vP g] [Ef894e g c cl ep sl wd (.func (.func 141) #[vP g] #[]) sn bk fl cm er] (Ret (.tuple #[vI 0, .iface 46 (vI 13)]) [Ef894e g c cl ep sl wd (.func (.func 141) #[vP g] #[]) sn bk fl cm er]) := by
  refine ctr_of (args := [vP g]) (fn := Tryz.f125) (body := B125) (nt := 21) Tryz.func125 (by kernel_rfl) (by kernel_rfl) ?_
  intro F
  refine go_exec (rs := [.tmp 2, .tmp 3]) (by kernel_rfl) 4000 [.z [0, 1, 1, 0, 0, 1] 1 [0, 9]] (o := .stop [.o [0, 1, 1, 0, 0, 1] 1, .c [1, 1, 1, 0, 0, 1], .b 0, .c [1, 1]] [(0, vP g), (9, vP g)] [Ef894e g c cl ep sl wd (.func (.func 141) #[vP g] #[]) sn bk fl cm er]) (by kernel_rfl) ?_
  refine ok_stop ?_
  refine go_call (some 10) [0] Tryz.call84 (gDone2 c g cl ep sl wd sn bk fl cm er) (by kernel_rfl) ?_
  rintro v post ⟨rfl, rfl⟩
  refine go_exec (rs := [.tmp 2, .tmp 3]) (by kernel_rfl) 4000 [.z q32_0 0 []] (o := .stop [.o q32_0 0, .c q32_1, .b 0, .c [1, 1]] [] [Ef894e g c cl ep sl wd (.func (.func 141) #[vP g] #[]) sn bk fl cm er]) (by kernel_rfl) ?_
  refine ok_stop ?_
  refine go_call (some 12) [] Tryz.call36 (cause_NewE 13 (by decide)) (by kernel_rfl) ?_
  rintro v post ⟨rfl, rfl⟩
  refine go_exec (rs := [.tmp 2, .tmp 3]) (by kernel_rfl) 4000 [] (o := .ret (.tuple #[vI 0, .iface 46 (vI 13)]) [Ef894e g c cl ep sl wd (.func (.func 141) #[vP g] #[]) sn bk fl cm er]) (by kernel_rfl) ?_
  exact ret_ok (post := [Ef894e g c cl ep sl wd (.func (.func 141) #[vP g] #[]) sn bk fl cm er]) [0] (by kernel_rfl) ⟨rfl, (by kernel_rfl)⟩


theorem gTold3 (c : Cfg) (g : Nat) (cl ep sl wd sn bk fl cm : Int) (er : Value)  :
    Ctr Tryz.prog 125 #[vP g] [Ef894e g c cl ep sl wd (.func (.func 144) #[vP g] #[]) sn bk fl cm er] (Ret (.tuple #[vI 0, .iface 46 (vI 13)]) [Ef894e g c cl ep sl wd (.func (.func 144) #[vP g] #[]) sn bk fl cm er]) := by
  refine ctr_of (args := [vP g]) (fn := Tryz.f125) (body := B125) (nt := 21) Tryz.func125 (by kernel_rfl) (by kernel_rfl) ?_
  intro F
  refine go_exec (rs := [.tmp 2, .tmp 3]) (by kernel_rfl) 4000 [.z [0, 1, 1, 0, 0, 1] 1 [0, 9]] (o := .stop [.o [0, 1, 1, 0, 0, 1] 1, .c [1, 1, 1, 0, 0, 1], .b 0, .c [1, 1]] [(0, vP g), (9, vP g)] [Ef894e g c cl ep sl wd (.func (.func 144) #[vP g] #[]) sn bk fl cm er]) (by kernel_rfl) ?_
  refine ok_stop ?_
  refine go_call (some 10) [0] Tryz.call84 (gDone3 c g cl ep sl wd sn bk fl cm er) (by kernel_rfl) ?_
  rintro v post ⟨rfl, rfl⟩
  refine go_exec (rs := [.tmp 2, .tmp 3]) (by kernel_rfl) 4000 [.z q32_0 0 []] (o := .stop [.o q32_0 0, .c q32_1, .b 0, .c [1, 1]] [] [Ef894e g c cl ep sl wd (.func (.func 144) #[vP g] #[]) sn bk fl cm er]) (by kernel_rfl) ?_
  refine ok_stop ?_
  refine go_call (some 12) [] Tryz.call36 (cause_NewE 13 (by decide)) (by kernel_rfl) ?_
  rintro v post ⟨rfl, rfl⟩
  refine go_exec (rs := [.tmp 2, .tmp 3]) (by kernel_rfl) 4000 [] (o := .ret (.tuple #[vI 0, .iface 46 (vI 13)]) [Ef894e g c cl ep sl wd (.func (.func 144) #[vP g] #[]) sn bk fl cm er]) (by kernel_rfl) ?_
  exact ret_ok (post := [Ef894e g c cl ep sl wd (.func (.func 144) #[vP g] #[]) sn bk fl cm er]) [0] (by kernel_rfl) ⟨rfl, (by kernel_rfl)⟩


theorem guard_Told (c : Cfg) (g : Nat) (G : Gu) (hph : G.ph ≤ 3) :
    Ctr Tryz.prog 125 #[vP g] [E6f719 g c G g] (Ret (.tuple #[vI ((Gu.told G).1), (errV (Gu.told G).2)]) [E6f719 g c G g]) := by
  obtain ⟨cl, ep, sl, wd, sn, bk, fl, cm, cd, ph⟩ := G
  simp only at hph
  match ph, hph with
  | 0, _ => exact gTold0 c g cl ep sl wd sn bk fl cm (errV cd)
  | 1, _ => exact gTold1 c g cl ep sl wd sn bk fl cm (errV cd)
  | 2, _ => exact gTold2 c g cl ep sl wd sn bk fl cm (errV cd)
  | 3, _ => exact gTold3 c g cl ep sl wd sn bk fl cm (errV cd)
  | n + 4, h => omega

noncomputable def B39 : Code := (Tryz.f39.body).getD .skip

theorem gCommit0 (c : Cfg) (g : Nat) (cl ep sl wd sn bk fl cm : Int) (er : Value)  :
    Ctr Tryz.prog 39 #[vP g] [Ef894e g c cl ep sl wd (.nilFunc) sn bk fl cm er] (Ret (vI cm) [Ef894e g c cl ep sl wd (.nilFunc) sn bk fl cm er]) := by
  refine ctr_of (args := [vP g]) (fn := Tryz.f39) (body := B39) (nt := 14) Tryz.func39 (by kernel_rfl) (by kernel_rfl) ?_
  intro F
  refine go_exec (rs := [.tmp 2]) (by kernel_rfl) 4000 [.z [0, 0, 1] 4 [0, 5, 6]] (o := .stop [.o [0, 0, 1] 4, .c [1, 0, 1], .c [1, 1]] [(0, vP g), (5, .bool false), (6, vP g)] [Ef894e g c cl ep sl wd (.nilFunc) sn bk fl cm er]) (by kernel_rfl) ?_
  refine ok_stop ?_
  refine go_call (some 7) [0] Tryz.call84 (gDone0 c g cl ep sl wd sn bk fl cm er) (by kernel_rfl) ?_
  rintro v post ⟨rfl, rfl⟩
  refine go_exec (rs := [.tmp 2]) (by kernel_rfl) 4000 [.e 0] (o := .obl (g = g) (.ret (vI cm) [Ef894e g c cl ep sl wd (.nilFunc) sn bk fl cm er])) (by kernel_rfl) ?_
  refine ok_obl rfl ?_
  exact ret_ok (post := [Ef894e g c cl ep sl wd (.nilFunc) sn bk fl cm er]) [0] (by kernel_rfl) ⟨rfl, (by kernel_rfl)⟩


theorem gCommit1 (c : Cfg) (g : Nat) (cl ep sl wd sn bk fl cm : Int) (er : Value)  :
    Ctr Tryz.prog 39 #[vP g] [Ef894e g c cl ep sl wd (.func (.func 128) #[vP g] #[]) sn bk fl cm er] (Ret (vI 0) [Ef894e g c cl ep sl wd (.func (.func 128) #[vP g] #[]) sn bk fl cm er]) := by
  refine ctr_of (args := [vP g]) (fn := Tryz.f39) (body := B39) (nt := 14) Tryz.func39 (by kernel_rfl) (by kernel_rfl) ?_
  intro F
  refine go_exec (rs := [.tmp 2]) (by kernel_rfl) 4000 [.z [0, 0, 1] 4 [0, 5, 6]] (o := .stop [.o [0, 0, 1] 4, .c [1, 0, 1], .c [1, 1]] [(0, vP g), (5, .bool false), (6, vP g)] [Ef894e g c cl ep sl wd (.func (.func 128) #[vP g] #[]) sn bk fl cm er]) (by kernel_rfl) ?_
  refine ok_stop ?_
  refine go_call (some 7) [0] Tryz.call84 (gDone1 c g cl ep sl wd sn bk fl cm er) (by kernel_rfl) ?_
  rintro v post ⟨rfl, rfl⟩
  refine go_exec (rs := [.tmp 2]) (by kernel_rfl) 4000 [] (o := .ret (vI 0) [Ef894e g c cl ep sl wd (.func (.func 128) #[vP g] #[]) sn bk fl cm er]) (by kernel_rfl) ?_
  exact ret_ok (post := [Ef894e g c cl ep sl wd (.func (.func 128) #[vP g] #[]) sn bk fl cm er]) [0] (by kernel_rfl) ⟨rfl, (by kernel_rfl)⟩


theorem gCommit2 (c : Cfg) (g : Nat) (cl ep sl wd sn bk fl cm : Int) (er : Value)  :
    Ctr Tryz.prog 39 #[vP g] [Ef894e g c cl ep sl wd (.func (.func 141) #[vP g] #[]) sn bk fl cm er] (Ret (vI 0) [Ef894e g c cl ep sl wd (.func (.func 141) #[vP g] #[]) sn bk fl cm er]) := by
  refine ctr_of (args := [vP g]) (fn := Tryz.f39) (body := B39) (nt := 14) Tryz.func39 (by kernel_rfl) (by kernel_rfl) ?_
  intro F
  refine go_exec (rs := [.tmp 2]) (by kernel_rfl) 4000 [.z [0, 0, 1] 4 [0, 5, 6]] (o := .stop [.o [0, 0, 1] 4, .c [1, 0, 1], .c [1, 1]] [(0, vP g), (5, .bool false), (6, vP g)] [Ef894e g c cl ep sl wd (.func (.func 141) #[vP g] #[]) sn bk fl cm er]) (by kernel_rfl) ?_
  refine ok_stop ?_
  refine go_call (some 7) [0] Tryz.call84 (gDone2 c g cl ep sl wd sn bk fl cm er) (by kernel_rfl) ?_
  rintro v post ⟨rfl, rfl⟩
  refine go_exec (rs := [.tmp 2]) (by kernel_rfl) 4000 [] (o := .ret (vI 0) [Ef894e g c cl ep sl wd (.func (.func 141) #[vP g] #[]) sn bk fl cm er]) (by kernel_rfl) ?_
  exact ret_ok (post := [Ef894e g c cl ep sl wd (.func (.func 141) #[vP g] #[]) sn bk fl cm er]) [0] (by kernel_rfl) ⟨rfl, (by kernel_rfl)⟩


theorem gCommit3 (c : Cfg) (g : Nat) (cl ep sl wd sn bk fl cm : Int) (er : Value)  :
    Ctr Tryz.prog 39 #[vP g] [Ef894e g c cl ep sl wd (.func (.func 144) #[vP g] #[]) sn bk fl cm er] (Ret (vI 0) [Ef894e g c cl ep sl wd (.func (.func 144) #[vP g] #[]) sn bk fl cm er]) := by
  refine ctr_of (args := [vP g]) (fn := Tryz.f39) (body := B39) (nt := 14) Tryz.func39 (by kernel_rfl) (by kernel_rfl) ?_
  intro F
  refine go_exec (rs := [.tmp 2]) (by kernel_rfl) 4000 [.z [0, 0, 1] 4 [0, 5, 6]] (o := .stop [.o [0, 0, 1] 4, .c [1, 0, 1], .c [1, 1]] [(0, vP g), (5, .bool false), (6, vP g)] [Ef894e g c cl ep sl wd (.func (.func 144) #[vP g] #[]) sn bk fl cm er]) (by kernel_rfl) ?_
  refine ok_stop ?_
  refine go_call (some 7) [0] Tryz.call84 (gDone3 c g cl ep sl wd sn bk fl cm er) (by kernel_rfl) ?_
  rintro v post ⟨rfl, rfl⟩
  refine go_exec (rs := [.tmp 2]) (by kernel_rfl) 4000 [] (o := .ret (vI 0) [Ef894e g c cl ep sl wd (.func (.func 144) #[vP g] #[]) sn bk fl cm er]) (by kernel_rfl) ?_
  exact ret_ok (post := [Ef894e g c cl ep sl wd (.func (.func 144) #[vP g] #[]) sn bk fl cm er]) [0] (by kernel_rfl) ⟨rfl, (by kernel_rfl)⟩


theorem gCommit_nil   :
    Ctr Tryz.prog 39 #[.pointer none] [] (Ret (vI 0) []) := by
  refine ctr_of (args := [.pointer none]) (fn := Tryz.f39) (body := B39) (nt := 14) Tryz.func39 (by kernel_rfl) (by kernel_rfl) ?_
  intro F
  refine go_exec (rs := [.tmp 2]) (by kernel_rfl) 4000 [] (o := .ret (vI 0) []) (by kernel_rfl) ?_
  exact ret_ok (post := []) [] (by kernel_rfl) ⟨rfl, (by kernel_rfl)⟩


theorem guard_Commit (c : Cfg) (g : Nat) (G : Gu) (hph : G.ph ≤ 3) :
    Ctr Tryz.prog 39 #[vP g] [E6f719 g c G g] (Ret (vI (Gu.comm G)) [E6f719 g c G g]) := by
  obtain ⟨cl, ep, sl, wd, sn, bk, fl, cm, cd, ph⟩ := G
  simp only at hph
  match ph, hph with
  | 0, _ => exact gCommit0 c g cl ep sl wd sn bk fl cm (errV cd)
  | 1, _ => exact gCommit1 c g cl ep sl wd sn bk fl cm (errV cd)
  | 2, _ => exact gCommit2 c g cl ep sl wd sn bk fl cm (errV cd)
  | 3, _ => exact gCommit3 c g cl ep sl wd sn bk fl cm (errV cd)
  | n + 4, h => omega

noncomputable def B94 : Code := (Tryz.f94.body).getD .skip

theorem guard_New (c : Cfg) (cl sl tp ep : Int) (hc : c.Ok) (hcl : 0 ≤ cl ∧ cl < c.clients) (hsl : 0 ≤ sl ∧ sl < c.slots) (htp : 0 ≤ tp ∧ tp < c.topics) :
    Ctr Tryz.prog 94 #[cfgV c, vI cl, vI sl, vI tp, vI ep] [] (fun v L => ∃ (g : Nat), v = vP g ∧ L = [E6f719 g c (newGu c cl sl tp ep) g]) := by
  refine ctr_of (args := [cfgV c, vI cl, vI sl, vI tp, vI ep]) (fn := Tryz.f94) (body := B94) (nt := 46) Tryz.func94 (by kernel_rfl) (by kernel_rfl) ?_
  intro F
  refine go_exec (rs := [.tmp 10]) (by kernel_rfl) 4000 [.z [0, 1] 0 [1, 2, 3, 4, 5]] (o := .new fun b_1 => .stop [.c [0, 1], .c [1, 1]] [(1, vI cl), (2, vI sl), (3, vI tp), (4, vI ep), (5, vP b_1)] [Efdc04 b_1 c]) (by kernel_rfl) ?_
  refine ok_new fun b_1 => ?_
  refine ok_stop ?_
  refine go_tail_op (so := .new fun b_2 => .ok (.value (vP b_2)) [Efdc04 b_1 c, E9f3a0 b_2 c cl ep (slotAt c sl) (ctlAt c tp) (.nilFunc) 0 0 0 0]) (dst := (some 22)) (ps := [b_1 = b_1, b_1 = b_1, b_1 = b_1]) (cs := [(24, #[cfgV c, vI sl], vI (slotAt c sl)), (21, #[cfgV c, vI tp], vI (ctlAt c tp))]) [(0, .h (.e 0)), (1, .h .w), (2, .h .w), (3, .h (.e 0)), (4, .h .w), (5, .q (vI (slotAt c sl))), (6, .h (.e 0)), (7, .h .w), (8, .q (vI (ctlAt c tp))), (9, .h .w)] 10 [(11, .h .w)] .w [1, 5, 11] (by kernel_rfl) (by kernel_rfl) ⟨rfl, rfl, rfl, trivial⟩ ⟨⟨Tryz.call24, quiet_of [] (plan_Slot c sl (by first | assumption | omega | (simp only [InK] at *; omega))) (by kernel_rfl) (by rintro v post ⟨rfl, rfl⟩; exact ⟨rfl, rfl⟩)⟩, ⟨Tryz.call21, quiet_of [] (plan_Control c tp (by first | assumption | omega | (simp only [InK] at *; omega))) (by kernel_rfl) (by rintro v post ⟨rfl, rfl⟩; exact ⟨rfl, rfl⟩)⟩, trivial⟩ ?_
  refine sat_new fun b_2 => ?_
  refine sat_value ?_
  refine tail_next (tm' := [(1, vI cl), (5, vP b_1), (11, vP b_2)]) (ps2 := []) (by kernel_rfl) trivial ?_
  refine go_exec (rs := [.tmp 10]) (by kernel_rfl) 4000 [.z [0, 0, 1, 1] 0 [1, 5, 11]] (o := .stop [.c [0, 0, 1, 1], .c [1, 0, 1, 1], .c [1, 1, 1]] [(1, vI cl), (5, vP b_1), (11, vP b_2)] [Efdc04 b_1 c, E9f3a0 b_2 c cl ep (slotAt c sl) (ctlAt c tp) (.nilFunc) 0 0 0 0]) (by kernel_rfl) ?_
  refine ok_stop ?_
  refine go_quiet (tm' := [(11, vP b_2), (39, .bool false)]) (ps := [b_2 = b_2, b_2 = b_2, (decide ((bMin (bMin (slotAt c sl) (ctlAt c tp)) cl) < 0)) = false, b_1 = b_1, (decide (cl ≥ c.clients)) = false]) (cs := []) [(0, .h .w), (1, .h .w), (2, .h .w), (3, .h (.e 1)), (4, .h .w), (5, .h .w), (6, .h .w), (7, .h (.e 1)), (8, .h .w), (9, .h .w), (10, .h (.t false)), (11, .h .w), (12, .h .w), (13, .h .w), (14, .h (.e 0)), (15, .h (.t false)), (16, .h .w)] [11, 39] (by kernel_rfl) (by kernel_rfl) ⟨rfl, rfl, (decide_eq_false (by have h1 := ctlAt_pos hc htp; have h2 := slotAt_ok hc hsl; unfold bMin; (repeat' split) <;> omega)), rfl, (decide_eq_false (by omega)), trivial⟩ trivial ?_
  refine go_exec (rs := [.tmp 10]) (by kernel_rfl) 4000 [.e 1] (o := .obl (b_2 = b_2) (.ret (vP b_2) [Efdc04 b_1 c, E9f3a0 b_2 c cl ep (slotAt c sl) (ctlAt c tp) (.func (.func 128) #[vP b_2] #[]) 0 0 0 0])) (by kernel_rfl) ?_
  refine ok_obl rfl ?_
  exact ret_ok (post := [E9f3a0 b_2 c cl ep (slotAt c sl) (ctlAt c tp) (.func (.func 128) #[vP b_2] #[]) 0 0 0 0]) [1] (by kernel_rfl) ⟨b_2, rfl, (by kernel_rfl)⟩

end Go.Proofs.YtiiepkjckmdmkaaGreatDoor


namespace Go.Proofs.YtiiepkjckmdmkaaGreatDoor
open Go.Sx
abbrev Eba1f9 (x0 : Nat) (c1 : Cfg) (x2 : Int) (x3 : Int) (x4 : Int) (x5 : Int) (x6 : Int) (x7 : Int) (x8 : Int) (x9 : Int) (x10 : Int) (x11 : Int) : Ent := .pts x0 [.int .i64 c1.topics, .int .i64 c1.small, .int .i64 c1.slots, .int .i64 c1.clients, .int .i64 c1.s0, .int .i64 c1.n0, .int .i64 c1.s1, .int .i64 c1.n1, .int .i64 c1.retry, .int .i64 x2, .int .i64 x3, .int .i64 x4, .int .i64 x5, .int .i64 x6, .int .i64 x7, .int .i64 x8, .int .i64 x9, .int .u64 x10, .int .i64 x11] 138
abbrev E2fa0d (x0 : Nat) (c1 : Cfg) (g2 : Gu) (x3 : Int) (x4 : Int) : Ent := .pts x0 [.int .i64 c1.topics, .int .i64 c1.small, .int .i64 c1.slots, .int .i64 c1.clients, .int .i64 c1.s0, .int .i64 c1.n0, .int .i64 c1.s1, .int .i64 c1.n1, .int .i64 c1.retry, .int .i64 g2.client, .int .i64 x3, .int .i64 x4, .int .i64 g2.epoch, .int .i64 ((g2.ph : Nat) : Int), .int .i64 g2.failed, .int .i64 g2.block, .int .i64 g2.commit, .int .u64 g2.seen, .int .i64 g2.code] 138
abbrev q36_0 : List Nat := [0, 1, 1, 1, 1, 1, 1, 1]
abbrev q36_1 : List Nat := [0, 0, 1, 0, 1, 0, 1]
abbrev q36_2 : List Nat := [1, 0, 1, 0, 1, 0, 1]
abbrev q36_3 : List Nat := [1, 1, 0, 1, 0, 1, 0, 1]
abbrev q36_4 : List Nat := [0, 0, 1, 1, 1, 0, 1, 0, 1]
abbrev q36_5 : List Nat := [0, 0, 1, 1, 1, 1, 1, 0, 1, 0, 1]
abbrev q36_6 : List Nat := [1, 0, 1, 1, 1, 1, 1, 0, 1, 0, 1]
abbrev q36_7 : List Nat := [0, 0, 1, 0, 1, 1, 0, 1, 1, 1, 1, 1, 0, 1, 0, 1]
abbrev q36_8 : List Nat := [0, 1, 1, 1, 1, 0, 1, 1, 1, 1, 1, 0, 1, 0, 1]
abbrev q36_9 : List Nat := [1, 1, 1, 1, 1, 0, 1, 1, 1, 1, 1, 0, 1, 0, 1]
abbrev q36_10 : List Nat := [0, 1, 1, 1, 1, 1, 0, 1, 1, 1, 1, 1, 0, 1, 0, 1]
abbrev q36_11 : List Nat := [1, 1, 1, 1, 1, 1, 0, 1, 1, 1, 1, 1, 0, 1, 0, 1]
abbrev q36_12 : List Nat := [0, 1, 0, 1, 1, 1, 1, 1]
abbrev q36_13 : List Nat := [0, 1, 0, 1, 1, 1, 1, 1, 1]
abbrev q36_14 : List Nat := [1, 1, 1, 1, 1, 1, 1]
abbrev q36_15 : List Nat := [0, 0, 0, 0, 1, 0, 1, 1, 1, 1, 1, 1]
abbrev q36_16 : List Nat := [1, 0, 0, 0, 1, 0, 1, 1, 1, 1, 1, 1]
abbrev q36_17 : List Nat := [1, 0, 0, 1, 0, 1, 1, 1, 1, 1, 1]
abbrev q36_18 : List Nat := [0, 0, 0, 1, 0, 0, 1, 0, 1, 1, 1, 1, 1, 1]
abbrev q36_19 : List Nat := [0, 1, 0, 1, 1, 1, 1, 1, 1, 1]
abbrev q36_20 : List Nat := [1, 0, 0, 1, 0, 0, 1, 0, 1, 1, 1, 1, 1, 1]
abbrev q36_21 : List Nat := [1, 1, 0, 0, 1, 0, 1, 1, 1, 1, 1, 1]
abbrev q36_22 : List Nat := [1, 1, 1, 1, 1, 1, 1, 1]
abbrev q36_23 : List Nat := [0, 1, 0, 0, 1, 0, 0, 1, 0, 1, 1, 1, 1, 1, 1]
noncomputable def B29 : Code := (Tryz.f29.body).getD .skip

theorem ref_Control (c : Cfg) (i : Int) (hc : c.Ok) (hi : 0 ≤ i ∧ i < c.topics) :
    Ctr Tryz.prog 29 #[cfgV c, vI i] [] (Ret (vI (ctlAt c i)) []) := by
  refine ctr_of (args := [cfgV c, vI i]) (fn := Tryz.f29) (body := B29) (nt := 26) Tryz.func29 (by kernel_rfl) (by kernel_rfl) ?_
  intro F
  refine go_exec (rs := [.tmp 4]) (by kernel_rfl) 4000 [.sp [7, 6] [.dead] [.e 0, .sp [12, 11] [.dead] [.e 0, .n, .e 0, .n, .e 0, .n, .n, .n, .n]]] (o := .new fun b_1 => .obl ((decide (i < 0)) = (decide (i < 0))) (.br (decide (i < 0)) (.bad) (.obl (b_1 = b_1) (.obl ((decide (i ≥ c.topics)) = (decide (i ≥ c.topics))) (.br (decide (i ≥ c.topics)) (.bad) (.obl (b_1 = b_1) (.obl (InK .i64 (5 + c.slots)) (.obl (b_1 = b_1) (.obl (InK .i64 ((5 + c.slots) + c.topics)) (.obl (b_1 = b_1) (.obl (InK .i64 (2 * c.small)) (.obl (InK .i64 (1 + (2 * c.small))) (.obl (InK .i64 (i * (1 + (2 * c.small)))) (.obl (InK .i64 (((5 + c.slots) + c.topics) + (i * (1 + (2 * c.small))))) (.ret (vI (((5 + c.slots) + c.topics) + (i * (1 + (2 * c.small))))) [Efdc04 b_1 c]))))))))))))))) (by kernel_rfl) ?_
  refine ok_new fun b_1 => ?_
  refine ok_obl rfl ?_
  refine ok_br (fun h => absurd (show (decide (i < 0)) = false from (by first | (simp; done) | (simp; omega))) (by rw [h]; simp)) (fun _ => ?_)
  refine ok_obl rfl ?_
  refine ok_obl rfl ?_
  refine ok_br (fun h => absurd (show (decide (i ≥ c.topics)) = false from (by first | (simp; done) | (simp; omega))) (by rw [h]; simp)) (fun _ => ?_)
  refine ok_obl rfl ?_
  refine ok_obl (by have hnl := ctl_nl hc hi; simp only [Cfg.Ok, InK] at *; omega) ?_
  refine ok_obl rfl ?_
  refine ok_obl (by have hnl := ctl_nl hc hi; simp only [Cfg.Ok, InK] at *; omega) ?_
  refine ok_obl rfl ?_
  refine ok_obl (by have hnl := ctl_nl hc hi; simp only [Cfg.Ok, InK] at *; omega) ?_
  refine ok_obl (by have hnl := ctl_nl hc hi; simp only [Cfg.Ok, InK] at *; omega) ?_
  refine ok_obl (by have hnl := ctl_nl hc hi; simp only [Cfg.Ok, InK] at *; omega) ?_
  refine ok_obl (by have hnl := ctl_nl hc hi; simp only [Cfg.Ok, InK] at *; omega) ?_
  exact ret_ok (post := []) [] (by kernel_rfl) ⟨(congrArg (Value.int .i64) (by unfold ctlAt; rw [if_pos hi])), (by kernel_rfl)⟩

noncomputable def B109 : Code := (Tryz.f109.body).getD .skip

theorem r14End0 (c : Cfg) (g : Nat) (cl ep sl tp sn bk fl cm cd : Int) (at_ : Int)  :
    Ctr Tryz.prog 109 #[vP g, vI 0] [Eba1f9 g c cl sl tp ep at_ fl bk cm sn cd] (Ret (undef) [Eba1f9 g c cl sl tp ep 0 fl bk cm sn 0]) := by
  refine ctr_of (args := [vP g, vI 0]) (fn := Tryz.f109) (body := B109) (nt := 16) Tryz.func109 (by kernel_rfl) (by kernel_rfl) ?_
  intro F
  refine go_exec (rs := []) (by kernel_rfl) 4000 [.e 0, .e 0] (o := .obl (g = g) (.obl (g = g) (.ret (undef) [Eba1f9 g c cl sl tp ep 0 fl bk cm sn 0]))) (by kernel_rfl) ?_
  refine ok_obl rfl ?_
  refine ok_obl rfl ?_
  exact ret_ok (post := [Eba1f9 g c cl sl tp ep 0 fl bk cm sn 0]) [0] (by kernel_rfl) ⟨rfl, (by kernel_rfl)⟩


theorem r14EndE (c : Cfg) (g : Nat) (cl ep sl tp sn bk fl cm cd : Int) (at_ k_ : Int) (hk : k_ ≠ 0) :
    Ctr Tryz.prog 109 #[vP g, vI k_] [Eba1f9 g c cl sl tp ep at_ fl bk cm sn cd] (Ret (undef) [Eba1f9 g c cl sl tp ep 0 fl 0 cm sn k_]) := by
  refine ctr_of (args := [vP g, vI k_]) (fn := Tryz.f109) (body := B109) (nt := 16) Tryz.func109 (by kernel_rfl) (by kernel_rfl) ?_
  intro F
  refine go_exec (rs := []) (by kernel_rfl) 4000 [.e 0, .e 0, .sp [12] [.e 0] [.dead]] (o := .obl (g = g) (.obl (g = g) (.br (k_ != 0) (.obl (g = g) (.ret (undef) [Eba1f9 g c cl sl tp ep 0 fl 0 cm sn k_])) (.bad)))) (by kernel_rfl) ?_
  refine ok_obl rfl ?_
  refine ok_obl rfl ?_
  refine ok_br (fun _ => ?_) (fun h => absurd (show (k_ != 0) = true from (bne_iff_ne.2 hk)) (by rw [h]; simp))
  refine ok_obl rfl ?_
  exact ret_ok (post := [Eba1f9 g c cl sl tp ep 0 fl 0 cm sn k_]) [0] (by kernel_rfl) ⟨rfl, (by kernel_rfl)⟩

noncomputable def B108 : Code := (Tryz.f108.body).getD .skip

theorem r14LookD (c : Cfg) (g : Nat) (cl ep sl tp sn bk fl cm cd : Int) (at_ w_ : Int) (hw : U64 w_) (hl : ctlLive w_ = false) :
    Ctr Tryz.prog 108 #[vP g, vU w_] [Eba1f9 g c cl sl tp ep at_ fl bk cm sn cd] (Ret (undef) [Eba1f9 g c cl sl tp ep 0 fl 0 cm w_ 22]) := by
  refine ctr_of (args := [vP g, vU w_]) (fn := Tryz.f108) (body := B108) (nt := 38) Tryz.func108 (by kernel_rfl) (by kernel_rfl) ?_
  intro F
  refine go_exec (rs := []) (by kernel_rfl) 4000 [.z [0] 1 [0, 1, 5]] (o := .stop [.o [0] 1, .c [1]] [(0, vP g), (1, vU w_), (5, vU w_)] [Eba1f9 g c cl sl tp ep at_ fl bk cm sn cd]) (by kernel_rfl) ?_
  refine ok_stop ?_
  refine go_call (some 6) [] Tryz.call132 (r13_Unpack w_ (by first | assumption | omega | (simp only [InK] at *; omega))) (by kernel_rfl) ?_
  rintro v post ⟨rfl, rfl⟩
  refine go_exec (rs := []) (by kernel_rfl) 4000 [.e 1, .e 0, .e 1, .e 0, .e 0, .z [0, 1, 1, 1, 1] 0 [0, 4]] (o := .new fun b_2 => .obl (b_2 = b_2) (.obl (g = g) (.obl (b_2 = b_2) (.obl (g = g) (.obl (g = g) (.stop [.c [0, 1, 1, 1, 1], .c [1, 1, 1, 1, 1]] [(0, vP g), (4, vP b_2)] [Eba1f9 g c cl sl tp ep 2 fl (ctlBlock w_) cm w_ cd, E4ea3a b_2 (ctlEpoch w_) (ctlGen w_) (ctlBlock w_) (ctlLive w_) (ctlBusy w_)])))))) (by kernel_rfl) ?_
  refine ok_new fun b_2 => ?_
  refine ok_obl rfl ?_
  refine ok_obl rfl ?_
  refine ok_obl rfl ?_
  refine ok_obl rfl ?_
  refine ok_obl rfl ?_
  refine ok_stop ?_
  refine go_quiet (tm' := [(0, vP g), (4, vP b_2), (30, .bool true)]) (ps := [b_2 = b_2, (!(ctlLive w_)) = true]) (cs := []) [(0, .h .w), (1, .h (.e 1)), (2, .h (.t true)), (3, .h .w), (4, .h .w), (5, .h .w), (6, .h .w), (7, .h .w), (8, .h .w), (9, .h .w), (10, .h .w), (11, .h .w)] [0, 4, 30] (by kernel_rfl) (by kernel_rfl) ⟨rfl, (by simp [hl]), trivial⟩ trivial ?_
  refine go_exec (rs := []) (by kernel_rfl) 4000 [.z [0, 1, 1, 1, 1, 1] 1 [31]] (o := .stop [.o [0, 1, 1, 1, 1, 1] 1] [(31, vP g)] [Eba1f9 g c cl sl tp ep 2 fl (ctlBlock w_) cm w_ cd, E4ea3a b_2 (ctlEpoch w_) (ctlGen w_) (ctlBlock w_) (ctlLive w_) (ctlBusy w_)]) (by kernel_rfl) ?_
  refine ok_stop ?_
  refine go_call (some 32) [0] Tryz.call109 (r14EndE c g cl ep sl tp w_ (ctlBlock w_) fl cm cd 2 22 (by decide)) (by kernel_rfl) ?_
  rintro v post ⟨rfl, rfl⟩
  refine go_exec (rs := []) (by kernel_rfl) 4000 [] (o := .ret (undef) [E4ea3a b_2 (ctlEpoch w_) (ctlGen w_) (ctlBlock w_) (ctlLive w_) (ctlBusy w_), Eba1f9 g c cl sl tp ep 0 fl 0 cm w_ 22]) (by kernel_rfl) ?_
  exact ret_ok (post := [Eba1f9 g c cl sl tp ep 0 fl 0 cm w_ 22]) [1] (by kernel_rfl) ⟨rfl, (by kernel_rfl)⟩


theorem r14LookP (c : Cfg) (g : Nat) (cl ep sl tp sn bk fl cm cd : Int) (at_ w_ : Int) (hw : U64 w_) (hl : ctlLive w_ = true) (he : ctlEpoch w_ ≠ ep) :
    Ctr Tryz.prog 108 #[vP g, vU w_] [Eba1f9 g c cl sl tp ep at_ fl bk cm sn cd] (Ret (undef) [Eba1f9 g c cl sl tp ep 0 fl 0 cm w_ 22]) := by
  refine ctr_of (args := [vP g, vU w_]) (fn := Tryz.f108) (body := B108) (nt := 38) Tryz.func108 (by kernel_rfl) (by kernel_rfl) ?_
  intro F
  refine go_exec (rs := []) (by kernel_rfl) 4000 [.z [0] 1 [0, 1, 5]] (o := .stop [.o [0] 1, .c [1]] [(0, vP g), (1, vU w_), (5, vU w_)] [Eba1f9 g c cl sl tp ep at_ fl bk cm sn cd]) (by kernel_rfl) ?_
  refine ok_stop ?_
  refine go_call (some 6) [] Tryz.call132 (r13_Unpack w_ (by first | assumption | omega | (simp only [InK] at *; omega))) (by kernel_rfl) ?_
  rintro v post ⟨rfl, rfl⟩
  refine go_exec (rs := []) (by kernel_rfl) 4000 [.e 1, .e 0, .e 1, .e 0, .e 0, .z [0, 1, 1, 1, 1] 0 [0, 4]] (o := .new fun b_2 => .obl (b_2 = b_2) (.obl (g = g) (.obl (b_2 = b_2) (.obl (g = g) (.obl (g = g) (.stop [.c [0, 1, 1, 1, 1], .c [1, 1, 1, 1, 1]] [(0, vP g), (4, vP b_2)] [Eba1f9 g c cl sl tp ep 2 fl (ctlBlock w_) cm w_ cd, E4ea3a b_2 (ctlEpoch w_) (ctlGen w_) (ctlBlock w_) (ctlLive w_) (ctlBusy w_)])))))) (by kernel_rfl) ?_
  refine ok_new fun b_2 => ?_
  refine ok_obl rfl ?_
  refine ok_obl rfl ?_
  refine ok_obl rfl ?_
  refine ok_obl rfl ?_
  refine ok_obl rfl ?_
  refine ok_stop ?_
  refine go_quiet (tm' := [(0, vP g), (4, vP b_2), (30, .bool true)]) (ps := [b_2 = b_2, (!(ctlLive w_)) = false, b_2 = b_2, g = g, ((ctlEpoch w_) != ep) = true]) (cs := []) [(0, .h .w), (1, .h (.e 1)), (2, .h (.t false)), (3, .h .w), (4, .h .w), (5, .h (.e 1)), (6, .h .w), (7, .h .w), (8, .h .w), (9, .h (.e 0)), (10, .h (.t true)), (11, .h .w)] [0, 4, 30] (by kernel_rfl) (by kernel_rfl) ⟨rfl, (by simp [hl]), rfl, rfl, (bne_iff_ne.2 he), trivial⟩ trivial ?_
  refine go_exec (rs := []) (by kernel_rfl) 4000 [.z [0, 1, 1, 1, 1, 1] 1 [31]] (o := .stop [.o [0, 1, 1, 1, 1, 1] 1] [(31, vP g)] [Eba1f9 g c cl sl tp ep 2 fl (ctlBlock w_) cm w_ cd, E4ea3a b_2 (ctlEpoch w_) (ctlGen w_) (ctlBlock w_) (ctlLive w_) (ctlBusy w_)]) (by kernel_rfl) ?_
  refine ok_stop ?_
  refine go_call (some 32) [0] Tryz.call109 (r14EndE c g cl ep sl tp w_ (ctlBlock w_) fl cm cd 2 22 (by decide)) (by kernel_rfl) ?_
  rintro v post ⟨rfl, rfl⟩
  refine go_exec (rs := []) (by kernel_rfl) 4000 [] (o := .ret (undef) [E4ea3a b_2 (ctlEpoch w_) (ctlGen w_) (ctlBlock w_) (ctlLive w_) (ctlBusy w_), Eba1f9 g c cl sl tp ep 0 fl 0 cm w_ 22]) (by kernel_rfl) ?_
  exact ret_ok (post := [Eba1f9 g c cl sl tp ep 0 fl 0 cm w_ 22]) [1] (by kernel_rfl) ⟨rfl, (by kernel_rfl)⟩


theorem r14LookE (c : Cfg) (g : Nat) (cl ep sl tp sn bk fl cm cd : Int) (at_ w_ : Int) (hw : U64 w_) (hl : ctlLive w_ = true) (he : ctlEpoch w_ = ep) (hb : ctlBlock w_ = 0) :
    Ctr Tryz.prog 108 #[vP g, vU w_] [Eba1f9 g c cl sl tp ep at_ fl bk cm sn cd] (Ret (undef) [Eba1f9 g c cl sl tp ep 0 fl 0 cm w_ 20]) := by
  refine ctr_of (args := [vP g, vU w_]) (fn := Tryz.f108) (body := B108) (nt := 38) Tryz.func108 (by kernel_rfl) (by kernel_rfl) ?_
  intro F
  refine go_exec (rs := []) (by kernel_rfl) 4000 [.z [0] 1 [0, 1, 5]] (o := .stop [.o [0] 1, .c [1]] [(0, vP g), (1, vU w_), (5, vU w_)] [Eba1f9 g c cl sl tp ep at_ fl bk cm sn cd]) (by kernel_rfl) ?_
  refine ok_stop ?_
  refine go_call (some 6) [] Tryz.call132 (r13_Unpack w_ (by first | assumption | omega | (simp only [InK] at *; omega))) (by kernel_rfl) ?_
  rintro v post ⟨rfl, rfl⟩
  refine go_exec (rs := []) (by kernel_rfl) 4000 [.e 1, .e 0, .e 1, .e 0, .e 0, .z [0, 1, 1, 1, 1] 0 [0, 4]] (o := .new fun b_2 => .obl (b_2 = b_2) (.obl (g = g) (.obl (b_2 = b_2) (.obl (g = g) (.obl (g = g) (.stop [.c [0, 1, 1, 1, 1], .c [1, 1, 1, 1, 1]] [(0, vP g), (4, vP b_2)] [Eba1f9 g c cl sl tp ep 2 fl (ctlBlock w_) cm w_ cd, E4ea3a b_2 (ctlEpoch w_) (ctlGen w_) (ctlBlock w_) (ctlLive w_) (ctlBusy w_)])))))) (by kernel_rfl) ?_
  refine ok_new fun b_2 => ?_
  refine ok_obl rfl ?_
  refine ok_obl rfl ?_
  refine ok_obl rfl ?_
  refine ok_obl rfl ?_
  refine ok_obl rfl ?_
  refine ok_stop ?_
  refine go_quiet (tm' := [(0, vP g), (4, vP b_2), (30, .bool false)]) (ps := [b_2 = b_2, (!(ctlLive w_)) = false, b_2 = b_2, g = g, ((ctlEpoch w_) != ep) = false]) (cs := []) [(0, .h .w), (1, .h (.e 1)), (2, .h (.t false)), (3, .h .w), (4, .h .w), (5, .h (.e 1)), (6, .h .w), (7, .h .w), (8, .h .w), (9, .h (.e 0)), (10, .h (.t false)), (11, .h .w)] [0, 4, 30] (by kernel_rfl) (by kernel_rfl) ⟨rfl, (by simp [hl]), rfl, rfl, (bne_eq_false_iff_eq.2 he), trivial⟩ trivial ?_
  refine go_exec (rs := []) (by kernel_rfl) 4000 [.e 1, .sp [35] [.z q36_0 1 [36]] [.dead]] (o := .obl (b_2 = b_2) (.br ((ctlBlock w_) == 0) (.stop [.o q36_0 1] [(36, vP g)] [Eba1f9 g c cl sl tp ep 2 fl (ctlBlock w_) cm w_ cd, E4ea3a b_2 (ctlEpoch w_) (ctlGen w_) (ctlBlock w_) (ctlLive w_) (ctlBusy w_)]) (.bad))) (by kernel_rfl) ?_
  refine ok_obl rfl ?_
  refine ok_br (fun _ => ?_) (fun h => absurd (show ((ctlBlock w_) == 0) = true from (beq_iff_eq.2 hb)) (by rw [h]; simp))
  refine ok_stop ?_
  refine go_call (some 37) [0] Tryz.call109 (r14EndE c g cl ep sl tp w_ (ctlBlock w_) fl cm cd 2 20 (by decide)) (by kernel_rfl) ?_
  rintro v post ⟨rfl, rfl⟩
  refine go_exec (rs := []) (by kernel_rfl) 4000 [] (o := .ret (undef) [E4ea3a b_2 (ctlEpoch w_) (ctlGen w_) (ctlBlock w_) (ctlLive w_) (ctlBusy w_), Eba1f9 g c cl sl tp ep 0 fl 0 cm w_ 20]) (by kernel_rfl) ?_
  exact ret_ok (post := [Eba1f9 g c cl sl tp ep 0 fl 0 cm w_ 20]) [1] (by kernel_rfl) ⟨rfl, (by kernel_rfl)⟩


theorem r14LookN (c : Cfg) (g : Nat) (cl ep sl tp sn bk fl cm cd : Int) (at_ w_ : Int) (hw : U64 w_) (hl : ctlLive w_ = true) (he : ctlEpoch w_ = ep) (hb : ctlBlock w_ ≠ 0) :
    Ctr Tryz.prog 108 #[vP g, vU w_] [Eba1f9 g c cl sl tp ep at_ fl bk cm sn cd] (Ret (undef) [Eba1f9 g c cl sl tp ep 2 fl (ctlBlock w_) cm w_ cd]) := by
  refine ctr_of (args := [vP g, vU w_]) (fn := Tryz.f108) (body := B108) (nt := 38) Tryz.func108 (by kernel_rfl) (by kernel_rfl) ?_
  intro F
  refine go_exec (rs := []) (by kernel_rfl) 4000 [.z [0] 1 [0, 1, 5]] (o := .stop [.o [0] 1, .c [1]] [(0, vP g), (1, vU w_), (5, vU w_)] [Eba1f9 g c cl sl tp ep at_ fl bk cm sn cd]) (by kernel_rfl) ?_
  refine ok_stop ?_
  refine go_call (some 6) [] Tryz.call132 (r13_Unpack w_ (by first | assumption | omega | (simp only [InK] at *; omega))) (by kernel_rfl) ?_
  rintro v post ⟨rfl, rfl⟩
  refine go_exec (rs := []) (by kernel_rfl) 4000 [.e 1, .e 0, .e 1, .e 0, .e 0, .z [0, 1, 1, 1, 1] 0 [0, 4]] (o := .new fun b_2 => .obl (b_2 = b_2) (.obl (g = g) (.obl (b_2 = b_2) (.obl (g = g) (.obl (g = g) (.stop [.c [0, 1, 1, 1, 1], .c [1, 1, 1, 1, 1]] [(0, vP g), (4, vP b_2)] [Eba1f9 g c cl sl tp ep 2 fl (ctlBlock w_) cm w_ cd, E4ea3a b_2 (ctlEpoch w_) (ctlGen w_) (ctlBlock w_) (ctlLive w_) (ctlBusy w_)])))))) (by kernel_rfl) ?_
  refine ok_new fun b_2 => ?_
  refine ok_obl rfl ?_
  refine ok_obl rfl ?_
  refine ok_obl rfl ?_
  refine ok_obl rfl ?_
  refine ok_obl rfl ?_
  refine ok_stop ?_
  refine go_quiet (tm' := [(0, vP g), (4, vP b_2), (30, .bool false)]) (ps := [b_2 = b_2, (!(ctlLive w_)) = false, b_2 = b_2, g = g, ((ctlEpoch w_) != ep) = false]) (cs := []) [(0, .h .w), (1, .h (.e 1)), (2, .h (.t false)), (3, .h .w), (4, .h .w), (5, .h (.e 1)), (6, .h .w), (7, .h .w), (8, .h .w), (9, .h (.e 0)), (10, .h (.t false)), (11, .h .w)] [0, 4, 30] (by kernel_rfl) (by kernel_rfl) ⟨rfl, (by simp [hl]), rfl, rfl, (bne_eq_false_iff_eq.2 he), trivial⟩ trivial ?_
  refine go_exec (rs := []) (by kernel_rfl) 4000 [.e 1, .sp [35] [.dead] []] (o := .obl (b_2 = b_2) (.br ((ctlBlock w_) == 0) (.bad) (.ret (undef) [Eba1f9 g c cl sl tp ep 2 fl (ctlBlock w_) cm w_ cd, E4ea3a b_2 (ctlEpoch w_) (ctlGen w_) (ctlBlock w_) (ctlLive w_) (ctlBusy w_)]))) (by kernel_rfl) ?_
  refine ok_obl rfl ?_
  refine ok_br (fun h => absurd (show ((ctlBlock w_) == 0) = false from (beq_eq_false_iff_ne.2 hb)) (by rw [h]; simp)) (fun _ => ?_)
  exact ret_ok (post := [Eba1f9 g c cl sl tp ep 2 fl (ctlBlock w_) cm w_ cd]) [0] (by kernel_rfl) ⟨rfl, (by kernel_rfl)⟩

noncomputable def B76 : Code := (Tryz.f76.body).getD .skip

theorem r14Step0 (c : Cfg) (g ra : Nat) (cl ep sl tp sn bk fl cm cd : Int) (A : Ar)  :
    Ctr Tryz.prog 76 #[vP g, vP ra] [Eba1f9 g c cl sl tp ep 0 fl bk cm sn cd, E0654b ra A false 0, E632c4 A] (Ret (.bool true) [Eba1f9 g c cl sl tp ep 0 fl bk cm sn cd, E0654b ra A false 0, E632c4 A]) := by
  refine ctr_of (args := [vP g, vP ra]) (fn := Tryz.f76) (body := B76) (nt := 114) Tryz.func76 (by kernel_rfl) (by kernel_rfl) ?_
  intro F
  refine go_exec (rs := [.tmp 4]) (by kernel_rfl) 4000 [.e 0, .sp [11, 12] [.dead] [.sp [34, 35] [.dead] [.sp [59, 60] [.dead] [.e 0]]]] (o := .obl (g = g) (.obl ((0 == 1) = (0 == 1)) (.br (0 == 1) (.bad) (.obl ((0 == 2) = (0 == 2)) (.br (0 == 2) (.bad) (.obl ((0 == 3) = (0 == 3)) (.br (0 == 3) (.bad) (.obl (g = g) (.ret (.bool (0 == 0)) [Eba1f9 g c cl sl tp ep 0 fl bk cm sn cd, E0654b ra A false 0, E632c4 A]))))))))) (by kernel_rfl) ?_
  refine ok_obl rfl ?_
  refine ok_obl rfl ?_
  refine ok_br (fun h => absurd (show (0 == 1) = false from (by decide)) (by rw [h]; simp)) (fun _ => ?_)
  refine ok_obl rfl ?_
  refine ok_br (fun h => absurd (show (0 == 2) = false from (by decide)) (by rw [h]; simp)) (fun _ => ?_)
  refine ok_obl rfl ?_
  refine ok_br (fun h => absurd (show (0 == 3) = false from (by decide)) (by rw [h]; simp)) (fun _ => ?_)
  refine ok_obl rfl ?_
  exact ret_ok (post := [Eba1f9 g c cl sl tp ep 0 fl bk cm sn cd, E0654b ra A false 0, E632c4 A]) [0, 1, 2] (by kernel_rfl) ⟨(congrArg Value.bool (by first | rfl | (simp; done) | (simp; omega))), (by kernel_rfl)⟩


theorem r14Step1D (c : Cfg) (g ra : Nat) (cl ep sl tp sn bk fl cm cd : Int) (A : Ar) (hc : c.Ok) (hn : A.ws.length = A.n) (hs : 0 ≤ A.steps ∧ A.steps ≤ 1000000000) (htp : 0 ≤ tp ∧ tp < c.topics) (hwd : 0 ≤ ctlAt c tp ∧ ctlAt c tp < A.n) (hw : U64 (A.ws.getD (ctlAt c tp).toNat 0)) (hl : ctlLive (A.ws.getD (ctlAt c tp).toNat 0) = false) :
    Ctr Tryz.prog 76 #[vP g, vP ra] [Eba1f9 g c cl sl tp ep 1 fl bk cm sn cd, E0654b ra A false 0, E632c4 A] (Ret (.bool true) [Eba1f9 g c cl sl tp ep 0 fl 0 ((A.load (ctlAt c tp)).steps) (A.ws.getD (ctlAt c tp).toNat 0) 22, E0654b ra (A.load (ctlAt c tp)) false 0, E632c4 (A.load (ctlAt c tp))]) := by
  refine ctr_of (args := [vP g, vP ra]) (fn := Tryz.f76) (body := B76) (nt := 114) Tryz.func76 (by kernel_rfl) (by kernel_rfl) ?_
  intro F
  refine go_exec (rs := [.tmp 4]) (by kernel_rfl) 4000 [.e 0, .sp [11, 12] [.z q36_1 0 [0, 1]] [.dead]] (o := .obl (g = g) (.obl ((1 == 1) = (1 == 1)) (.br (1 == 1) (.stop [.c q36_1, .c q36_2, .b 0, .c [1, 1]] [(0, vP g), (1, vP ra)] [Eba1f9 g c cl sl tp ep 1 fl bk cm sn cd, E0654b ra A false 0, E632c4 A]) (.bad)))) (by kernel_rfl) ?_
  refine ok_obl rfl ?_
  refine ok_obl rfl ?_
  refine ok_br (fun _ => ?_) (fun h => absurd (show (1 == 1) = true from (by decide)) (by rw [h]; simp))
  refine ok_stop ?_
  refine go_tail_call (dst := (some 23)) (ps := [g = g, g = g]) (cs := [(29, #[cfgV c, vI tp], vI (ctlAt c tp))]) [(0, .h .w), (1, .h .w), (2, .h .w), (3, .h .w), (4, .h (.e 0)), (5, .h .w), (6, .h .w), (7, .h .w), (8, .h (.e 0)), (9, .q (vI (ctlAt c tp)))] 10 [(11, .h .w)] [1, 2] [0, 1, 5] (by kernel_rfl) Tryz.call107 (ref_Load ra A (ctlAt c tp) (by first | assumption | omega | (simp only [InK] at *; omega)) hwd (by first | assumption | omega | (simp only [InK] at *; omega))) (by kernel_rfl) ⟨rfl, rfl, trivial⟩ ⟨⟨Tryz.call29, quiet_of [] (ref_Control c tp (by first | assumption | omega | (simp only [InK] at *; omega)) (by first | assumption | omega | (simp only [InK] at *; omega))) (by kernel_rfl) (by rintro v post ⟨rfl, rfl⟩; exact ⟨rfl, rfl⟩)⟩, trivial⟩ ?_
  rintro v post ⟨rfl, rfl⟩
  refine tail_next (tm' := [(0, vP g), (1, vP ra), (5, vU (A.ws.getD (ctlAt c tp).toNat 0))]) (ps2 := []) (by kernel_rfl) trivial ?_
  refine go_exec (rs := [.tmp 4]) (by kernel_rfl) 4000 [.e 1, .e 0, .z q36_3 2 [0, 31, 32]] (o := .obl (ra = ra) (.obl (g = g) (.stop [.o q36_3 2, .b 0, .c [1, 1]] [(0, vP g), (31, vP g), (32, vU (A.ws.getD (ctlAt c tp).toNat 0))] [Eba1f9 g c cl sl tp ep 1 fl bk ((A.load (ctlAt c tp)).steps) sn cd, E0654b ra (A.load (ctlAt c tp)) false 0, E632c4 (A.load (ctlAt c tp))]))) (by kernel_rfl) ?_
  refine ok_obl rfl ?_
  refine ok_obl rfl ?_
  refine ok_stop ?_
  refine go_call (some 33) [0] Tryz.call108 (r14LookD c g cl ep sl tp sn bk fl ((A.load (ctlAt c tp)).steps) cd 1 (A.ws.getD (ctlAt c tp).toNat 0) (by first | assumption | omega | (simp only [InK] at *; omega)) (by first | assumption | omega | (simp only [InK] at *; omega))) (by kernel_rfl) ?_
  rintro v post ⟨rfl, rfl⟩
  refine go_exec (rs := [.tmp 4]) (by kernel_rfl) 4000 [.e 2] (o := .obl (g = g) (.ret (.bool true) [E0654b ra (A.load (ctlAt c tp)) false 0, E632c4 (A.load (ctlAt c tp)), Eba1f9 g c cl sl tp ep 0 fl 0 ((A.load (ctlAt c tp)).steps) (A.ws.getD (ctlAt c tp).toNat 0) 22])) (by kernel_rfl) ?_
  refine ok_obl rfl ?_
  exact ret_ok (post := [Eba1f9 g c cl sl tp ep 0 fl 0 ((A.load (ctlAt c tp)).steps) (A.ws.getD (ctlAt c tp).toNat 0) 22, E0654b ra (A.load (ctlAt c tp)) false 0, E632c4 (A.load (ctlAt c tp))]) [2, 0, 1] (by kernel_rfl) ⟨rfl, (by kernel_rfl)⟩


theorem r14Step1P (c : Cfg) (g ra : Nat) (cl ep sl tp sn bk fl cm cd : Int) (A : Ar) (hc : c.Ok) (hn : A.ws.length = A.n) (hs : 0 ≤ A.steps ∧ A.steps ≤ 1000000000) (htp : 0 ≤ tp ∧ tp < c.topics) (hwd : 0 ≤ ctlAt c tp ∧ ctlAt c tp < A.n) (hw : U64 (A.ws.getD (ctlAt c tp).toNat 0)) (hl : ctlLive (A.ws.getD (ctlAt c tp).toNat 0) = true) (he : ctlEpoch (A.ws.getD (ctlAt c tp).toNat 0) ≠ ep) :
    Ctr Tryz.prog 76 #[vP g, vP ra] [Eba1f9 g c cl sl tp ep 1 fl bk cm sn cd, E0654b ra A false 0, E632c4 A] (Ret (.bool true) [Eba1f9 g c cl sl tp ep 0 fl 0 ((A.load (ctlAt c tp)).steps) (A.ws.getD (ctlAt c tp).toNat 0) 22, E0654b ra (A.load (ctlAt c tp)) false 0, E632c4 (A.load (ctlAt c tp))]) := by
  refine ctr_of (args := [vP g, vP ra]) (fn := Tryz.f76) (body := B76) (nt := 114) Tryz.func76 (by kernel_rfl) (by kernel_rfl) ?_
  intro F
  refine go_exec (rs := [.tmp 4]) (by kernel_rfl) 4000 [.e 0, .sp [11, 12] [.z q36_1 0 [0, 1]] [.dead]] (o := .obl (g = g) (.obl ((1 == 1) = (1 == 1)) (.br (1 == 1) (.stop [.c q36_1, .c q36_2, .b 0, .c [1, 1]] [(0, vP g), (1, vP ra)] [Eba1f9 g c cl sl tp ep 1 fl bk cm sn cd, E0654b ra A false 0, E632c4 A]) (.bad)))) (by kernel_rfl) ?_
  refine ok_obl rfl ?_
  refine ok_obl rfl ?_
  refine ok_br (fun _ => ?_) (fun h => absurd (show (1 == 1) = true from (by decide)) (by rw [h]; simp))
  refine ok_stop ?_
  refine go_tail_call (dst := (some 23)) (ps := [g = g, g = g]) (cs := [(29, #[cfgV c, vI tp], vI (ctlAt c tp))]) [(0, .h .w), (1, .h .w), (2, .h .w), (3, .h .w), (4, .h (.e 0)), (5, .h .w), (6, .h .w), (7, .h .w), (8, .h (.e 0)), (9, .q (vI (ctlAt c tp)))] 10 [(11, .h .w)] [1, 2] [0, 1, 5] (by kernel_rfl) Tryz.call107 (ref_Load ra A (ctlAt c tp) (by first | assumption | omega | (simp only [InK] at *; omega)) hwd (by first | assumption | omega | (simp only [InK] at *; omega))) (by kernel_rfl) ⟨rfl, rfl, trivial⟩ ⟨⟨Tryz.call29, quiet_of [] (ref_Control c tp (by first | assumption | omega | (simp only [InK] at *; omega)) (by first | assumption | omega | (simp only [InK] at *; omega))) (by kernel_rfl) (by rintro v post ⟨rfl, rfl⟩; exact ⟨rfl, rfl⟩)⟩, trivial⟩ ?_
  rintro v post ⟨rfl, rfl⟩
  refine tail_next (tm' := [(0, vP g), (1, vP ra), (5, vU (A.ws.getD (ctlAt c tp).toNat 0))]) (ps2 := []) (by kernel_rfl) trivial ?_
  refine go_exec (rs := [.tmp 4]) (by kernel_rfl) 4000 [.e 1, .e 0, .z q36_3 2 [0, 31, 32]] (o := .obl (ra = ra) (.obl (g = g) (.stop [.o q36_3 2, .b 0, .c [1, 1]] [(0, vP g), (31, vP g), (32, vU (A.ws.getD (ctlAt c tp).toNat 0))] [Eba1f9 g c cl sl tp ep 1 fl bk ((A.load (ctlAt c tp)).steps) sn cd, E0654b ra (A.load (ctlAt c tp)) false 0, E632c4 (A.load (ctlAt c tp))]))) (by kernel_rfl) ?_
  refine ok_obl rfl ?_
  refine ok_obl rfl ?_
  refine ok_stop ?_
  refine go_call (some 33) [0] Tryz.call108 (r14LookP c g cl ep sl tp sn bk fl ((A.load (ctlAt c tp)).steps) cd 1 (A.ws.getD (ctlAt c tp).toNat 0) (by first | assumption | omega | (simp only [InK] at *; omega)) (by first | assumption | omega | (simp only [InK] at *; omega)) (by first | assumption | omega | (simp only [InK] at *; omega))) (by kernel_rfl) ?_
  rintro v post ⟨rfl, rfl⟩
  refine go_exec (rs := [.tmp 4]) (by kernel_rfl) 4000 [.e 2] (o := .obl (g = g) (.ret (.bool true) [E0654b ra (A.load (ctlAt c tp)) false 0, E632c4 (A.load (ctlAt c tp)), Eba1f9 g c cl sl tp ep 0 fl 0 ((A.load (ctlAt c tp)).steps) (A.ws.getD (ctlAt c tp).toNat 0) 22])) (by kernel_rfl) ?_
  refine ok_obl rfl ?_
  exact ret_ok (post := [Eba1f9 g c cl sl tp ep 0 fl 0 ((A.load (ctlAt c tp)).steps) (A.ws.getD (ctlAt c tp).toNat 0) 22, E0654b ra (A.load (ctlAt c tp)) false 0, E632c4 (A.load (ctlAt c tp))]) [2, 0, 1] (by kernel_rfl) ⟨rfl, (by kernel_rfl)⟩


theorem r14Step1E (c : Cfg) (g ra : Nat) (cl ep sl tp sn bk fl cm cd : Int) (A : Ar) (hc : c.Ok) (hn : A.ws.length = A.n) (hs : 0 ≤ A.steps ∧ A.steps ≤ 1000000000) (htp : 0 ≤ tp ∧ tp < c.topics) (hwd : 0 ≤ ctlAt c tp ∧ ctlAt c tp < A.n) (hw : U64 (A.ws.getD (ctlAt c tp).toNat 0)) (hl : ctlLive (A.ws.getD (ctlAt c tp).toNat 0) = true) (he : ctlEpoch (A.ws.getD (ctlAt c tp).toNat 0) = ep) (hb : ctlBlock (A.ws.getD (ctlAt c tp).toNat 0) = 0) :
    Ctr Tryz.prog 76 #[vP g, vP ra] [Eba1f9 g c cl sl tp ep 1 fl bk cm sn cd, E0654b ra A false 0, E632c4 A] (Ret (.bool true) [Eba1f9 g c cl sl tp ep 0 fl 0 ((A.load (ctlAt c tp)).steps) (A.ws.getD (ctlAt c tp).toNat 0) 20, E0654b ra (A.load (ctlAt c tp)) false 0, E632c4 (A.load (ctlAt c tp))]) := by
  refine ctr_of (args := [vP g, vP ra]) (fn := Tryz.f76) (body := B76) (nt := 114) Tryz.func76 (by kernel_rfl) (by kernel_rfl) ?_
  intro F
  refine go_exec (rs := [.tmp 4]) (by kernel_rfl) 4000 [.e 0, .sp [11, 12] [.z q36_1 0 [0, 1]] [.dead]] (o := .obl (g = g) (.obl ((1 == 1) = (1 == 1)) (.br (1 == 1) (.stop [.c q36_1, .c q36_2, .b 0, .c [1, 1]] [(0, vP g), (1, vP ra)] [Eba1f9 g c cl sl tp ep 1 fl bk cm sn cd, E0654b ra A false 0, E632c4 A]) (.bad)))) (by kernel_rfl) ?_
  refine ok_obl rfl ?_
  refine ok_obl rfl ?_
  refine ok_br (fun _ => ?_) (fun h => absurd (show (1 == 1) = true from (by decide)) (by rw [h]; simp))
  refine ok_stop ?_
  refine go_tail_call (dst := (some 23)) (ps := [g = g, g = g]) (cs := [(29, #[cfgV c, vI tp], vI (ctlAt c tp))]) [(0, .h .w), (1, .h .w), (2, .h .w), (3, .h .w), (4, .h (.e 0)), (5, .h .w), (6, .h .w), (7, .h .w), (8, .h (.e 0)), (9, .q (vI (ctlAt c tp)))] 10 [(11, .h .w)] [1, 2] [0, 1, 5] (by kernel_rfl) Tryz.call107 (ref_Load ra A (ctlAt c tp) (by first | assumption | omega | (simp only [InK] at *; omega)) hwd (by first | assumption | omega | (simp only [InK] at *; omega))) (by kernel_rfl) ⟨rfl, rfl, trivial⟩ ⟨⟨Tryz.call29, quiet_of [] (ref_Control c tp (by first | assumption | omega | (simp only [InK] at *; omega)) (by first | assumption | omega | (simp only [InK] at *; omega))) (by kernel_rfl) (by rintro v post ⟨rfl, rfl⟩; exact ⟨rfl, rfl⟩)⟩, trivial⟩ ?_
  rintro v post ⟨rfl, rfl⟩
  refine tail_next (tm' := [(0, vP g), (1, vP ra), (5, vU (A.ws.getD (ctlAt c tp).toNat 0))]) (ps2 := []) (by kernel_rfl) trivial ?_
  refine go_exec (rs := [.tmp 4]) (by kernel_rfl) 4000 [.e 1, .e 0, .z q36_3 2 [0, 31, 32]] (o := .obl (ra = ra) (.obl (g = g) (.stop [.o q36_3 2, .b 0, .c [1, 1]] [(0, vP g), (31, vP g), (32, vU (A.ws.getD (ctlAt c tp).toNat 0))] [Eba1f9 g c cl sl tp ep 1 fl bk ((A.load (ctlAt c tp)).steps) sn cd, E0654b ra (A.load (ctlAt c tp)) false 0, E632c4 (A.load (ctlAt c tp))]))) (by kernel_rfl) ?_
  refine ok_obl rfl ?_
  refine ok_obl rfl ?_
  refine ok_stop ?_
  refine go_call (some 33) [0] Tryz.call108 (r14LookE c g cl ep sl tp sn bk fl ((A.load (ctlAt c tp)).steps) cd 1 (A.ws.getD (ctlAt c tp).toNat 0) (by first | assumption | omega | (simp only [InK] at *; omega)) (by first | assumption | omega | (simp only [InK] at *; omega)) (by first | assumption | omega | (simp only [InK] at *; omega)) (by first | assumption | omega | (simp only [InK] at *; omega))) (by kernel_rfl) ?_
  rintro v post ⟨rfl, rfl⟩
  refine go_exec (rs := [.tmp 4]) (by kernel_rfl) 4000 [.e 2] (o := .obl (g = g) (.ret (.bool true) [E0654b ra (A.load (ctlAt c tp)) false 0, E632c4 (A.load (ctlAt c tp)), Eba1f9 g c cl sl tp ep 0 fl 0 ((A.load (ctlAt c tp)).steps) (A.ws.getD (ctlAt c tp).toNat 0) 20])) (by kernel_rfl) ?_
  refine ok_obl rfl ?_
  exact ret_ok (post := [Eba1f9 g c cl sl tp ep 0 fl 0 ((A.load (ctlAt c tp)).steps) (A.ws.getD (ctlAt c tp).toNat 0) 20, E0654b ra (A.load (ctlAt c tp)) false 0, E632c4 (A.load (ctlAt c tp))]) [2, 0, 1] (by kernel_rfl) ⟨rfl, (by kernel_rfl)⟩


theorem r14Step1N (c : Cfg) (g ra : Nat) (cl ep sl tp sn bk fl cm cd : Int) (A : Ar) (hc : c.Ok) (hn : A.ws.length = A.n) (hs : 0 ≤ A.steps ∧ A.steps ≤ 1000000000) (htp : 0 ≤ tp ∧ tp < c.topics) (hwd : 0 ≤ ctlAt c tp ∧ ctlAt c tp < A.n) (hw : U64 (A.ws.getD (ctlAt c tp).toNat 0)) (hl : ctlLive (A.ws.getD (ctlAt c tp).toNat 0) = true) (he : ctlEpoch (A.ws.getD (ctlAt c tp).toNat 0) = ep) (hb : ctlBlock (A.ws.getD (ctlAt c tp).toNat 0) ≠ 0) :
    Ctr Tryz.prog 76 #[vP g, vP ra] [Eba1f9 g c cl sl tp ep 1 fl bk cm sn cd, E0654b ra A false 0, E632c4 A] (Ret (.bool false) [Eba1f9 g c cl sl tp ep 2 fl (ctlBlock (A.ws.getD (ctlAt c tp).toNat 0)) ((A.load (ctlAt c tp)).steps) (A.ws.getD (ctlAt c tp).toNat 0) cd, E0654b ra (A.load (ctlAt c tp)) false 0, E632c4 (A.load (ctlAt c tp))]) := by
  refine ctr_of (args := [vP g, vP ra]) (fn := Tryz.f76) (body := B76) (nt := 114) Tryz.func76 (by kernel_rfl) (by kernel_rfl) ?_
  intro F
  refine go_exec (rs := [.tmp 4]) (by kernel_rfl) 4000 [.e 0, .sp [11, 12] [.z q36_1 0 [0, 1]] [.dead]] (o := .obl (g = g) (.obl ((1 == 1) = (1 == 1)) (.br (1 == 1) (.stop [.c q36_1, .c q36_2, .b 0, .c [1, 1]] [(0, vP g), (1, vP ra)] [Eba1f9 g c cl sl tp ep 1 fl bk cm sn cd, E0654b ra A false 0, E632c4 A]) (.bad)))) (by kernel_rfl) ?_
  refine ok_obl rfl ?_
  refine ok_obl rfl ?_
  refine ok_br (fun _ => ?_) (fun h => absurd (show (1 == 1) = true from (by decide)) (by rw [h]; simp))
  refine ok_stop ?_
  refine go_tail_call (dst := (some 23)) (ps := [g = g, g = g]) (cs := [(29, #[cfgV c, vI tp], vI (ctlAt c tp))]) [(0, .h .w), (1, .h .w), (2, .h .w), (3, .h .w), (4, .h (.e 0)), (5, .h .w), (6, .h .w), (7, .h .w), (8, .h (.e 0)), (9, .q (vI (ctlAt c tp)))] 10 [(11, .h .w)] [1, 2] [0, 1, 5] (by kernel_rfl) Tryz.call107 (ref_Load ra A (ctlAt c tp) (by first | assumption | omega | (simp only [InK] at *; omega)) hwd (by first | assumption | omega | (simp only [InK] at *; omega))) (by kernel_rfl) ⟨rfl, rfl, trivial⟩ ⟨⟨Tryz.call29, quiet_of [] (ref_Control c tp (by first | assumption | omega | (simp only [InK] at *; omega)) (by first | assumption | omega | (simp only [InK] at *; omega))) (by kernel_rfl) (by rintro v post ⟨rfl, rfl⟩; exact ⟨rfl, rfl⟩)⟩, trivial⟩ ?_
  rintro v post ⟨rfl, rfl⟩
  refine tail_next (tm' := [(0, vP g), (1, vP ra), (5, vU (A.ws.getD (ctlAt c tp).toNat 0))]) (ps2 := []) (by kernel_rfl) trivial ?_
  refine go_exec (rs := [.tmp 4]) (by kernel_rfl) 4000 [.e 1, .e 0, .z q36_3 2 [0, 31, 32]] (o := .obl (ra = ra) (.obl (g = g) (.stop [.o q36_3 2, .b 0, .c [1, 1]] [(0, vP g), (31, vP g), (32, vU (A.ws.getD (ctlAt c tp).toNat 0))] [Eba1f9 g c cl sl tp ep 1 fl bk ((A.load (ctlAt c tp)).steps) sn cd, E0654b ra (A.load (ctlAt c tp)) false 0, E632c4 (A.load (ctlAt c tp))]))) (by kernel_rfl) ?_
  refine ok_obl rfl ?_
  refine ok_obl rfl ?_
  refine ok_stop ?_
  refine go_call (some 33) [0] Tryz.call108 (r14LookN c g cl ep sl tp sn bk fl ((A.load (ctlAt c tp)).steps) cd 1 (A.ws.getD (ctlAt c tp).toNat 0) (by first | assumption | omega | (simp only [InK] at *; omega)) (by first | assumption | omega | (simp only [InK] at *; omega)) (by first | assumption | omega | (simp only [InK] at *; omega)) (by first | assumption | omega | (simp only [InK] at *; omega))) (by kernel_rfl) ?_
  rintro v post ⟨rfl, rfl⟩
  refine go_exec (rs := [.tmp 4]) (by kernel_rfl) 4000 [.e 2] (o := .obl (g = g) (.ret (.bool false) [E0654b ra (A.load (ctlAt c tp)) false 0, E632c4 (A.load (ctlAt c tp)), Eba1f9 g c cl sl tp ep 2 fl (ctlBlock (A.ws.getD (ctlAt c tp).toNat 0)) ((A.load (ctlAt c tp)).steps) (A.ws.getD (ctlAt c tp).toNat 0) cd])) (by kernel_rfl) ?_
  refine ok_obl rfl ?_
  exact ret_ok (post := [Eba1f9 g c cl sl tp ep 2 fl (ctlBlock (A.ws.getD (ctlAt c tp).toNat 0)) ((A.load (ctlAt c tp)).steps) (A.ws.getD (ctlAt c tp).toNat 0) cd, E0654b ra (A.load (ctlAt c tp)) false 0, E632c4 (A.load (ctlAt c tp))]) [2, 0, 1] (by kernel_rfl) ⟨rfl, (by kernel_rfl)⟩


theorem r14Step2 (c : Cfg) (g ra : Nat) (cl ep sl tp sn bk fl cm cd : Int) (A : Ar) (hc : c.Ok) (hn : A.ws.length = A.n) (hs : 0 ≤ A.steps ∧ A.steps ≤ 1000000000) (hsl : 0 ≤ slotAt c sl ∧ slotAt c sl < A.n) (hsk : InK .i64 sl) (hcl : 0 ≤ cl ∧ cl ≤ 1000) (hbk : 0 ≤ bk ∧ bk ≤ 65535) :
    Ctr Tryz.prog 76 #[vP g, vP ra] [Eba1f9 g c cl sl tp ep 2 fl bk cm sn cd, E0654b ra A false 0, E632c4 A] (Ret (.bool false) [Eba1f9 g c cl sl tp ep 3 fl bk cm sn cd, E0654b ra (A.store (slotAt c sl) (markW cl bk)) false 0, E632c4 (A.store (slotAt c sl) (markW cl bk))]) := by
  refine ctr_of (args := [vP g, vP ra]) (fn := Tryz.f76) (body := B76) (nt := 114) Tryz.func76 (by kernel_rfl) (by kernel_rfl) ?_
  intro F
  refine go_exec (rs := [.tmp 4]) (by kernel_rfl) 4000 [.e 0, .sp [11, 12] [.dead] [.sp [34, 35] [.z q36_4 0 [0, 1]] [.dead]]] (o := .obl (g = g) (.obl ((2 == 1) = (2 == 1)) (.br (2 == 1) (.bad) (.obl ((2 == 2) = (2 == 2)) (.br (2 == 2) (.stop [.c q36_4, .c [1, 0, 1, 1, 1, 0, 1, 0, 1], .b 0, .c [1, 1]] [(0, vP g), (1, vP ra)] [Eba1f9 g c cl sl tp ep 2 fl bk cm sn cd, E0654b ra A false 0, E632c4 A]) (.bad)))))) (by kernel_rfl) ?_
  refine ok_obl rfl ?_
  refine ok_obl rfl ?_
  refine ok_br (fun h => absurd (show (2 == 1) = false from (by decide)) (by rw [h]; simp)) (fun _ => ?_)
  refine ok_obl rfl ?_
  refine ok_br (fun _ => ?_) (fun h => absurd (show (2 == 2) = true from (by decide)) (by rw [h]; simp))
  refine ok_stop ?_
  refine go_tail_call (dst := (some 55)) (ps := [g = g, g = g, g = g, g = g]) (cs := [(30, #[cfgV c, vI sl], vI (slotAt c sl)), (25, #[vI cl, vI bk], vU (markW cl bk))]) [(0, .h .w), (1, .h .w), (2, .h .w), (3, .h .w), (4, .h (.e 0)), (5, .h .w), (6, .h .w), (7, .h .w), (8, .h (.e 0)), (9, .q (vI (slotAt c sl))), (10, .h .w), (11, .h .w), (12, .h .w), (13, .h (.e 0)), (14, .h .w), (15, .h .w), (16, .h .w), (17, .h (.e 0)), (18, .q (vU (markW cl bk)))] 19 [] [1, 2] [0] (by kernel_rfl) Tryz.call71 (ref_Store ra A (slotAt c sl) (markW cl bk) (by first | assumption | omega | (simp only [InK] at *; omega)) hsl (by first | assumption | omega | (simp only [InK] at *; omega))) (by kernel_rfl) ⟨rfl, rfl, rfl, rfl, trivial⟩ ⟨⟨Tryz.call30, quiet_of [] (ref_Slot c sl (by first | assumption | omega | (simp only [InK] at *; omega)) hsk) (by kernel_rfl) (by rintro v post ⟨rfl, rfl⟩; exact ⟨rfl, rfl⟩)⟩, ⟨Tryz.call25, quiet_of [] (ref_Mark cl bk (by omega) (by omega)) (by kernel_rfl) (by rintro v post ⟨rfl, rfl⟩; exact ⟨rfl, rfl⟩)⟩, trivial⟩ ?_
  rintro v post ⟨rfl, rfl⟩
  refine tail_next (tm' := [(0, vP g)]) (ps2 := []) (by kernel_rfl) trivial ?_
  refine go_exec (rs := [.tmp 4]) (by kernel_rfl) 4000 [.e 0, .e 0] (o := .obl (g = g) (.obl (g = g) (.ret (.bool false) [Eba1f9 g c cl sl tp ep 3 fl bk cm sn cd, E0654b ra (A.store (slotAt c sl) (markW cl bk)) false 0, E632c4 (A.store (slotAt c sl) (markW cl bk))]))) (by kernel_rfl) ?_
  refine ok_obl rfl ?_
  refine ok_obl rfl ?_
  exact ret_ok (post := [Eba1f9 g c cl sl tp ep 3 fl bk cm sn cd, E0654b ra (A.store (slotAt c sl) (markW cl bk)) false 0, E632c4 (A.store (slotAt c sl) (markW cl bk))]) [0, 1, 2] (by kernel_rfl) ⟨rfl, (by kernel_rfl)⟩


theorem r14Step3K (c : Cfg) (g ra : Nat) (cl ep sl tp sn bk fl cm cd : Int) (A : Ar) (hc : c.Ok) (hn : A.ws.length = A.n) (hs : 0 ≤ A.steps ∧ A.steps ≤ 1000000000) (htp : 0 ≤ tp ∧ tp < c.topics) (hwd : 0 ≤ ctlAt c tp ∧ ctlAt c tp < A.n) (hw : U64 (A.ws.getD (ctlAt c tp).toNat 0)) (hf0 : 0 ≤ fl ∧ fl ≤ 1000) (hq : (A.ws.getD (ctlAt c tp).toNat 0) = sn) :
    Ctr Tryz.prog 76 #[vP g, vP ra] [Eba1f9 g c cl sl tp ep 3 fl bk cm sn cd, E0654b ra A false 0, E632c4 A] (Ret (.bool true) [Eba1f9 g c cl sl tp ep 0 fl bk ((A.load (ctlAt c tp)).steps) sn 0, E0654b ra (A.load (ctlAt c tp)) false 0, E632c4 (A.load (ctlAt c tp))]) := by
  refine ctr_of (args := [vP g, vP ra]) (fn := Tryz.f76) (body := B76) (nt := 114) Tryz.func76 (by kernel_rfl) (by kernel_rfl) ?_
  intro F
  refine go_exec (rs := [.tmp 4]) (by kernel_rfl) 4000 [.e 0, .sp [11, 12] [.dead] [.sp [34, 35] [.dead] [.sp [59, 60] [.z q36_5 0 [0, 1]] [.dead]]]] (o := .obl (g = g) (.obl ((3 == 1) = (3 == 1)) (.br (3 == 1) (.bad) (.obl ((3 == 2) = (3 == 2)) (.br (3 == 2) (.bad) (.obl ((3 == 3) = (3 == 3)) (.br (3 == 3) (.stop [.c q36_5, .c q36_6, .b 0, .c [1, 1]] [(0, vP g), (1, vP ra)] [Eba1f9 g c cl sl tp ep 3 fl bk cm sn cd, E0654b ra A false 0, E632c4 A]) (.bad)))))))) (by kernel_rfl) ?_
  refine ok_obl rfl ?_
  refine ok_obl rfl ?_
  refine ok_br (fun h => absurd (show (3 == 1) = false from (by decide)) (by rw [h]; simp)) (fun _ => ?_)
  refine ok_obl rfl ?_
  refine ok_br (fun h => absurd (show (3 == 2) = false from (by decide)) (by rw [h]; simp)) (fun _ => ?_)
  refine ok_obl rfl ?_
  refine ok_br (fun _ => ?_) (fun h => absurd (show (3 == 3) = true from (by decide)) (by rw [h]; simp))
  refine ok_stop ?_
  refine go_tail_call (dst := (some 71)) (ps := [g = g, g = g]) (cs := [(29, #[cfgV c, vI tp], vI (ctlAt c tp))]) [(0, .h .w), (1, .h .w), (2, .h .w), (3, .h .w), (4, .h (.e 0)), (5, .h .w), (6, .h .w), (7, .h .w), (8, .h (.e 0)), (9, .q (vI (ctlAt c tp)))] 10 [(11, .h .w)] [1, 2] [0, 1, 6] (by kernel_rfl) Tryz.call107 (ref_Load ra A (ctlAt c tp) (by first | assumption | omega | (simp only [InK] at *; omega)) hwd (by first | assumption | omega | (simp only [InK] at *; omega))) (by kernel_rfl) ⟨rfl, rfl, trivial⟩ ⟨⟨Tryz.call29, quiet_of [] (ref_Control c tp (by first | assumption | omega | (simp only [InK] at *; omega)) (by first | assumption | omega | (simp only [InK] at *; omega))) (by kernel_rfl) (by rintro v post ⟨rfl, rfl⟩; exact ⟨rfl, rfl⟩)⟩, trivial⟩ ?_
  rintro v post ⟨rfl, rfl⟩
  refine tail_next (tm' := [(0, vP g), (1, vP ra), (6, vU (A.ws.getD (ctlAt c tp).toNat 0))]) (ps2 := []) (by kernel_rfl) trivial ?_
  refine go_exec (rs := [.tmp 4]) (by kernel_rfl) 4000 [.e 1, .e 0, .e 0, .sp [84] [.z q36_7 1 [0, 85]] [.dead]] (o := .obl (ra = ra) (.obl (g = g) (.obl (g = g) (.br ((A.ws.getD (ctlAt c tp).toNat 0) == sn) (.stop [.o q36_7 1, .c [1, 0, 1, 0, 1, 1, 0, 1, 1, 1, 1, 1, 0, 1, 0, 1], .c [1, 1, 1, 0, 1, 1, 1, 1, 1, 0, 1, 0, 1], .b 0, .c [1, 1]] [(0, vP g), (85, vP g)] [Eba1f9 g c cl sl tp ep 3 fl bk ((A.load (ctlAt c tp)).steps) sn cd, E0654b ra (A.load (ctlAt c tp)) false 0, E632c4 (A.load (ctlAt c tp))]) (.bad))))) (by kernel_rfl) ?_
  refine ok_obl rfl ?_
  refine ok_obl rfl ?_
  refine ok_obl rfl ?_
  refine ok_br (fun _ => ?_) (fun h => absurd (show ((A.ws.getD (ctlAt c tp).toNat 0) == sn) = true from (beq_iff_eq.2 hq)) (by rw [h]; simp))
  refine ok_stop ?_
  refine go_call (some 86) [0] Tryz.call109 (r14End0 c g cl ep sl tp sn bk fl ((A.load (ctlAt c tp)).steps) cd 3) (by kernel_rfl) ?_
  rintro v post ⟨rfl, rfl⟩
  refine go_exec (rs := [.tmp 4]) (by kernel_rfl) 4000 [.e 2] (o := .obl (g = g) (.ret (.bool true) [E0654b ra (A.load (ctlAt c tp)) false 0, E632c4 (A.load (ctlAt c tp)), Eba1f9 g c cl sl tp ep 0 fl bk ((A.load (ctlAt c tp)).steps) sn 0])) (by kernel_rfl) ?_
  refine ok_obl rfl ?_
  exact ret_ok (post := [Eba1f9 g c cl sl tp ep 0 fl bk ((A.load (ctlAt c tp)).steps) sn 0, E0654b ra (A.load (ctlAt c tp)) false 0, E632c4 (A.load (ctlAt c tp))]) [2, 0, 1] (by kernel_rfl) ⟨rfl, (by kernel_rfl)⟩


theorem r14Step3R (c : Cfg) (g ra : Nat) (cl ep sl tp sn bk fl cm cd : Int) (A : Ar) (hc : c.Ok) (hn : A.ws.length = A.n) (hs : 0 ≤ A.steps ∧ A.steps ≤ 1000000000) (htp : 0 ≤ tp ∧ tp < c.topics) (hwd : 0 ≤ ctlAt c tp ∧ ctlAt c tp < A.n) (hw : U64 (A.ws.getD (ctlAt c tp).toNat 0)) (hf0 : 0 ≤ fl ∧ fl ≤ 1000) (hq : (A.ws.getD (ctlAt c tp).toNat 0) ≠ sn) (hr : fl + 1 = c.retry) :
    Ctr Tryz.prog 76 #[vP g, vP ra] [Eba1f9 g c cl sl tp ep 3 fl bk cm sn cd, E0654b ra A false 0, E632c4 A] (Ret (.bool true) [Eba1f9 g c cl sl tp ep 0 (fl + 1) 0 ((A.load (ctlAt c tp)).steps) sn 17, E0654b ra (A.load (ctlAt c tp)) false 0, E632c4 (A.load (ctlAt c tp))]) := by
  refine ctr_of (args := [vP g, vP ra]) (fn := Tryz.f76) (body := B76) (nt := 114) Tryz.func76 (by kernel_rfl) (by kernel_rfl) ?_
  intro F
  refine go_exec (rs := [.tmp 4]) (by kernel_rfl) 4000 [.e 0, .sp [11, 12] [.dead] [.sp [34, 35] [.dead] [.sp [59, 60] [.z q36_5 0 [0, 1]] [.dead]]]] (o := .obl (g = g) (.obl ((3 == 1) = (3 == 1)) (.br (3 == 1) (.bad) (.obl ((3 == 2) = (3 == 2)) (.br (3 == 2) (.bad) (.obl ((3 == 3) = (3 == 3)) (.br (3 == 3) (.stop [.c q36_5, .c q36_6, .b 0, .c [1, 1]] [(0, vP g), (1, vP ra)] [Eba1f9 g c cl sl tp ep 3 fl bk cm sn cd, E0654b ra A false 0, E632c4 A]) (.bad)))))))) (by kernel_rfl) ?_
  refine ok_obl rfl ?_
  refine ok_obl rfl ?_
  refine ok_br (fun h => absurd (show (3 == 1) = false from (by decide)) (by rw [h]; simp)) (fun _ => ?_)
  refine ok_obl rfl ?_
  refine ok_br (fun h => absurd (show (3 == 2) = false from (by decide)) (by rw [h]; simp)) (fun _ => ?_)
  refine ok_obl rfl ?_
  refine ok_br (fun _ => ?_) (fun h => absurd (show (3 == 3) = true from (by decide)) (by rw [h]; simp))
  refine ok_stop ?_
  refine go_tail_call (dst := (some 71)) (ps := [g = g, g = g]) (cs := [(29, #[cfgV c, vI tp], vI (ctlAt c tp))]) [(0, .h .w), (1, .h .w), (2, .h .w), (3, .h .w), (4, .h (.e 0)), (5, .h .w), (6, .h .w), (7, .h .w), (8, .h (.e 0)), (9, .q (vI (ctlAt c tp)))] 10 [(11, .h .w)] [1, 2] [0, 1, 6] (by kernel_rfl) Tryz.call107 (ref_Load ra A (ctlAt c tp) (by first | assumption | omega | (simp only [InK] at *; omega)) hwd (by first | assumption | omega | (simp only [InK] at *; omega))) (by kernel_rfl) ⟨rfl, rfl, trivial⟩ ⟨⟨Tryz.call29, quiet_of [] (ref_Control c tp (by first | assumption | omega | (simp only [InK] at *; omega)) (by first | assumption | omega | (simp only [InK] at *; omega))) (by kernel_rfl) (by rintro v post ⟨rfl, rfl⟩; exact ⟨rfl, rfl⟩)⟩, trivial⟩ ?_
  rintro v post ⟨rfl, rfl⟩
  refine tail_next (tm' := [(0, vP g), (1, vP ra), (6, vU (A.ws.getD (ctlAt c tp).toNat 0))]) (ps2 := []) (by kernel_rfl) trivial ?_
  refine go_exec (rs := [.tmp 4]) (by kernel_rfl) 4000 [.e 1, .e 0, .e 0, .sp [84] [.dead] [.e 0, .n, .e 0, .z q36_8 0 [0, 6]]] (o := .obl (ra = ra) (.obl (g = g) (.obl (g = g) (.br ((A.ws.getD (ctlAt c tp).toNat 0) == sn) (.bad) (.obl (g = g) (.obl (InK .i64 (fl + 1)) (.obl (g = g) (.stop [.c q36_8, .c q36_9, .b 0, .c [1, 1]] [(0, vP g), (6, vU (A.ws.getD (ctlAt c tp).toNat 0))] [Eba1f9 g c cl sl tp ep 3 (fl + 1) bk ((A.load (ctlAt c tp)).steps) sn cd, E0654b ra (A.load (ctlAt c tp)) false 0, E632c4 (A.load (ctlAt c tp))])))))))) (by kernel_rfl) ?_
  refine ok_obl rfl ?_
  refine ok_obl rfl ?_
  refine ok_obl rfl ?_
  refine ok_br (fun h => absurd (show ((A.ws.getD (ctlAt c tp).toNat 0) == sn) = false from (beq_eq_false_iff_ne.2 hq)) (by rw [h]; simp)) (fun _ => ?_)
  refine ok_obl rfl ?_
  refine ok_obl (by simp only [InK]; omega) ?_
  refine ok_obl rfl ?_
  refine ok_stop ?_
  refine go_quiet (tm' := [(0, vP g), (6, vU (A.ws.getD (ctlAt c tp).toNat 0)), (103, .bool true)]) (ps := [g = g, g = g, ((fl + 1) == c.retry) = true]) (cs := []) [(0, .h .w), (1, .h .w), (2, .h .w), (3, .h (.e 0)), (4, .h .w), (5, .h .w), (6, .h .w), (7, .h .w), (8, .h (.e 0)), (9, .h (.t true))] [0, 6, 103] (by kernel_rfl) (by kernel_rfl) ⟨rfl, rfl, (beq_iff_eq.2 hr), trivial⟩ trivial ?_
  refine go_exec (rs := [.tmp 4]) (by kernel_rfl) 4000 [.z q36_10 1 [0, 104]] (o := .stop [.o q36_10 1, .b 0, .c [1, 1]] [(0, vP g), (104, vP g)] [Eba1f9 g c cl sl tp ep 3 (fl + 1) bk ((A.load (ctlAt c tp)).steps) sn cd, E0654b ra (A.load (ctlAt c tp)) false 0, E632c4 (A.load (ctlAt c tp))]) (by kernel_rfl) ?_
  refine ok_stop ?_
  refine go_call (some 105) [0] Tryz.call109 (r14EndE c g cl ep sl tp sn bk (fl + 1) ((A.load (ctlAt c tp)).steps) cd 3 17 (by decide)) (by kernel_rfl) ?_
  rintro v post ⟨rfl, rfl⟩
  refine go_exec (rs := [.tmp 4]) (by kernel_rfl) 4000 [.e 2] (o := .obl (g = g) (.ret (.bool true) [E0654b ra (A.load (ctlAt c tp)) false 0, E632c4 (A.load (ctlAt c tp)), Eba1f9 g c cl sl tp ep 0 (fl + 1) 0 ((A.load (ctlAt c tp)).steps) sn 17])) (by kernel_rfl) ?_
  refine ok_obl rfl ?_
  exact ret_ok (post := [Eba1f9 g c cl sl tp ep 0 (fl + 1) 0 ((A.load (ctlAt c tp)).steps) sn 17, E0654b ra (A.load (ctlAt c tp)) false 0, E632c4 (A.load (ctlAt c tp))]) [2, 0, 1] (by kernel_rfl) ⟨rfl, (by kernel_rfl)⟩


theorem r14Step3D (c : Cfg) (g ra : Nat) (cl ep sl tp sn bk fl cm cd : Int) (A : Ar) (hc : c.Ok) (hn : A.ws.length = A.n) (hs : 0 ≤ A.steps ∧ A.steps ≤ 1000000000) (htp : 0 ≤ tp ∧ tp < c.topics) (hwd : 0 ≤ ctlAt c tp ∧ ctlAt c tp < A.n) (hw : U64 (A.ws.getD (ctlAt c tp).toNat 0)) (hf0 : 0 ≤ fl ∧ fl ≤ 1000) (hq : (A.ws.getD (ctlAt c tp).toNat 0) ≠ sn) (hr : fl + 1 ≠ c.retry) (hl : ctlLive (A.ws.getD (ctlAt c tp).toNat 0) = false) :
    Ctr Tryz.prog 76 #[vP g, vP ra] [Eba1f9 g c cl sl tp ep 3 fl bk cm sn cd, E0654b ra A false 0, E632c4 A] (Ret (.bool true) [Eba1f9 g c cl sl tp ep 0 (fl + 1) 0 ((A.load (ctlAt c tp)).steps) (A.ws.getD (ctlAt c tp).toNat 0) 22, E0654b ra (A.load (ctlAt c tp)) false 0, E632c4 (A.load (ctlAt c tp))]) := by
  refine ctr_of (args := [vP g, vP ra]) (fn := Tryz.f76) (body := B76) (nt := 114) Tryz.func76 (by kernel_rfl) (by kernel_rfl) ?_
  intro F
  refine go_exec (rs := [.tmp 4]) (by kernel_rfl) 4000 [.e 0, .sp [11, 12] [.dead] [.sp [34, 35] [.dead] [.sp [59, 60] [.z q36_5 0 [0, 1]] [.dead]]]] (o := .obl (g = g) (.obl ((3 == 1) = (3 == 1)) (.br (3 == 1) (.bad) (.obl ((3 == 2) = (3 == 2)) (.br (3 == 2) (.bad) (.obl ((3 == 3) = (3 == 3)) (.br (3 == 3) (.stop [.c q36_5, .c q36_6, .b 0, .c [1, 1]] [(0, vP g), (1, vP ra)] [Eba1f9 g c cl sl tp ep 3 fl bk cm sn cd, E0654b ra A false 0, E632c4 A]) (.bad)))))))) (by kernel_rfl) ?_
  refine ok_obl rfl ?_
  refine ok_obl rfl ?_
  refine ok_br (fun h => absurd (show (3 == 1) = false from (by decide)) (by rw [h]; simp)) (fun _ => ?_)
  refine ok_obl rfl ?_
  refine ok_br (fun h => absurd (show (3 == 2) = false from (by decide)) (by rw [h]; simp)) (fun _ => ?_)
  refine ok_obl rfl ?_
  refine ok_br (fun _ => ?_) (fun h => absurd (show (3 == 3) = true from (by decide)) (by rw [h]; simp))
  refine ok_stop ?_
  refine go_tail_call (dst := (some 71)) (ps := [g = g, g = g]) (cs := [(29, #[cfgV c, vI tp], vI (ctlAt c tp))]) [(0, .h .w), (1, .h .w), (2, .h .w), (3, .h .w), (4, .h (.e 0)), (5, .h .w), (6, .h .w), (7, .h .w), (8, .h (.e 0)), (9, .q (vI (ctlAt c tp)))] 10 [(11, .h .w)] [1, 2] [0, 1, 6] (by kernel_rfl) Tryz.call107 (ref_Load ra A (ctlAt c tp) (by first | assumption | omega | (simp only [InK] at *; omega)) hwd (by first | assumption | omega | (simp only [InK] at *; omega))) (by kernel_rfl) ⟨rfl, rfl, trivial⟩ ⟨⟨Tryz.call29, quiet_of [] (ref_Control c tp (by first | assumption | omega | (simp only [InK] at *; omega)) (by first | assumption | omega | (simp only [InK] at *; omega))) (by kernel_rfl) (by rintro v post ⟨rfl, rfl⟩; exact ⟨rfl, rfl⟩)⟩, trivial⟩ ?_
  rintro v post ⟨rfl, rfl⟩
  refine tail_next (tm' := [(0, vP g), (1, vP ra), (6, vU (A.ws.getD (ctlAt c tp).toNat 0))]) (ps2 := []) (by kernel_rfl) trivial ?_
  refine go_exec (rs := [.tmp 4]) (by kernel_rfl) 4000 [.e 1, .e 0, .e 0, .sp [84] [.dead] [.e 0, .n, .e 0, .z q36_8 0 [0, 6]]] (o := .obl (ra = ra) (.obl (g = g) (.obl (g = g) (.br ((A.ws.getD (ctlAt c tp).toNat 0) == sn) (.bad) (.obl (g = g) (.obl (InK .i64 (fl + 1)) (.obl (g = g) (.stop [.c q36_8, .c q36_9, .b 0, .c [1, 1]] [(0, vP g), (6, vU (A.ws.getD (ctlAt c tp).toNat 0))] [Eba1f9 g c cl sl tp ep 3 (fl + 1) bk ((A.load (ctlAt c tp)).steps) sn cd, E0654b ra (A.load (ctlAt c tp)) false 0, E632c4 (A.load (ctlAt c tp))])))))))) (by kernel_rfl) ?_
  refine ok_obl rfl ?_
  refine ok_obl rfl ?_
  refine ok_obl rfl ?_
  refine ok_br (fun h => absurd (show ((A.ws.getD (ctlAt c tp).toNat 0) == sn) = false from (beq_eq_false_iff_ne.2 hq)) (by rw [h]; simp)) (fun _ => ?_)
  refine ok_obl rfl ?_
  refine ok_obl (by simp only [InK]; omega) ?_
  refine ok_obl rfl ?_
  refine ok_stop ?_
  refine go_quiet (tm' := [(0, vP g), (6, vU (A.ws.getD (ctlAt c tp).toNat 0)), (103, .bool false)]) (ps := [g = g, g = g, ((fl + 1) == c.retry) = false]) (cs := []) [(0, .h .w), (1, .h .w), (2, .h .w), (3, .h (.e 0)), (4, .h .w), (5, .h .w), (6, .h .w), (7, .h .w), (8, .h (.e 0)), (9, .h (.t false))] [0, 6, 103] (by kernel_rfl) (by kernel_rfl) ⟨rfl, rfl, (beq_eq_false_iff_ne.2 hr), trivial⟩ trivial ?_
  refine go_exec (rs := [.tmp 4]) (by kernel_rfl) 4000 [.z q36_11 2 [0, 106, 107]] (o := .stop [.o q36_11 2, .b 0, .c [1, 1]] [(0, vP g), (106, vP g), (107, vU (A.ws.getD (ctlAt c tp).toNat 0))] [Eba1f9 g c cl sl tp ep 3 (fl + 1) bk ((A.load (ctlAt c tp)).steps) sn cd, E0654b ra (A.load (ctlAt c tp)) false 0, E632c4 (A.load (ctlAt c tp))]) (by kernel_rfl) ?_
  refine ok_stop ?_
  refine go_call (some 108) [0] Tryz.call108 (r14LookD c g cl ep sl tp sn bk (fl + 1) ((A.load (ctlAt c tp)).steps) cd 3 (A.ws.getD (ctlAt c tp).toNat 0) (by first | assumption | omega | (simp only [InK] at *; omega)) (by first | assumption | omega | (simp only [InK] at *; omega))) (by kernel_rfl) ?_
  rintro v post ⟨rfl, rfl⟩
  refine go_exec (rs := [.tmp 4]) (by kernel_rfl) 4000 [.e 2] (o := .obl (g = g) (.ret (.bool true) [E0654b ra (A.load (ctlAt c tp)) false 0, E632c4 (A.load (ctlAt c tp)), Eba1f9 g c cl sl tp ep 0 (fl + 1) 0 ((A.load (ctlAt c tp)).steps) (A.ws.getD (ctlAt c tp).toNat 0) 22])) (by kernel_rfl) ?_
  refine ok_obl rfl ?_
  exact ret_ok (post := [Eba1f9 g c cl sl tp ep 0 (fl + 1) 0 ((A.load (ctlAt c tp)).steps) (A.ws.getD (ctlAt c tp).toNat 0) 22, E0654b ra (A.load (ctlAt c tp)) false 0, E632c4 (A.load (ctlAt c tp))]) [2, 0, 1] (by kernel_rfl) ⟨rfl, (by kernel_rfl)⟩


theorem r14Step3P (c : Cfg) (g ra : Nat) (cl ep sl tp sn bk fl cm cd : Int) (A : Ar) (hc : c.Ok) (hn : A.ws.length = A.n) (hs : 0 ≤ A.steps ∧ A.steps ≤ 1000000000) (htp : 0 ≤ tp ∧ tp < c.topics) (hwd : 0 ≤ ctlAt c tp ∧ ctlAt c tp < A.n) (hw : U64 (A.ws.getD (ctlAt c tp).toNat 0)) (hf0 : 0 ≤ fl ∧ fl ≤ 1000) (hq : (A.ws.getD (ctlAt c tp).toNat 0) ≠ sn) (hr : fl + 1 ≠ c.retry) (hl : ctlLive (A.ws.getD (ctlAt c tp).toNat 0) = true) (he : ctlEpoch (A.ws.getD (ctlAt c tp).toNat 0) ≠ ep) :
    Ctr Tryz.prog 76 #[vP g, vP ra] [Eba1f9 g c cl sl tp ep 3 fl bk cm sn cd, E0654b ra A false 0, E632c4 A] (Ret (.bool true) [Eba1f9 g c cl sl tp ep 0 (fl + 1) 0 ((A.load (ctlAt c tp)).steps) (A.ws.getD (ctlAt c tp).toNat 0) 22, E0654b ra (A.load (ctlAt c tp)) false 0, E632c4 (A.load (ctlAt c tp))]) := by
  refine ctr_of (args := [vP g, vP ra]) (fn := Tryz.f76) (body := B76) (nt := 114) Tryz.func76 (by kernel_rfl) (by kernel_rfl) ?_
  intro F
  refine go_exec (rs := [.tmp 4]) (by kernel_rfl) 4000 [.e 0, .sp [11, 12] [.dead] [.sp [34, 35] [.dead] [.sp [59, 60] [.z q36_5 0 [0, 1]] [.dead]]]] (o := .obl (g = g) (.obl ((3 == 1) = (3 == 1)) (.br (3 == 1) (.bad) (.obl ((3 == 2) = (3 == 2)) (.br (3 == 2) (.bad) (.obl ((3 == 3) = (3 == 3)) (.br (3 == 3) (.stop [.c q36_5, .c q36_6, .b 0, .c [1, 1]] [(0, vP g), (1, vP ra)] [Eba1f9 g c cl sl tp ep 3 fl bk cm sn cd, E0654b ra A false 0, E632c4 A]) (.bad)))))))) (by kernel_rfl) ?_
  refine ok_obl rfl ?_
  refine ok_obl rfl ?_
  refine ok_br (fun h => absurd (show (3 == 1) = false from (by decide)) (by rw [h]; simp)) (fun _ => ?_)
  refine ok_obl rfl ?_
  refine ok_br (fun h => absurd (show (3 == 2) = false from (by decide)) (by rw [h]; simp)) (fun _ => ?_)
  refine ok_obl rfl ?_
  refine ok_br (fun _ => ?_) (fun h => absurd (show (3 == 3) = true from (by decide)) (by rw [h]; simp))
  refine ok_stop ?_
  refine go_tail_call (dst := (some 71)) (ps := [g = g, g = g]) (cs := [(29, #[cfgV c, vI tp], vI (ctlAt c tp))]) [(0, .h .w), (1, .h .w), (2, .h .w), (3, .h .w), (4, .h (.e 0)), (5, .h .w), (6, .h .w), (7, .h .w), (8, .h (.e 0)), (9, .q (vI (ctlAt c tp)))] 10 [(11, .h .w)] [1, 2] [0, 1, 6] (by kernel_rfl) Tryz.call107 (ref_Load ra A (ctlAt c tp) (by first | assumption | omega | (simp only [InK] at *; omega)) hwd (by first | assumption | omega | (simp only [InK] at *; omega))) (by kernel_rfl) ⟨rfl, rfl, trivial⟩ ⟨⟨Tryz.call29, quiet_of [] (ref_Control c tp (by first | assumption | omega | (simp only [InK] at *; omega)) (by first | assumption | omega | (simp only [InK] at *; omega))) (by kernel_rfl) (by rintro v post ⟨rfl, rfl⟩; exact ⟨rfl, rfl⟩)⟩, trivial⟩ ?_
  rintro v post ⟨rfl, rfl⟩
  refine tail_next (tm' := [(0, vP g), (1, vP ra), (6, vU (A.ws.getD (ctlAt c tp).toNat 0))]) (ps2 := []) (by kernel_rfl) trivial ?_
  refine go_exec (rs := [.tmp 4]) (by kernel_rfl) 4000 [.e 1, .e 0, .e 0, .sp [84] [.dead] [.e 0, .n, .e 0, .z q36_8 0 [0, 6]]] (o := .obl (ra = ra) (.obl (g = g) (.obl (g = g) (.br ((A.ws.getD (ctlAt c tp).toNat 0) == sn) (.bad) (.obl (g = g) (.obl (InK .i64 (fl + 1)) (.obl (g = g) (.stop [.c q36_8, .c q36_9, .b 0, .c [1, 1]] [(0, vP g), (6, vU (A.ws.getD (ctlAt c tp).toNat 0))] [Eba1f9 g c cl sl tp ep 3 (fl + 1) bk ((A.load (ctlAt c tp)).steps) sn cd, E0654b ra (A.load (ctlAt c tp)) false 0, E632c4 (A.load (ctlAt c tp))])))))))) (by kernel_rfl) ?_
  refine ok_obl rfl ?_
  refine ok_obl rfl ?_
  refine ok_obl rfl ?_
  refine ok_br (fun h => absurd (show ((A.ws.getD (ctlAt c tp).toNat 0) == sn) = false from (beq_eq_false_iff_ne.2 hq)) (by rw [h]; simp)) (fun _ => ?_)
  refine ok_obl rfl ?_
  refine ok_obl (by simp only [InK]; omega) ?_
  refine ok_obl rfl ?_
  refine ok_stop ?_
  refine go_quiet (tm' := [(0, vP g), (6, vU (A.ws.getD (ctlAt c tp).toNat 0)), (103, .bool false)]) (ps := [g = g, g = g, ((fl + 1) == c.retry) = false]) (cs := []) [(0, .h .w), (1, .h .w), (2, .h .w), (3, .h (.e 0)), (4, .h .w), (5, .h .w), (6, .h .w), (7, .h .w), (8, .h (.e 0)), (9, .h (.t false))] [0, 6, 103] (by kernel_rfl) (by kernel_rfl) ⟨rfl, rfl, (beq_eq_false_iff_ne.2 hr), trivial⟩ trivial ?_
  refine go_exec (rs := [.tmp 4]) (by kernel_rfl) 4000 [.z q36_11 2 [0, 106, 107]] (o := .stop [.o q36_11 2, .b 0, .c [1, 1]] [(0, vP g), (106, vP g), (107, vU (A.ws.getD (ctlAt c tp).toNat 0))] [Eba1f9 g c cl sl tp ep 3 (fl + 1) bk ((A.load (ctlAt c tp)).steps) sn cd, E0654b ra (A.load (ctlAt c tp)) false 0, E632c4 (A.load (ctlAt c tp))]) (by kernel_rfl) ?_
  refine ok_stop ?_
  refine go_call (some 108) [0] Tryz.call108 (r14LookP c g cl ep sl tp sn bk (fl + 1) ((A.load (ctlAt c tp)).steps) cd 3 (A.ws.getD (ctlAt c tp).toNat 0) (by first | assumption | omega | (simp only [InK] at *; omega)) (by first | assumption | omega | (simp only [InK] at *; omega)) (by first | assumption | omega | (simp only [InK] at *; omega))) (by kernel_rfl) ?_
  rintro v post ⟨rfl, rfl⟩
  refine go_exec (rs := [.tmp 4]) (by kernel_rfl) 4000 [.e 2] (o := .obl (g = g) (.ret (.bool true) [E0654b ra (A.load (ctlAt c tp)) false 0, E632c4 (A.load (ctlAt c tp)), Eba1f9 g c cl sl tp ep 0 (fl + 1) 0 ((A.load (ctlAt c tp)).steps) (A.ws.getD (ctlAt c tp).toNat 0) 22])) (by kernel_rfl) ?_
  refine ok_obl rfl ?_
  exact ret_ok (post := [Eba1f9 g c cl sl tp ep 0 (fl + 1) 0 ((A.load (ctlAt c tp)).steps) (A.ws.getD (ctlAt c tp).toNat 0) 22, E0654b ra (A.load (ctlAt c tp)) false 0, E632c4 (A.load (ctlAt c tp))]) [2, 0, 1] (by kernel_rfl) ⟨rfl, (by kernel_rfl)⟩


theorem r14Step3E (c : Cfg) (g ra : Nat) (cl ep sl tp sn bk fl cm cd : Int) (A : Ar) (hc : c.Ok) (hn : A.ws.length = A.n) (hs : 0 ≤ A.steps ∧ A.steps ≤ 1000000000) (htp : 0 ≤ tp ∧ tp < c.topics) (hwd : 0 ≤ ctlAt c tp ∧ ctlAt c tp < A.n) (hw : U64 (A.ws.getD (ctlAt c tp).toNat 0)) (hf0 : 0 ≤ fl ∧ fl ≤ 1000) (hq : (A.ws.getD (ctlAt c tp).toNat 0) ≠ sn) (hr : fl + 1 ≠ c.retry) (hl : ctlLive (A.ws.getD (ctlAt c tp).toNat 0) = true) (he : ctlEpoch (A.ws.getD (ctlAt c tp).toNat 0) = ep) (hb : ctlBlock (A.ws.getD (ctlAt c tp).toNat 0) = 0) :
    Ctr Tryz.prog 76 #[vP g, vP ra] [Eba1f9 g c cl sl tp ep 3 fl bk cm sn cd, E0654b ra A false 0, E632c4 A] (Ret (.bool true) [Eba1f9 g c cl sl tp ep 0 (fl + 1) 0 ((A.load (ctlAt c tp)).steps) (A.ws.getD (ctlAt c tp).toNat 0) 20, E0654b ra (A.load (ctlAt c tp)) false 0, E632c4 (A.load (ctlAt c tp))]) := by
  refine ctr_of (args := [vP g, vP ra]) (fn := Tryz.f76) (body := B76) (nt := 114) Tryz.func76 (by kernel_rfl) (by kernel_rfl) ?_
  intro F
  refine go_exec (rs := [.tmp 4]) (by kernel_rfl) 4000 [.e 0, .sp [11, 12] [.dead] [.sp [34, 35] [.dead] [.sp [59, 60] [.z q36_5 0 [0, 1]] [.dead]]]] (o := .obl (g = g) (.obl ((3 == 1) = (3 == 1)) (.br (3 == 1) (.bad) (.obl ((3 == 2) = (3 == 2)) (.br (3 == 2) (.bad) (.obl ((3 == 3) = (3 == 3)) (.br (3 == 3) (.stop [.c q36_5, .c q36_6, .b 0, .c [1, 1]] [(0, vP g), (1, vP ra)] [Eba1f9 g c cl sl tp ep 3 fl bk cm sn cd, E0654b ra A false 0, E632c4 A]) (.bad)))))))) (by kernel_rfl) ?_
  refine ok_obl rfl ?_
  refine ok_obl rfl ?_
  refine ok_br (fun h => absurd (show (3 == 1) = false from (by decide)) (by rw [h]; simp)) (fun _ => ?_)
  refine ok_obl rfl ?_
  refine ok_br (fun h => absurd (show (3 == 2) = false from (by decide)) (by rw [h]; simp)) (fun _ => ?_)
  refine ok_obl rfl ?_
  refine ok_br (fun _ => ?_) (fun h => absurd (show (3 == 3) = true from (by decide)) (by rw [h]; simp))
  refine ok_stop ?_
  refine go_tail_call (dst := (some 71)) (ps := [g = g, g = g]) (cs := [(29, #[cfgV c, vI tp], vI (ctlAt c tp))]) [(0, .h .w), (1, .h .w), (2, .h .w), (3, .h .w), (4, .h (.e 0)), (5, .h .w), (6, .h .w), (7, .h .w), (8, .h (.e 0)), (9, .q (vI (ctlAt c tp)))] 10 [(11, .h .w)] [1, 2] [0, 1, 6] (by kernel_rfl) Tryz.call107 (ref_Load ra A (ctlAt c tp) (by first | assumption | omega | (simp only [InK] at *; omega)) hwd (by first | assumption | omega | (simp only [InK] at *; omega))) (by kernel_rfl) ⟨rfl, rfl, trivial⟩ ⟨⟨Tryz.call29, quiet_of [] (ref_Control c tp (by first | assumption | omega | (simp only [InK] at *; omega)) (by first | assumption | omega | (simp only [InK] at *; omega))) (by kernel_rfl) (by rintro v post ⟨rfl, rfl⟩; exact ⟨rfl, rfl⟩)⟩, trivial⟩ ?_
  rintro v post ⟨rfl, rfl⟩
  refine tail_next (tm' := [(0, vP g), (1, vP ra), (6, vU (A.ws.getD (ctlAt c tp).toNat 0))]) (ps2 := []) (by kernel_rfl) trivial ?_
  refine go_exec (rs := [.tmp 4]) (by kernel_rfl) 4000 [.e 1, .e 0, .e 0, .sp [84] [.dead] [.e 0, .n, .e 0, .z q36_8 0 [0, 6]]] (o := .obl (ra = ra) (.obl (g = g) (.obl (g = g) (.br ((A.ws.getD (ctlAt c tp).toNat 0) == sn) (.bad) (.obl (g = g) (.obl (InK .i64 (fl + 1)) (.obl (g = g) (.stop [.c q36_8, .c q36_9, .b 0, .c [1, 1]] [(0, vP g), (6, vU (A.ws.getD (ctlAt c tp).toNat 0))] [Eba1f9 g c cl sl tp ep 3 (fl + 1) bk ((A.load (ctlAt c tp)).steps) sn cd, E0654b ra (A.load (ctlAt c tp)) false 0, E632c4 (A.load (ctlAt c tp))])))))))) (by kernel_rfl) ?_
  refine ok_obl rfl ?_
  refine ok_obl rfl ?_
  refine ok_obl rfl ?_
  refine ok_br (fun h => absurd (show ((A.ws.getD (ctlAt c tp).toNat 0) == sn) = false from (beq_eq_false_iff_ne.2 hq)) (by rw [h]; simp)) (fun _ => ?_)
  refine ok_obl rfl ?_
  refine ok_obl (by simp only [InK]; omega) ?_
  refine ok_obl rfl ?_
  refine ok_stop ?_
  refine go_quiet (tm' := [(0, vP g), (6, vU (A.ws.getD (ctlAt c tp).toNat 0)), (103, .bool false)]) (ps := [g = g, g = g, ((fl + 1) == c.retry) = false]) (cs := []) [(0, .h .w), (1, .h .w), (2, .h .w), (3, .h (.e 0)), (4, .h .w), (5, .h .w), (6, .h .w), (7, .h .w), (8, .h (.e 0)), (9, .h (.t false))] [0, 6, 103] (by kernel_rfl) (by kernel_rfl) ⟨rfl, rfl, (beq_eq_false_iff_ne.2 hr), trivial⟩ trivial ?_
  refine go_exec (rs := [.tmp 4]) (by kernel_rfl) 4000 [.z q36_11 2 [0, 106, 107]] (o := .stop [.o q36_11 2, .b 0, .c [1, 1]] [(0, vP g), (106, vP g), (107, vU (A.ws.getD (ctlAt c tp).toNat 0))] [Eba1f9 g c cl sl tp ep 3 (fl + 1) bk ((A.load (ctlAt c tp)).steps) sn cd, E0654b ra (A.load (ctlAt c tp)) false 0, E632c4 (A.load (ctlAt c tp))]) (by kernel_rfl) ?_
  refine ok_stop ?_
  refine go_call (some 108) [0] Tryz.call108 (r14LookE c g cl ep sl tp sn bk (fl + 1) ((A.load (ctlAt c tp)).steps) cd 3 (A.ws.getD (ctlAt c tp).toNat 0) (by first | assumption | omega | (simp only [InK] at *; omega)) (by first | assumption | omega | (simp only [InK] at *; omega)) (by first | assumption | omega | (simp only [InK] at *; omega)) (by first | assumption | omega | (simp only [InK] at *; omega))) (by kernel_rfl) ?_
  rintro v post ⟨rfl, rfl⟩
  refine go_exec (rs := [.tmp 4]) (by kernel_rfl) 4000 [.e 2] (o := .obl (g = g) (.ret (.bool true) [E0654b ra (A.load (ctlAt c tp)) false 0, E632c4 (A.load (ctlAt c tp)), Eba1f9 g c cl sl tp ep 0 (fl + 1) 0 ((A.load (ctlAt c tp)).steps) (A.ws.getD (ctlAt c tp).toNat 0) 20])) (by kernel_rfl) ?_
  refine ok_obl rfl ?_
  exact ret_ok (post := [Eba1f9 g c cl sl tp ep 0 (fl + 1) 0 ((A.load (ctlAt c tp)).steps) (A.ws.getD (ctlAt c tp).toNat 0) 20, E0654b ra (A.load (ctlAt c tp)) false 0, E632c4 (A.load (ctlAt c tp))]) [2, 0, 1] (by kernel_rfl) ⟨rfl, (by kernel_rfl)⟩


theorem r14Step3N (c : Cfg) (g ra : Nat) (cl ep sl tp sn bk fl cm cd : Int) (A : Ar) (hc : c.Ok) (hn : A.ws.length = A.n) (hs : 0 ≤ A.steps ∧ A.steps ≤ 1000000000) (htp : 0 ≤ tp ∧ tp < c.topics) (hwd : 0 ≤ ctlAt c tp ∧ ctlAt c tp < A.n) (hw : U64 (A.ws.getD (ctlAt c tp).toNat 0)) (hf0 : 0 ≤ fl ∧ fl ≤ 1000) (hq : (A.ws.getD (ctlAt c tp).toNat 0) ≠ sn) (hr : fl + 1 ≠ c.retry) (hl : ctlLive (A.ws.getD (ctlAt c tp).toNat 0) = true) (he : ctlEpoch (A.ws.getD (ctlAt c tp).toNat 0) = ep) (hb : ctlBlock (A.ws.getD (ctlAt c tp).toNat 0) ≠ 0) :
    Ctr Tryz.prog 76 #[vP g, vP ra] [Eba1f9 g c cl sl tp ep 3 fl bk cm sn cd, E0654b ra A false 0, E632c4 A] (Ret (.bool false) [Eba1f9 g c cl sl tp ep 2 (fl + 1) (ctlBlock (A.ws.getD (ctlAt c tp).toNat 0)) ((A.load (ctlAt c tp)).steps) (A.ws.getD (ctlAt c tp).toNat 0) cd, E0654b ra (A.load (ctlAt c tp)) false 0, E632c4 (A.load (ctlAt c tp))]) := by
  refine ctr_of (args := [vP g, vP ra]) (fn := Tryz.f76) (body := B76) (nt := 114) Tryz.func76 (by kernel_rfl) (by kernel_rfl) ?_
  intro F
  refine go_exec (rs := [.tmp 4]) (by kernel_rfl) 4000 [.e 0, .sp [11, 12] [.dead] [.sp [34, 35] [.dead] [.sp [59, 60] [.z q36_5 0 [0, 1]] [.dead]]]] (o := .obl (g = g) (.obl ((3 == 1) = (3 == 1)) (.br (3 == 1) (.bad) (.obl ((3 == 2) = (3 == 2)) (.br (3 == 2) (.bad) (.obl ((3 == 3) = (3 == 3)) (.br (3 == 3) (.stop [.c q36_5, .c q36_6, .b 0, .c [1, 1]] [(0, vP g), (1, vP ra)] [Eba1f9 g c cl sl tp ep 3 fl bk cm sn cd, E0654b ra A false 0, E632c4 A]) (.bad)))))))) (by kernel_rfl) ?_
  refine ok_obl rfl ?_
  refine ok_obl rfl ?_
  refine ok_br (fun h => absurd (show (3 == 1) = false from (by decide)) (by rw [h]; simp)) (fun _ => ?_)
  refine ok_obl rfl ?_
  refine ok_br (fun h => absurd (show (3 == 2) = false from (by decide)) (by rw [h]; simp)) (fun _ => ?_)
  refine ok_obl rfl ?_
  refine ok_br (fun _ => ?_) (fun h => absurd (show (3 == 3) = true from (by decide)) (by rw [h]; simp))
  refine ok_stop ?_
  refine go_tail_call (dst := (some 71)) (ps := [g = g, g = g]) (cs := [(29, #[cfgV c, vI tp], vI (ctlAt c tp))]) [(0, .h .w), (1, .h .w), (2, .h .w), (3, .h .w), (4, .h (.e 0)), (5, .h .w), (6, .h .w), (7, .h .w), (8, .h (.e 0)), (9, .q (vI (ctlAt c tp)))] 10 [(11, .h .w)] [1, 2] [0, 1, 6] (by kernel_rfl) Tryz.call107 (ref_Load ra A (ctlAt c tp) (by first | assumption | omega | (simp only [InK] at *; omega)) hwd (by first | assumption | omega | (simp only [InK] at *; omega))) (by kernel_rfl) ⟨rfl, rfl, trivial⟩ ⟨⟨Tryz.call29, quiet_of [] (ref_Control c tp (by first | assumption | omega | (simp only [InK] at *; omega)) (by first | assumption | omega | (simp only [InK] at *; omega))) (by kernel_rfl) (by rintro v post ⟨rfl, rfl⟩; exact ⟨rfl, rfl⟩)⟩, trivial⟩ ?_
  rintro v post ⟨rfl, rfl⟩
  refine tail_next (tm' := [(0, vP g), (1, vP ra), (6, vU (A.ws.getD (ctlAt c tp).toNat 0))]) (ps2 := []) (by kernel_rfl) trivial ?_
  refine go_exec (rs := [.tmp 4]) (by kernel_rfl) 4000 [.e 1, .e 0, .e 0, .sp [84] [.dead] [.e 0, .n, .e 0, .z q36_8 0 [0, 6]]] (o := .obl (ra = ra) (.obl (g = g) (.obl (g = g) (.br ((A.ws.getD (ctlAt c tp).toNat 0) == sn) (.bad) (.obl (g = g) (.obl (InK .i64 (fl + 1)) (.obl (g = g) (.stop [.c q36_8, .c q36_9, .b 0, .c [1, 1]] [(0, vP g), (6, vU (A.ws.getD (ctlAt c tp).toNat 0))] [Eba1f9 g c cl sl tp ep 3 (fl + 1) bk ((A.load (ctlAt c tp)).steps) sn cd, E0654b ra (A.load (ctlAt c tp)) false 0, E632c4 (A.load (ctlAt c tp))])))))))) (by kernel_rfl) ?_
  refine ok_obl rfl ?_
  refine ok_obl rfl ?_
  refine ok_obl rfl ?_
  refine ok_br (fun h => absurd (show ((A.ws.getD (ctlAt c tp).toNat 0) == sn) = false from (beq_eq_false_iff_ne.2 hq)) (by rw [h]; simp)) (fun _ => ?_)
  refine ok_obl rfl ?_
  refine ok_obl (by simp only [InK]; omega) ?_
  refine ok_obl rfl ?_
  refine ok_stop ?_
  refine go_quiet (tm' := [(0, vP g), (6, vU (A.ws.getD (ctlAt c tp).toNat 0)), (103, .bool false)]) (ps := [g = g, g = g, ((fl + 1) == c.retry) = false]) (cs := []) [(0, .h .w), (1, .h .w), (2, .h .w), (3, .h (.e 0)), (4, .h .w), (5, .h .w), (6, .h .w), (7, .h .w), (8, .h (.e 0)), (9, .h (.t false))] [0, 6, 103] (by kernel_rfl) (by kernel_rfl) ⟨rfl, rfl, (beq_eq_false_iff_ne.2 hr), trivial⟩ trivial ?_
  refine go_exec (rs := [.tmp 4]) (by kernel_rfl) 4000 [.z q36_11 2 [0, 106, 107]] (o := .stop [.o q36_11 2, .b 0, .c [1, 1]] [(0, vP g), (106, vP g), (107, vU (A.ws.getD (ctlAt c tp).toNat 0))] [Eba1f9 g c cl sl tp ep 3 (fl + 1) bk ((A.load (ctlAt c tp)).steps) sn cd, E0654b ra (A.load (ctlAt c tp)) false 0, E632c4 (A.load (ctlAt c tp))]) (by kernel_rfl) ?_
  refine ok_stop ?_
  refine go_call (some 108) [0] Tryz.call108 (r14LookN c g cl ep sl tp sn bk (fl + 1) ((A.load (ctlAt c tp)).steps) cd 3 (A.ws.getD (ctlAt c tp).toNat 0) (by first | assumption | omega | (simp only [InK] at *; omega)) (by first | assumption | omega | (simp only [InK] at *; omega)) (by first | assumption | omega | (simp only [InK] at *; omega)) (by first | assumption | omega | (simp only [InK] at *; omega))) (by kernel_rfl) ?_
  rintro v post ⟨rfl, rfl⟩
  refine go_exec (rs := [.tmp 4]) (by kernel_rfl) 4000 [.e 2] (o := .obl (g = g) (.ret (.bool false) [E0654b ra (A.load (ctlAt c tp)) false 0, E632c4 (A.load (ctlAt c tp)), Eba1f9 g c cl sl tp ep 2 (fl + 1) (ctlBlock (A.ws.getD (ctlAt c tp).toNat 0)) ((A.load (ctlAt c tp)).steps) (A.ws.getD (ctlAt c tp).toNat 0) cd])) (by kernel_rfl) ?_
  refine ok_obl rfl ?_
  exact ret_ok (post := [Eba1f9 g c cl sl tp ep 2 (fl + 1) (ctlBlock (A.ws.getD (ctlAt c tp).toNat 0)) ((A.load (ctlAt c tp)).steps) (A.ws.getD (ctlAt c tp).toNat 0) cd, E0654b ra (A.load (ctlAt c tp)) false 0, E632c4 (A.load (ctlAt c tp))]) [2, 0, 1] (by kernel_rfl) ⟨rfl, (by kernel_rfl)⟩


theorem ref14_Step (c : Cfg) (g ra : Nat) (sl tp : Int) (G : Gu) (A : Ar) (hc : c.Ok) (hn : A.ws.length = A.n) (hs : 0 ≤ A.steps ∧ A.steps ≤ 1000000000) (hR : RngW A.ws) (hG : Gu.Ok c A.n G) (htp : 0 ≤ tp ∧ tp < c.topics) (hsk : InK .i64 sl) (hwq : G.word = ctlAt c tp) (hsq : G.slot = slotAt c sl) :
    Ctr Tryz.prog 76 #[vP g, vP ra] [E2fa0d g c G sl tp, E0654b ra A false 0, E632c4 A] (Ret (.bool ((G.step c.retry A).1.ph == 0)) [E2fa0d g c ((G.step c.retry A).1) sl tp, E0654b ra ((G.step c.retry A).2) false 0, E632c4 ((G.step c.retry A).2)]) := by
  obtain ⟨cl, ep, sl', wd', sn, bk, fl, cm, cd, ph⟩ := G
  obtain ⟨hph, hsl, hwd, hcl, hbk, hf0, _⟩ := hG
  simp only at hph hsl hwd hcl hbk hf0 hwq hsq
  subst hwq; subst hsq
  have hc' := hc
  simp only [Cfg.Ok] at hc'
  have hw : U64 (A.ws.getD (ctlAt c tp).toNat 0) := hR _
  match ph, hph with
  | 0, _ => exact r14Step0 c g ra cl ep sl tp sn bk fl cm cd A
  | 1, _ =>
    by_cases hl : ctlLive (A.ws.getD (ctlAt c tp).toNat 0) = true
    · by_cases he : ctlEpoch (A.ws.getD (ctlAt c tp).toNat 0) = ep
      · by_cases hb : ctlBlock (A.ws.getD (ctlAt c tp).toNat 0) = 0
        · have e : Gu.step c.retry (⟨cl, ep, slotAt c sl, ctlAt c tp, sn, bk, fl, cm, cd, 1⟩ : Gu) A = ((⟨cl, ep, slotAt c sl, ctlAt c tp, (A.ws.getD (ctlAt c tp).toNat 0), 0, fl, (A.load (ctlAt c tp)).steps, 20, 0⟩ : Gu), A.load (ctlAt c tp)) := by
            show (Gu.look _ _, _) = _
            rw [Gu.look_E _ hl he hb]
          rw [e]; exact r14Step1E c g ra cl ep sl tp sn bk fl cm cd A hc hn hs htp hwd hw hl he hb
        · have e : Gu.step c.retry (⟨cl, ep, slotAt c sl, ctlAt c tp, sn, bk, fl, cm, cd, 1⟩ : Gu) A = ((⟨cl, ep, slotAt c sl, ctlAt c tp, (A.ws.getD (ctlAt c tp).toNat 0), (ctlBlock (A.ws.getD (ctlAt c tp).toNat 0)), fl, (A.load (ctlAt c tp)).steps, cd, 2⟩ : Gu), A.load (ctlAt c tp)) := by
            show (Gu.look _ _, _) = _
            rw [Gu.look_N _ hl he hb]
          rw [e]; exact r14Step1N c g ra cl ep sl tp sn bk fl cm cd A hc hn hs htp hwd hw hl he hb
      · have e : Gu.step c.retry (⟨cl, ep, slotAt c sl, ctlAt c tp, sn, bk, fl, cm, cd, 1⟩ : Gu) A = ((⟨cl, ep, slotAt c sl, ctlAt c tp, (A.ws.getD (ctlAt c tp).toNat 0), 0, fl, (A.load (ctlAt c tp)).steps, 22, 0⟩ : Gu), A.load (ctlAt c tp)) := by
          show (Gu.look _ _, _) = _
          rw [Gu.look_P _ he]
        rw [e]; exact r14Step1P c g ra cl ep sl tp sn bk fl cm cd A hc hn hs htp hwd hw hl he
    · have hl := (Bool.not_eq_true _).mp hl
      have e : Gu.step c.retry (⟨cl, ep, slotAt c sl, ctlAt c tp, sn, bk, fl, cm, cd, 1⟩ : Gu) A = ((⟨cl, ep, slotAt c sl, ctlAt c tp, (A.ws.getD (ctlAt c tp).toNat 0), 0, fl, (A.load (ctlAt c tp)).steps, 22, 0⟩ : Gu), A.load (ctlAt c tp)) := by
        show (Gu.look _ _, _) = _
        rw [Gu.look_D _ hl]
      rw [e]; exact r14Step1D c g ra cl ep sl tp sn bk fl cm cd A hc hn hs htp hwd hw hl
  | 2, _ => exact r14Step2 c g ra cl ep sl tp sn bk fl cm cd A hc hn hs hsl hsk (by omega) hbk
  | 3, _ =>
    by_cases hq : (A.ws.getD (ctlAt c tp).toNat 0) = sn
    · have e : Gu.step c.retry (⟨cl, ep, slotAt c sl, ctlAt c tp, sn, bk, fl, cm, cd, 3⟩ : Gu) A = ((⟨cl, ep, slotAt c sl, ctlAt c tp, sn, bk, fl, (A.load (ctlAt c tp)).steps, 0, 0⟩ : Gu), A.load (ctlAt c tp)) := by
        show (if _ then _ else _) = _
        rw [if_pos hq]
      rw [e]; exact r14Step3K c g ra cl ep sl tp sn bk fl cm cd A hc hn hs htp hwd hw hf0 hq
    · by_cases hr : fl + 1 = c.retry
      · have e : Gu.step c.retry (⟨cl, ep, slotAt c sl, ctlAt c tp, sn, bk, fl, cm, cd, 3⟩ : Gu) A = ((⟨cl, ep, slotAt c sl, ctlAt c tp, sn, 0, (fl + 1), (A.load (ctlAt c tp)).steps, 17, 0⟩ : Gu), A.load (ctlAt c tp)) := by
          show (if _ then _ else _) = _
          rw [if_neg hq, if_pos hr]
        rw [e]; exact r14Step3R c g ra cl ep sl tp sn bk fl cm cd A hc hn hs htp hwd hw hf0 hq hr
      · by_cases hl : ctlLive (A.ws.getD (ctlAt c tp).toNat 0) = true
        · by_cases he : ctlEpoch (A.ws.getD (ctlAt c tp).toNat 0) = ep
          · by_cases hb : ctlBlock (A.ws.getD (ctlAt c tp).toNat 0) = 0
            · have e : Gu.step c.retry (⟨cl, ep, slotAt c sl, ctlAt c tp, sn, bk, fl, cm, cd, 3⟩ : Gu) A = ((⟨cl, ep, slotAt c sl, ctlAt c tp, (A.ws.getD (ctlAt c tp).toNat 0), 0, (fl + 1), (A.load (ctlAt c tp)).steps, 20, 0⟩ : Gu), A.load (ctlAt c tp)) := by
                show (if _ then _ else _) = _
                rw [if_neg hq, if_neg hr, Gu.look_E _ hl he hb]
              rw [e]; exact r14Step3E c g ra cl ep sl tp sn bk fl cm cd A hc hn hs htp hwd hw hf0 hq hr hl he hb
            · have e : Gu.step c.retry (⟨cl, ep, slotAt c sl, ctlAt c tp, sn, bk, fl, cm, cd, 3⟩ : Gu) A = ((⟨cl, ep, slotAt c sl, ctlAt c tp, (A.ws.getD (ctlAt c tp).toNat 0), (ctlBlock (A.ws.getD (ctlAt c tp).toNat 0)), (fl + 1), (A.load (ctlAt c tp)).steps, cd, 2⟩ : Gu), A.load (ctlAt c tp)) := by
                show (if _ then _ else _) = _
                rw [if_neg hq, if_neg hr, Gu.look_N _ hl he hb]
              rw [e]; exact r14Step3N c g ra cl ep sl tp sn bk fl cm cd A hc hn hs htp hwd hw hf0 hq hr hl he hb
          · have e : Gu.step c.retry (⟨cl, ep, slotAt c sl, ctlAt c tp, sn, bk, fl, cm, cd, 3⟩ : Gu) A = ((⟨cl, ep, slotAt c sl, ctlAt c tp, (A.ws.getD (ctlAt c tp).toNat 0), 0, (fl + 1), (A.load (ctlAt c tp)).steps, 22, 0⟩ : Gu), A.load (ctlAt c tp)) := by
              show (if _ then _ else _) = _
              rw [if_neg hq, if_neg hr, Gu.look_P _ he]
            rw [e]; exact r14Step3P c g ra cl ep sl tp sn bk fl cm cd A hc hn hs htp hwd hw hf0 hq hr hl he
        · have hl := (Bool.not_eq_true _).mp hl
          have e : Gu.step c.retry (⟨cl, ep, slotAt c sl, ctlAt c tp, sn, bk, fl, cm, cd, 3⟩ : Gu) A = ((⟨cl, ep, slotAt c sl, ctlAt c tp, (A.ws.getD (ctlAt c tp).toNat 0), 0, (fl + 1), (A.load (ctlAt c tp)).steps, 22, 0⟩ : Gu), A.load (ctlAt c tp)) := by
            show (if _ then _ else _) = _
            rw [if_neg hq, if_neg hr, Gu.look_D _ hl]
          rw [e]; exact r14Step3D c g ra cl ep sl tp sn bk fl cm cd A hc hn hs htp hwd hw hf0 hq hr hl
  | n + 4, h => omega

noncomputable def B74 : Code := (Tryz.f74.body).getD .skip

theorem ref14_New (c : Cfg) (cl sl tp ep : Int) (hc : c.Ok) (hcl : 0 ≤ cl ∧ cl < c.clients) (hsl : 0 ≤ sl ∧ sl < c.slots) (htp : 0 ≤ tp ∧ tp < c.topics) :
    Ctr Tryz.prog 74 #[cfgV c, vI cl, vI sl, vI tp, vI ep] [] (fun v L => ∃ (g : Nat), v = vP g ∧ L = [E2fa0d g c (newGu c cl sl tp ep) sl tp]) := by
  refine ctr_of (args := [cfgV c, vI cl, vI sl, vI tp, vI ep]) (fn := Tryz.f74) (body := B74) (nt := 53) Tryz.func74 (by kernel_rfl) (by kernel_rfl) ?_
  intro F
  refine go_exec (rs := [.tmp 10]) (by kernel_rfl) 4000 [.e 0, .z [0, 1] 1 [1, 2, 3, 4, 5, 12]] (o := .new fun b_1 => .obl (b_1 = b_1) (.stop [.o [0, 1] 1, .c [1, 1]] [(1, vI cl), (2, vI sl), (3, vI tp), (4, vI ep), (5, vP b_1), (12, cfgV c)] [Efdc04 b_1 c])) (by kernel_rfl) ?_
  refine ok_new fun b_1 => ?_
  refine ok_obl rfl ?_
  refine ok_stop ?_
  refine go_call (some 13) [] Tryz.call103 (ref_right c (by first | assumption | omega | (simp only [InK] at *; omega))) (by kernel_rfl) ?_
  rintro v post ⟨rfl, rfl⟩
  refine go_exec (rs := [.tmp 10]) (by kernel_rfl) 4000 [.sp [20, 18, 19] [.dead] [.e 0, .sp [26, 24, 25] [.dead] [.sp [30, 28, 29] [.dead] [.e 0, .sp [36, 34, 35] [.dead] [.sp [40, 38, 39] [.dead] [.e 0, .sp [45, 44] [.dead] [.e 0]]]]]]] (o := .obl ((decide (cl < 0)) = (decide (cl < 0))) (.obl ((decide (cl < 0)) = (decide (cl < 0))) (.br (decide (cl < 0)) (.bad) (.obl (b_1 = b_1) (.obl ((decide (cl ≥ c.clients)) = (decide (cl ≥ c.clients))) (.obl ((decide (cl ≥ c.clients)) = (decide (cl ≥ c.clients))) (.br (decide (cl ≥ c.clients)) (.bad) (.obl ((decide (sl < 0)) = (decide (sl < 0))) (.obl ((decide (sl < 0)) = (decide (sl < 0))) (.br (decide (sl < 0)) (.bad) (.obl (b_1 = b_1) (.obl ((decide (sl ≥ c.slots)) = (decide (sl ≥ c.slots))) (.obl ((decide (sl ≥ c.slots)) = (decide (sl ≥ c.slots))) (.br (decide (sl ≥ c.slots)) (.bad) (.obl ((decide (tp < 0)) = (decide (tp < 0))) (.obl ((decide (tp < 0)) = (decide (tp < 0))) (.br (decide (tp < 0)) (.bad) (.obl (b_1 = b_1) (.obl ((decide (tp ≥ c.topics)) = (decide (tp ≥ c.topics))) (.br (decide (tp ≥ c.topics)) (.bad) (.obl (b_1 = b_1) (.new fun b_2 => .ret (vP b_2) [Efdc04 b_1 c, Eba1f9 b_2 c cl sl tp ep 1 0 0 0 0 0])))))))))))))))))))))) (by kernel_rfl) ?_
  refine ok_obl rfl ?_
  refine ok_obl rfl ?_
  refine ok_br (fun h => absurd (show (decide (cl < 0)) = false from (by first | (simp; done) | (simp; omega))) (by rw [h]; simp)) (fun _ => ?_)
  refine ok_obl rfl ?_
  refine ok_obl rfl ?_
  refine ok_obl rfl ?_
  refine ok_br (fun h => absurd (show (decide (cl ≥ c.clients)) = false from (by first | (simp; done) | (simp; omega))) (by rw [h]; simp)) (fun _ => ?_)
  refine ok_obl rfl ?_
  refine ok_obl rfl ?_
  refine ok_br (fun h => absurd (show (decide (sl < 0)) = false from (by first | (simp; done) | (simp; omega))) (by rw [h]; simp)) (fun _ => ?_)
  refine ok_obl rfl ?_
  refine ok_obl rfl ?_
  refine ok_obl rfl ?_
  refine ok_br (fun h => absurd (show (decide (sl ≥ c.slots)) = false from (by first | (simp; done) | (simp; omega))) (by rw [h]; simp)) (fun _ => ?_)
  refine ok_obl rfl ?_
  refine ok_obl rfl ?_
  refine ok_br (fun h => absurd (show (decide (tp < 0)) = false from (by first | (simp; done) | (simp; omega))) (by rw [h]; simp)) (fun _ => ?_)
  refine ok_obl rfl ?_
  refine ok_obl rfl ?_
  refine ok_br (fun h => absurd (show (decide (tp ≥ c.topics)) = false from (by first | (simp; done) | (simp; omega))) (by rw [h]; simp)) (fun _ => ?_)
  refine ok_obl rfl ?_
  refine ok_new fun b_2 => ?_
  exact ret_ok (post := [Eba1f9 b_2 c cl sl tp ep 1 0 0 0 0 0]) [1] (by kernel_rfl) ⟨b_2, rfl, (by kernel_rfl)⟩


theorem ref_PackX (c : Cfg) (hc : c.Ok) :
    Ctr Tryz.prog 66 #[cfgV c] [] (Ret (vU (rpackW c)) []) := by
  refine ctr_of (args := [cfgV c]) (fn := Tryz.f66) (body := B66) (nt := 26) Tryz.func66 (by kernel_rfl) (by kernel_rfl) ?_
  intro F
  refine go_exec (rs := [.tmp 2]) (by kernel_rfl) 4000 [.e 0, .z [0, 1] 1 [1, 7]] (o := .new fun b_1 => .obl (b_1 = b_1) (.stop [.o [0, 1] 1, .c [1, 1]] [(1, vP b_1), (7, cfgV c)] [Efdc04 b_1 c])) (by kernel_rfl) ?_
  refine ok_new fun b_1 => ?_
  refine ok_obl rfl ?_
  refine ok_stop ?_
  refine go_call (some 8) [] Tryz.call103 (ref_right c (by first | assumption | omega | (simp only [InK] at *; omega))) (by kernel_rfl) ?_
  rintro v post ⟨rfl, rfl⟩
  refine go_exec (rs := [.tmp 2]) (by kernel_rfl) 4000 [.e 0, .z [0, 1, 1, 1] 1 [11]] (o := .obl (b_1 = b_1) (.stop [.o [0, 1, 1, 1] 1, .c [1, 1, 1, 1]] [(11, cfgV c)] [Efdc04 b_1 c])) (by kernel_rfl) ?_
  refine ok_obl rfl ?_
  refine ok_stop ?_
  refine go_call (some 12) [] Tryz.call104 (ref_Parts c) (by kernel_rfl) ?_
  rintro v post ⟨b_2, rfl, rfl⟩
  refine go_exec (rs := [.tmp 2]) (by kernel_rfl) 4000 [.u, .w, .w, .e 1, .n, .n, .w, .u, .n, .w, .e 1, .n, .n, .w, .u, .n, .w, .e 1, .n, .n, .w, .u, .n, .w, .e 1, .n, .n, .w, .u, .n, .w, .e 1, .n, .n, .w, .u, .n, .w, .e 1, .n, .n, .w, .u, .n, .w, .e 1, .n, .n, .w, .u, .n, .w, .e 1, .n, .n, .w, .u, .n, .w, .e 1, .n, .n, .w, .u] (o := .obl (b_2 = b_2) (.obl (InK .u64 c.n1) (.obl (InK .u64 (0 + c.n1)) (.obl (InK .u64 ((0 + c.n1) * 128)) (.obl (b_2 = b_2) (.obl (InK .u64 c.s1) (.obl (InK .u64 (((0 + c.n1) * 128) + c.s1)) (.obl (InK .u64 ((((0 + c.n1) * 128) + c.s1) * 128)) (.obl (b_2 = b_2) (.obl (InK .u64 c.n0) (.obl (InK .u64 (((((0 + c.n1) * 128) + c.s1) * 128) + c.n0)) (.obl (InK .u64 ((((((0 + c.n1) * 128) + c.s1) * 128) + c.n0) * 128)) (.obl (b_2 = b_2) (.obl (InK .u64 c.s0) (.obl (InK .u64 (((((((0 + c.n1) * 128) + c.s1) * 128) + c.n0) * 128) + c.s0)) (.obl (InK .u64 ((((((((0 + c.n1) * 128) + c.s1) * 128) + c.n0) * 128) + c.s0) * 128)) (.obl (b_2 = b_2) (.obl (InK .u64 c.retry) (.obl (InK .u64 (((((((((0 + c.n1) * 128) + c.s1) * 128) + c.n0) * 128) + c.s0) * 128) + c.retry)) (.obl (InK .u64 ((((((((((0 + c.n1) * 128) + c.s1) * 128) + c.n0) * 128) + c.s0) * 128) + c.retry) * 128)) (.obl (b_2 = b_2) (.obl (InK .u64 c.clients) (.obl (InK .u64 (((((((((((0 + c.n1) * 128) + c.s1) * 128) + c.n0) * 128) + c.s0) * 128) + c.retry) * 128) + c.clients)) (.obl (InK .u64 ((((((((((((0 + c.n1) * 128) + c.s1) * 128) + c.n0) * 128) + c.s0) * 128) + c.retry) * 128) + c.clients) * 128)) (.obl (b_2 = b_2) (.obl (InK .u64 c.slots) (.obl (InK .u64 (((((((((((((0 + c.n1) * 128) + c.s1) * 128) + c.n0) * 128) + c.s0) * 128) + c.retry) * 128) + c.clients) * 128) + c.slots)) (.obl (InK .u64 ((((((((((((((0 + c.n1) * 128) + c.s1) * 128) + c.n0) * 128) + c.s0) * 128) + c.retry) * 128) + c.clients) * 128) + c.slots) * 128)) (.obl (b_2 = b_2) (.obl (InK .u64 c.small) (.obl (InK .u64 (((((((((((((((0 + c.n1) * 128) + c.s1) * 128) + c.n0) * 128) + c.s0) * 128) + c.retry) * 128) + c.clients) * 128) + c.slots) * 128) + c.small)) (.obl (InK .u64 ((((((((((((((((0 + c.n1) * 128) + c.s1) * 128) + c.n0) * 128) + c.s0) * 128) + c.retry) * 128) + c.clients) * 128) + c.slots) * 128) + c.small) * 128)) (.obl (b_2 = b_2) (.obl (InK .u64 c.topics) (.obl (InK .u64 (((((((((((((((((0 + c.n1) * 128) + c.s1) * 128) + c.n0) * 128) + c.s0) * 128) + c.retry) * 128) + c.clients) * 128) + c.slots) * 128) + c.small) * 128) + c.topics)) (.ret (vU (((((((((((((((((0 + c.n1) * 128) + c.s1) * 128) + c.n0) * 128) + c.s0) * 128) + c.retry) * 128) + c.clients) * 128) + c.slots) * 128) + c.small) * 128) + c.topics)) [Efdc04 b_1 c, E854a5 b_2 c])))))))))))))))))))))))))))))))))))) (by kernel_rfl) ?_
  refine ok_obl rfl ?_
  refine ok_obl (by simp only [Cfg.Ok, InK] at *; omega) ?_
  refine ok_obl (by simp only [Cfg.Ok, InK] at *; omega) ?_
  refine ok_obl (by simp only [Cfg.Ok, InK] at *; omega) ?_
  refine ok_obl rfl ?_
  refine ok_obl (by simp only [Cfg.Ok, InK] at *; omega) ?_
  refine ok_obl (by simp only [Cfg.Ok, InK] at *; omega) ?_
  refine ok_obl (by simp only [Cfg.Ok, InK] at *; omega) ?_
  refine ok_obl rfl ?_
  refine ok_obl (by simp only [Cfg.Ok, InK] at *; omega) ?_
  refine ok_obl (by simp only [Cfg.Ok, InK] at *; omega) ?_
  refine ok_obl (by simp only [Cfg.Ok, InK] at *; omega) ?_
  refine ok_obl rfl ?_
  refine ok_obl (by simp only [Cfg.Ok, InK] at *; omega) ?_
  refine ok_obl (by simp only [Cfg.Ok, InK] at *; omega) ?_
  refine ok_obl (by simp only [Cfg.Ok, InK] at *; omega) ?_
  refine ok_obl rfl ?_
  refine ok_obl (by simp only [Cfg.Ok, InK] at *; omega) ?_
  refine ok_obl (by simp only [Cfg.Ok, InK] at *; omega) ?_
  refine ok_obl (by simp only [Cfg.Ok, InK] at *; omega) ?_
  refine ok_obl rfl ?_
  refine ok_obl (by simp only [Cfg.Ok, InK] at *; omega) ?_
  refine ok_obl (by simp only [Cfg.Ok, InK] at *; omega) ?_
  refine ok_obl (by simp only [Cfg.Ok, InK] at *; omega) ?_
  refine ok_obl rfl ?_
  refine ok_obl (by simp only [Cfg.Ok, InK] at *; omega) ?_
  refine ok_obl (by simp only [Cfg.Ok, InK] at *; omega) ?_
  refine ok_obl (by simp only [Cfg.Ok, InK] at *; omega) ?_
  refine ok_obl rfl ?_
  refine ok_obl (by simp only [Cfg.Ok, InK] at *; omega) ?_
  refine ok_obl (by simp only [Cfg.Ok, InK] at *; omega) ?_
  refine ok_obl (by simp only [Cfg.Ok, InK] at *; omega) ?_
  refine ok_obl rfl ?_
  refine ok_obl (by simp only [Cfg.Ok, InK] at *; omega) ?_
  refine ok_obl (by simp only [Cfg.Ok, InK] at *; omega) ?_
  exact ret_ok (post := []) [] (by kernel_rfl) ⟨rfl, (by kernel_rfl)⟩

noncomputable def B26 : Code := (Tryz.f26.body).getD .skip

theorem ref_MakeX (c : Cfg) (hc : c.Ok) :
    Ctr Tryz.prog 26 #[cfgV c] [] (fun v L => ∃ (ra : Nat) (aw : Option Addr) (cw : Nat), v = vP ra ∧ L = [E0654b ra (rmAr c (rpackW c) aw cw) false 0, E632c4 (rmAr c (rpackW c) aw cw)]) := by
  refine ctr_of (args := [cfgV c]) (fn := Tryz.f26) (body := B26) (nt := 109) Tryz.func26 (by kernel_rfl) (by kernel_rfl) ?_
  intro F
  refine go_exec (rs := [.tmp 2]) (by kernel_rfl) 4000 [.e 0, .z [0, 1] 1 [1, 6]] (o := .new fun b_1 => .obl (b_1 = b_1) (.stop [.o [0, 1] 1, .c [1, 1]] [(1, vP b_1), (6, cfgV c)] [Efdc04 b_1 c])) (by kernel_rfl) ?_
  refine ok_new fun b_1 => ?_
  refine ok_obl rfl ?_
  refine ok_stop ?_
  refine go_call (some 7) [] Tryz.call65 (ref_Size c (by first | assumption | omega | (simp only [InK] at *; omega))) (by kernel_rfl) ?_
  rintro v post ⟨rfl, rfl⟩
  refine go_call (some 8) [] Tryz.call64 (ref_New (sizeOfC c) (by have := sizeOfC_ok hc; omega)) (by kernel_rfl) ?_
  rintro v post ⟨ra_2, aw_3, cw_4, rfl, rfl⟩
  refine go_exec (rs := [.tmp 2]) (by kernel_rfl) 4000 [.e 1, .s 2, .j 2 0, .z [0, 1, 1, 1] 0 [1, 3]] (o := .obl (ra_2 = ra_2) (.obl (aw_3 = aw_3 ∧ (List.replicate (sizeOfC c).toNat (0 : Int)).length = (List.replicate (sizeOfC c).toNat (0 : Int)).length) (.obl ((0 : Int) ≤ 0 ∧ 0 < (((List.replicate (sizeOfC c).toNat (0 : Int)).length : Nat) : Int)) (.obl (slAt aw_3 0 1 = slAt aw_3 0 1) (.obl (0 < (List.replicate (sizeOfC c).toNat (0 : Int)).length) (.ex fun x_5 : Int => .obl ([vU 7597137583116413295] = (encI .u64) x_5) (.stop [.c [0, 1, 1, 1], .c [1, 1, 1, 1]] [(1, vP b_1), (3, vP ra_2)] [Efdc04 b_1 c, E0cafa ra_2 aw_3 ((List.replicate (sizeOfC c).toNat (0 : Int)).length) cw_4 0 0 0 0 false false 0, E89d8b aw_3 cw_4 ((List.replicate (sizeOfC c).toNat (0 : Int)).set 0 x_5)]))))))) (by kernel_rfl) ?_
  refine ok_obl rfl ?_
  refine ok_obl ⟨rfl, (by first | rfl | omega | (simp; done) | (simp; omega))⟩ ?_
  refine ok_obl (by have := sizeOfC_ok hc; first | omega | (simp; omega) | (have hq := blockAt_ok hc (clsOf_pos (c := c) (b := i1.1) (by omega)); first | omega | (simp; omega))) ?_
  refine ok_obl rfl ?_
  refine ok_obl (by have := sizeOfC_ok hc; first | omega | (simp; omega) | (have hq := blockAt_ok hc (clsOf_pos (c := c) (b := i1.1) (by omega)); first | omega | (simp; omega))) ?_
  refine ok_ex (7597137583116413295 : Int) ?_
  refine ok_obl rfl ?_
  refine ok_stop ?_
  refine go_tail_op (so := .obl (slAt aw_3 1 1 = slAt aw_3 1 1) (.obl (1 < ((List.replicate (sizeOfC c).toNat (0 : Int)).set 0 7597137583116413295).length) (.ex fun x_6 : Int => .obl ([vU (rpackW c)] = (encI .u64) x_6) (.ok .skip [Efdc04 b_1 c, E0cafa ra_2 aw_3 ((List.replicate (sizeOfC c).toNat (0 : Int)).length) cw_4 0 0 0 0 false false 0, E89d8b aw_3 cw_4 (((List.replicate (sizeOfC c).toNat (0 : Int)).set 0 7597137583116413295).set 1 x_6)])))) (dst := none) (ps := [ra_2 = ra_2, b_1 = b_1, aw_3 = aw_3 ∧ (List.replicate (sizeOfC c).toNat (0 : Int)).length = ((List.replicate (sizeOfC c).toNat (0 : Int)).set 0 7597137583116413295).length, (0 : Int) ≤ 1 ∧ 1 < ((((List.replicate (sizeOfC c).toNat (0 : Int)).set 0 7597137583116413295).length : Nat) : Int)]) (cs := [(66, #[cfgV c], vU (rpackW c))]) [(0, .h .w), (1, .h .w), (2, .h .w), (3, .h (.e 1)), (4, .h (.e 0)), (5, .q (vU (rpackW c))), (6, .h (.s 2))] 7 [] (.j 2 1) [1, 3] (by kernel_rfl) (by kernel_rfl) ⟨rfl, rfl, ⟨rfl, (by first | rfl | omega | (simp; done) | (simp; omega))⟩, (by have := sizeOfC_ok hc; first | omega | (simp; omega) | (have hq := blockAt_ok hc (clsOf_pos (c := c) (b := i1.1) (by omega)); first | omega | (simp; omega))), trivial⟩ ⟨⟨Tryz.call66, quiet_of [] (ref_PackX c (by first | assumption | omega | (simp only [InK] at *; omega))) (by kernel_rfl) (by rintro v post ⟨rfl, rfl⟩; exact ⟨rfl, rfl⟩)⟩, trivial⟩ ?_
  refine sat_obl rfl ?_
  refine sat_obl (by have := sizeOfC_ok hc; first | omega | (simp; omega) | (have hq := blockAt_ok hc (clsOf_pos (c := c) (b := i1.1) (by omega)); first | omega | (simp; omega))) ?_
  refine sat_ex ((rpackW c) : Int) ?_
  refine sat_obl rfl ?_
  refine sat_skip ?_
  refine tail_next (tm' := [(1, vP b_1), (3, vP ra_2)]) (ps2 := []) (by kernel_rfl) trivial ?_
  refine go_exec (rs := [.tmp 2]) (by kernel_rfl) 4000 [.w, .e 0, .sp [25] [.e 1, .s 2, .j 2 3, .w, .e 0, .sp [35] [.z q36_12 0 [1, 3]] [.z q36_13 0 [1, 3, 4]]] [.w, .e 0, .sp [35] [.z q36_12 0 [1, 3]] [.z q36_13 0 [1, 3, 4]]]] (o := .obl (b_1 = b_1) (.br (decide (c.n0 > 0)) (.obl (ra_2 = ra_2) (.obl (aw_3 = aw_3 ∧ (List.replicate (sizeOfC c).toNat (0 : Int)).length = (((List.replicate (sizeOfC c).toNat (0 : Int)).set 0 7597137583116413295).set 1 (rpackW c)).length) (.obl ((0 : Int) ≤ 3 ∧ 3 < (((((List.replicate (sizeOfC c).toNat (0 : Int)).set 0 7597137583116413295).set 1 (rpackW c)).length : Nat) : Int)) (.obl (slAt aw_3 3 1 = slAt aw_3 3 1) (.obl (3 < (((List.replicate (sizeOfC c).toNat (0 : Int)).set 0 7597137583116413295).set 1 (rpackW c)).length) (.ex fun x_7 : Int => .obl ([vU 1] = (encI .u64) x_7) (.obl (b_1 = b_1) (.br (decide (c.n1 > 0)) (.stop [.c q36_12, .c [1, 1, 1, 1, 1, 1]] [(1, vP b_1), (3, vP ra_2)] [Efdc04 b_1 c, E0cafa ra_2 aw_3 ((List.replicate (sizeOfC c).toNat (0 : Int)).length) cw_4 0 0 0 0 false false 0, E89d8b aw_3 cw_4 ((((List.replicate (sizeOfC c).toNat (0 : Int)).set 0 7597137583116413295).set 1 (rpackW c)).set 3 x_7)]) (.stop [.c q36_13, .b 0, .c q36_14] [(1, vP b_1), (3, vP ra_2), (4, vI 1)] [Efdc04 b_1 c, E0cafa ra_2 aw_3 ((List.replicate (sizeOfC c).toNat (0 : Int)).length) cw_4 0 0 0 0 false false 0, E89d8b aw_3 cw_4 ((((List.replicate (sizeOfC c).toNat (0 : Int)).set 0 7597137583116413295).set 1 (rpackW c)).set 3 x_7)]))))))))) (.obl (b_1 = b_1) (.br (decide (c.n1 > 0)) (.stop [.c q36_12, .c [1, 1, 1, 1, 1, 1]] [(1, vP b_1), (3, vP ra_2)] [Efdc04 b_1 c, E0cafa ra_2 aw_3 ((List.replicate (sizeOfC c).toNat (0 : Int)).length) cw_4 0 0 0 0 false false 0, E89d8b aw_3 cw_4 (((List.replicate (sizeOfC c).toNat (0 : Int)).set 0 7597137583116413295).set 1 (rpackW c))]) (.stop [.c q36_13, .b 0, .c q36_14] [(1, vP b_1), (3, vP ra_2), (4, vI 1)] [Efdc04 b_1 c, E0cafa ra_2 aw_3 ((List.replicate (sizeOfC c).toNat (0 : Int)).length) cw_4 0 0 0 0 false false 0, E89d8b aw_3 cw_4 (((List.replicate (sizeOfC c).toNat (0 : Int)).set 0 7597137583116413295).set 1 (rpackW c))]))))) (by kernel_rfl) ?_
  refine ok_obl rfl ?_
  refine ok_br (fun h_8 => ?_) (fun h_8 => ?_)
  · replace h_8 := decT h_8
    refine ok_obl rfl ?_
    refine ok_obl ⟨rfl, (by first | rfl | omega | (simp; done) | (simp; omega))⟩ ?_
    refine ok_obl (by have := sizeOfC_ok hc; first | omega | (simp; omega) | (have hq := blockAt_ok hc (clsOf_pos (c := c) (b := i1.1) (by omega)); first | omega | (simp; omega))) ?_
    refine ok_obl rfl ?_
    refine ok_obl (by have := sizeOfC_ok hc; first | omega | (simp; omega) | (have hq := blockAt_ok hc (clsOf_pos (c := c) (b := i1.1) (by omega)); first | omega | (simp; omega))) ?_
    refine ok_ex (1 : Int) ?_
    refine ok_obl rfl ?_
    refine ok_obl rfl ?_
    refine ok_br (fun h_9 => ?_) (fun h_9 => ?_)
    · replace h_9 := decT h_9
      refine ok_stop ?_
      refine go_tail_op (so := .obl (slAt aw_3 4 1 = slAt aw_3 4 1) (.obl (4 < ((((List.replicate (sizeOfC c).toNat (0 : Int)).set 0 7597137583116413295).set 1 (rpackW c)).set 3 1).length) (.ex fun x_10 : Int => .obl ([vU (c.n0 + 1)] = (encI .u64) x_10) (.ok .skip [Efdc04 b_1 c, E0cafa ra_2 aw_3 ((List.replicate (sizeOfC c).toNat (0 : Int)).length) cw_4 0 0 0 0 false false 0, E89d8b aw_3 cw_4 (((((List.replicate (sizeOfC c).toNat (0 : Int)).set 0 7597137583116413295).set 1 (rpackW c)).set 3 1).set 4 x_10)])))) (dst := none) (ps := [ra_2 = ra_2, b_1 = b_1, InK .i64 (c.n0 + 1), InK .u64 (c.n0 + 1), aw_3 = aw_3 ∧ (List.replicate (sizeOfC c).toNat (0 : Int)).length = ((((List.replicate (sizeOfC c).toNat (0 : Int)).set 0 7597137583116413295).set 1 (rpackW c)).set 3 1).length, (0 : Int) ≤ 4 ∧ 4 < ((((((List.replicate (sizeOfC c).toNat (0 : Int)).set 0 7597137583116413295).set 1 (rpackW c)).set 3 1).length : Nat) : Int)]) (cs := []) [(0, .h .w), (1, .h .w), (2, .h .w), (3, .h (.e 1)), (4, .h .w), (5, .h (.w)), (6, .h .w), (7, .h (.e 0)), (8, .h (.n)), (9, .h (.n)), (10, .h (.s 2))] 11 [] (.j 2 4) [1, 3] (by kernel_rfl) (by kernel_rfl) ⟨rfl, rfl, (by have hsz := sizeOfC_ok hc; simp only [Cfg.Ok, InK] at *; first | done | omega), (by have hsz := sizeOfC_ok hc; simp only [Cfg.Ok, InK] at *; first | done | omega), ⟨rfl, (by first | rfl | omega | (simp; done) | (simp; omega))⟩, (by have := sizeOfC_ok hc; first | omega | (simp; omega) | (have hq := blockAt_ok hc (clsOf_pos (c := c) (b := i1.1) (by omega)); first | omega | (simp; omega))), trivial⟩ trivial ?_
      refine sat_obl rfl ?_
      refine sat_obl (by have := sizeOfC_ok hc; first | omega | (simp; omega) | (have hq := blockAt_ok hc (clsOf_pos (c := c) (b := i1.1) (by omega)); first | omega | (simp; omega))) ?_
      refine sat_ex ((c.n0 + 1) : Int) ?_
      refine sat_obl rfl ?_
      refine sat_skip ?_
      refine tail_next (tm' := [(1, vP b_1), (3, vP ra_2)]) (ps2 := []) (by kernel_rfl) trivial ?_
      refine go_exec (rs := [.tmp 2]) (by kernel_rfl) 4000 [.z q36_13 0 [1, 3, 4]] (o := .stop [.c q36_13, .b 0, .c q36_14] [(1, vP b_1), (3, vP ra_2), (4, vI 1)] [Efdc04 b_1 c, E0cafa ra_2 aw_3 ((List.replicate (sizeOfC c).toNat (0 : Int)).length) cw_4 0 0 0 0 false false 0, E89d8b aw_3 cw_4 (((((List.replicate (sizeOfC c).toNat (0 : Int)).set 0 7597137583116413295).set 1 (rpackW c)).set 3 1).set 4 (c.n0 + 1))]) (by kernel_rfl) ?_
      refine ok_stop ?_
      refine go_loop (ι := Int × List Int) (fun i1 => [(1, vP b_1), (3, vP ra_2), (4, vI i1.1)]) (fun i1 => [Efdc04 b_1 c, E0cafa ra_2 aw_3 ((List.replicate (sizeOfC c).toNat (0 : Int)).length) cw_4 0 0 0 0 false false 0, E89d8b aw_3 cw_4 i1.2]) (fun i1 => rmLink c (c.n0 + c.n1 - i1.1).toNat i1.1 i1.2 = rmLink c (c.n0 + c.n1 - 1).toNat 1 (rmHead c (rpackW c)) ∧ 1 ≤ i1.1 ∧ i1.2.length = (List.replicate (sizeOfC c).toNat (0 : Int)).length) (fun i1 => (c.n0 + c.n1 - i1.1).toNat) (1, ((((List.replicate (sizeOfC c).toNat (0 : Int)).set 0 7597137583116413295).set 1 (rpackW c)).set 3 1).set 4 (c.n0 + 1)) [1, 3, 4] [0, 1, 2] (by kernel_rfl) (by kernel_rfl) (by kernel_rfl) (by kernel_rfl) ⟨(by dsimp only; congr 1; unfold rmHead; dsimp only; (repeat' split) <;> first | rfl | (exfalso; omega)), (by dsimp only; omega), (by simp)⟩ ?_
      intro i1 J_11 hIJ_11 hJ_11
      have hx1 := hIJ_11
      have hlen1 := hx1.2.2
      have hN1 : (((List.replicate (sizeOfC c).toNat (0 : Int)).length : Nat) : Int) = sizeOfC c := by have := sizeOfC_ok hc; rw [List.length_replicate]; omega
      refine go_exec (rs := [.tmp 2]) (by kernel_rfl) 4000 [.e 0, .z q36_15 2 [1, 3, 4, 47, 48]] (o := .obl (b_1 = b_1) (.stop [.o q36_15 2, .c q36_16, .c q36_17, .j J_11, .b 0, .c q36_14] [(1, vP b_1), (3, vP ra_2), (4, vI i1.1), (47, vI i1.1), (48, cfgV c)] [Efdc04 b_1 c, E0cafa ra_2 aw_3 ((List.replicate (sizeOfC c).toNat (0 : Int)).length) cw_4 0 0 0 0 false false 0, E89d8b aw_3 cw_4 i1.2])) (by kernel_rfl) ?_
      refine ok_obl rfl ?_
      refine ok_stop ?_
      refine go_call (some 49) [] Tryz.call67 (ref_Blocks c (by first | assumption | omega | (simp only [InK] at *; omega))) (by kernel_rfl) ?_
      rintro v post ⟨rfl, rfl⟩
      refine go_exec (rs := [.tmp 2]) (by kernel_rfl) 4000 [.sp [50] [.z q36_18 0 [1, 3, 4]] [.z q36_19 0 [3, 5]]] (o := .br (decide (i1.1 < (c.n0 + c.n1))) (.stop [.c q36_18, .c q36_20, .b 1, .c q36_21, .j J_11, .b 0, .c q36_14] [(1, vP b_1), (3, vP ra_2), (4, vI i1.1)] [Efdc04 b_1 c, E0cafa ra_2 aw_3 ((List.replicate (sizeOfC c).toNat (0 : Int)).length) cw_4 0 0 0 0 false false 0, E89d8b aw_3 cw_4 i1.2]) (.stop [.c q36_19, .b 2, .c q36_22] [(3, vP ra_2), (5, vI 0)] [Efdc04 b_1 c, E0cafa ra_2 aw_3 ((List.replicate (sizeOfC c).toNat (0 : Int)).length) cw_4 0 0 0 0 false false 0, E89d8b aw_3 cw_4 i1.2])) (by kernel_rfl) ?_
      refine ok_br (fun h_12 => ?_) (fun h_12 => ?_)
      · replace h_12 := decT h_12
        refine ok_stop ?_
        refine go_quiet (tm' := [(1, vP b_1), (3, vP ra_2), (4, vI i1.1), (60, .bool ((clsOf c i1.1) == (clsOf c (i1.1 + 1))))]) (ps := [b_1 = b_1, b_1 = b_1, InK .i64 (i1.1 + 1)]) (cs := [(68, #[cfgV c, vI i1.1], vI (clsOf c i1.1)), (68, #[cfgV c, vI (i1.1 + 1)], vI (clsOf c (i1.1 + 1)))]) [(0, .h (.e 0)), (1, .h .w), (2, .q (vI (clsOf c i1.1))), (3, .h (.e 0)), (4, .h .w), (5, .h (.n)), (6, .q (vI (clsOf c (i1.1 + 1)))), (7, .h .w)] [1, 3, 4, 60] (by kernel_rfl) (by kernel_rfl) ⟨rfl, rfl, (by have hsz := sizeOfC_ok hc; simp only [Cfg.Ok, InK] at *; first | done | omega), trivial⟩ ⟨⟨Tryz.call68, quiet_of [] (ref_Class c i1.1 (by first | assumption | omega | (simp only [InK] at *; omega))) (by kernel_rfl) (by rintro v post ⟨rfl, rfl⟩; exact ⟨rfl, rfl⟩)⟩, ⟨Tryz.call68, quiet_of [] (ref_Class c (i1.1 + 1) (by first | assumption | omega | (simp only [InK] at *; omega))) (by kernel_rfl) (by rintro v post ⟨rfl, rfl⟩; exact ⟨rfl, rfl⟩)⟩, trivial⟩ ?_
        refine go_exec (rs := [.tmp 2]) (by kernel_rfl) 4000 [.sp [60] [.z q36_23 0 [1, 3, 4]] [.n, .z [] 0 [1, 3, 4]]] (o := .br ((clsOf c i1.1) == (clsOf c (i1.1 + 1))) (.stop [.c q36_23, .b 1, .c q36_21, .j J_11, .b 0, .c q36_14] [(1, vP b_1), (3, vP ra_2), (4, vI i1.1)] [Efdc04 b_1 c, E0cafa ra_2 aw_3 ((List.replicate (sizeOfC c).toNat (0 : Int)).length) cw_4 0 0 0 0 false false 0, E89d8b aw_3 cw_4 i1.2]) (.obl (InK .i64 (i1.1 + 1)) (.stop [.j J_11, .b 0, .c q36_14] [(1, vP b_1), (3, vP ra_2), (4, vI (i1.1 + 1))] [Efdc04 b_1 c, E0cafa ra_2 aw_3 ((List.replicate (sizeOfC c).toNat (0 : Int)).length) cw_4 0 0 0 0 false false 0, E89d8b aw_3 cw_4 i1.2]))) (by kernel_rfl) ?_
        refine ok_br (fun h_13 => ?_) (fun h_13 => ?_)
        · replace h_13 := beqT h_13
          refine ok_stop ?_
          refine go_tail_op (so := .obl (slAt aw_3 ((blockAt c i1.1).toNat) 1 = slAt aw_3 ((blockAt c i1.1).toNat) 1) (.obl ((blockAt c i1.1).toNat < i1.2.length) (.ex fun x_14 : Int => .obl ([vU (i1.1 + 1)] = (encI .u64) x_14) (.ok .skip [Efdc04 b_1 c, E0cafa ra_2 aw_3 ((List.replicate (sizeOfC c).toNat (0 : Int)).length) cw_4 0 0 0 0 false false 0, E89d8b aw_3 cw_4 (i1.2.set ((blockAt c i1.1).toNat) x_14)])))) (dst := none) (ps := [ra_2 = ra_2, b_1 = b_1, InK .i64 (i1.1 + 1), InK .u64 (i1.1 + 1), aw_3 = aw_3 ∧ (List.replicate (sizeOfC c).toNat (0 : Int)).length = i1.2.length, (0 : Int) ≤ (blockAt c i1.1) ∧ (blockAt c i1.1) < ((i1.2.length : Nat) : Int)]) (cs := [(69, #[cfgV c, vI i1.1], vI (blockAt c i1.1))]) [(0, .h .w), (1, .h .w), (2, .h .w), (3, .h (.e 1)), (4, .h (.e 0)), (5, .h .w), (6, .q (vI (blockAt c i1.1))), (7, .h .w), (8, .h (.n)), (9, .h (.n)), (10, .h (.s 2))] 11 [] (.j 2 ((blockAt c i1.1).toNat)) [1, 3, 4] (by kernel_rfl) (by kernel_rfl) ⟨rfl, rfl, (by have hsz := sizeOfC_ok hc; simp only [Cfg.Ok, InK] at *; first | done | omega), (by have hsz := sizeOfC_ok hc; simp only [Cfg.Ok, InK] at *; first | done | omega), ⟨rfl, (by first | rfl | omega | (simp; done) | (simp; omega))⟩, (by have := sizeOfC_ok hc; first | omega | (simp; omega) | (have hq := blockAt_ok hc (clsOf_pos (c := c) (b := i1.1) (by omega)); first | omega | (simp; omega))), trivial⟩ ⟨⟨Tryz.call69, quiet_of [] (ref_Block c i1.1 (by first | assumption | omega | (simp only [InK] at *; omega)) (by omega)) (by kernel_rfl) (by rintro v post ⟨rfl, rfl⟩; exact ⟨rfl, rfl⟩)⟩, trivial⟩ ?_
          refine sat_obl rfl ?_
          refine sat_obl (by have := sizeOfC_ok hc; first | omega | (simp; omega) | (have hq := blockAt_ok hc (clsOf_pos (c := c) (b := i1.1) (by omega)); first | omega | (simp; omega))) ?_
          refine sat_ex ((i1.1 + 1) : Int) ?_
          refine sat_obl rfl ?_
          refine sat_skip ?_
          refine tail_next (tm' := [(1, vP b_1), (3, vP ra_2), (4, vI i1.1)]) (ps2 := []) (by kernel_rfl) trivial ?_
          refine go_exec (rs := [.tmp 2]) (by kernel_rfl) 4000 [.n, .z [] 0 [1, 3, 4]] (o := .obl (InK .i64 (i1.1 + 1)) (.stop [.j J_11, .b 0, .c q36_14] [(1, vP b_1), (3, vP ra_2), (4, vI (i1.1 + 1))] [Efdc04 b_1 c, E0cafa ra_2 aw_3 ((List.replicate (sizeOfC c).toNat (0 : Int)).length) cw_4 0 0 0 0 false false 0, E89d8b aw_3 cw_4 (i1.2.set ((blockAt c i1.1).toNat) (i1.1 + 1))])) (by kernel_rfl) ?_
          refine ok_obl (by have hsz := sizeOfC_ok hc; simp only [Cfg.Ok, InK] at *; first | done | omega) ?_
          refine ok_stop ?_
          exact go_back hJ_11 ((i1.1 + 1), i1.2.set ((blockAt c i1.1).toNat) (i1.1 + 1)) [0, 1, 2] (by kernel_rfl) (by kernel_rfl) (by kernel_rfl) ⟨(by dsimp only; rw [← hx1.1, rmLink_next (c := c) (b := i1.1) (W := i1.2) (by omega), if_pos (by assumption)]), (by dsimp only; omega), (by dsimp only; first | exact hx1.2.2 | (rw [List.length_set]; exact hx1.2.2))⟩ (by dsimp only; omega)
        · replace h_13 := beqF h_13
          refine ok_obl (by have hsz := sizeOfC_ok hc; simp only [Cfg.Ok, InK] at *; first | done | omega) ?_
          refine ok_stop ?_
          exact go_back hJ_11 ((i1.1 + 1), i1.2) [0, 1, 2] (by kernel_rfl) (by kernel_rfl) (by kernel_rfl) ⟨(by dsimp only; rw [← hx1.1, rmLink_next (c := c) (b := i1.1) (W := i1.2) (by omega), if_neg (by assumption)]), (by dsimp only; omega), (by dsimp only; first | exact hx1.2.2 | (rw [List.length_set]; exact hx1.2.2))⟩ (by dsimp only; omega)
      · replace h_12 := decF h_12
        refine ok_stop ?_
        refine go_loop (ι := Int × Ar) (fun i2 => [(3, vP ra_2), (5, vI i2.1)]) (fun i2 => [E0654b ra_2 i2.2 false 0, E632c4 i2.2]) (fun i2 => rmCnt (sizeOfC c - i2.1).toNat i2.1 i2.2 = rmAr c (rpackW c) aw_3 cw_4 ∧ (0 ≤ i2.1 ∧ i2.1 ≤ sizeOfC c) ∧ i2.2.ws.length = i2.2.n ∧ (i2.2.n : Int) = sizeOfC c ∧ (0 ≤ i2.2.steps ∧ i2.2.steps ≤ i2.1)) (fun i2 => (sizeOfC c - i2.1).toNat) (0, (⟨aw_3, cw_4, (List.replicate (sizeOfC c).toNat (0 : Int)).length, i1.2, 0, 0, 0, 0, false⟩ : Ar)) [3, 5] [1, 2] (by kernel_rfl) (by kernel_rfl) (by kernel_rfl) (by kernel_rfl) ⟨(by dsimp only; unfold rmAr; rw [← hx1.1, rmLink_end (c := c) (b := i1.1) (W := i1.2) (by omega), Int.sub_zero]), (by have := sizeOfC_ok hc; dsimp only; omega), hlen1, hN1, (by dsimp only; omega)⟩ ?_
        intro i2 J_15 hIJ_15 hJ_15
        have hx2 := hIJ_15
        have hn2 := hx2.2.2.1
        have hz2 := hx2.2.2.2.1
        have hs2 := hx2.2.2.2.2
        refine go_exec (rs := [.tmp 2]) (by kernel_rfl) 4000 [.e 0, .sp [78] [.e 0, .s 1, .j 1 i2.1.toNat, .sp [88] [.e 0, .n, .e 0, .e 0, .s 1, .j 1 i2.1.toNat, .e 0, .n, .z [] 0 [3, 5]] [.n, .z [] 0 [3, 5]]] []] (o := .obl (ra_2 = ra_2) (.br (decide (i2.1 < ((i2.2.n : Nat) : Int))) (.obl (ra_2 = ra_2) (.obl (i2.2.aw = i2.2.aw ∧ i2.2.n = i2.2.ws.length) (.obl ((0 : Int) ≤ i2.1 ∧ i2.1 < ((i2.2.ws.length : Nat) : Int)) (.obl (slAt i2.2.aw i2.1.toNat 1 = slAt i2.2.aw i2.1.toNat 1) (.obl (i2.1.toNat < i2.2.ws.length) (.br ((i2.2.ws.getD i2.1.toNat 0) != 0) (.obl (ra_2 = ra_2) (.obl (InK .i64 (i2.2.steps + 1)) (.obl (ra_2 = ra_2) (.obl (ra_2 = ra_2) (.obl (i2.2.aw = i2.2.aw ∧ i2.2.n = i2.2.ws.length) (.obl ((0 : Int) ≤ i2.1 ∧ i2.1 < ((i2.2.ws.length : Nat) : Int)) (.obl (slAt i2.2.aw i2.1.toNat 1 = slAt i2.2.aw i2.1.toNat 1) (.obl (i2.1.toNat < i2.2.ws.length) (.obl (ra_2 = ra_2) (.obl (InK .i64 (i2.1 + 1)) (.stop [.j J_15, .b 2, .c q36_22] [(3, vP ra_2), (5, vI (i2.1 + 1))] [E458fb ra_2 i2.2 (i2.2.steps + 1) 2 i2.1 (i2.2.ws.getD i2.1.toNat 0) true false 0, E632c4 i2.2]))))))))))) (.obl (InK .i64 (i2.1 + 1)) (.stop [.j J_15, .b 2, .c q36_22] [(3, vP ra_2), (5, vI (i2.1 + 1))] [E0654b ra_2 i2.2 false 0, E632c4 i2.2])))))))) (.ret (vP ra_2) [E0654b ra_2 i2.2 false 0, E632c4 i2.2]))) (by kernel_rfl) ?_
        refine ok_obl rfl ?_
        refine ok_br (fun h_16 => ?_) (fun h_16 => ?_)
        · replace h_16 := decT h_16
          refine ok_obl rfl ?_
          refine ok_obl ⟨rfl, (by first | rfl | omega | (simp; done) | (simp; omega))⟩ ?_
          refine ok_obl (by have := sizeOfC_ok hc; first | omega | (simp; omega) | (have hq := blockAt_ok hc (clsOf_pos (c := c) (b := i1.1) (by omega)); first | omega | (simp; omega))) ?_
          refine ok_obl rfl ?_
          refine ok_obl (by have := sizeOfC_ok hc; first | omega | (simp; omega) | (have hq := blockAt_ok hc (clsOf_pos (c := c) (b := i1.1) (by omega)); first | omega | (simp; omega))) ?_
          refine ok_br (fun h_17 => ?_) (fun h_17 => ?_)
          · replace h_17 := bneT h_17
            refine ok_obl rfl ?_
            refine ok_obl (by have hsz := sizeOfC_ok hc; simp only [Cfg.Ok, InK] at *; first | done | omega) ?_
            refine ok_obl rfl ?_
            refine ok_obl rfl ?_
            refine ok_obl ⟨rfl, (by first | rfl | omega | (simp; done) | (simp; omega))⟩ ?_
            refine ok_obl (by have := sizeOfC_ok hc; first | omega | (simp; omega) | (have hq := blockAt_ok hc (clsOf_pos (c := c) (b := i1.1) (by omega)); first | omega | (simp; omega))) ?_
            refine ok_obl rfl ?_
            refine ok_obl (by have := sizeOfC_ok hc; first | omega | (simp; omega) | (have hq := blockAt_ok hc (clsOf_pos (c := c) (b := i1.1) (by omega)); first | omega | (simp; omega))) ?_
            refine ok_obl rfl ?_
            refine ok_obl (by have hsz := sizeOfC_ok hc; simp only [Cfg.Ok, InK] at *; first | done | omega) ?_
            refine ok_stop ?_
            exact go_back hJ_15 ((i2.1 + 1), (⟨i2.2.aw, i2.2.cw, i2.2.n, i2.2.ws, (i2.2.steps + 1), 2, i2.1, (i2.2.ws.getD i2.1.toNat 0), true⟩ : Ar)) [0, 1] (by kernel_rfl) (by kernel_rfl) (by kernel_rfl) ⟨(by dsimp only; rw [← hx2.1, rmCnt_next (n := sizeOfC c) (i := i2.1) (A := i2.2) (by omega), if_pos (by assumption)]), (by dsimp only; omega), hx2.2.2.1, hx2.2.2.2.1, (by dsimp only; omega)⟩ (by dsimp only; omega)
          · replace h_17 := bneF h_17
            refine ok_obl (by have hsz := sizeOfC_ok hc; simp only [Cfg.Ok, InK] at *; first | done | omega) ?_
            refine ok_stop ?_
            exact go_back hJ_15 ((i2.1 + 1), (⟨i2.2.aw, i2.2.cw, i2.2.n, i2.2.ws, i2.2.steps, i2.2.lk, i2.2.lw, i2.2.lv, i2.2.lc⟩ : Ar)) [0, 1] (by kernel_rfl) (by kernel_rfl) (by kernel_rfl) ⟨(by dsimp only; rw [← hx2.1, rmCnt_next (n := sizeOfC c) (i := i2.1) (A := i2.2) (by omega), if_neg (fun h => h (by assumption))]), (by dsimp only; omega), hx2.2.2.1, hx2.2.2.2.1, (by dsimp only; omega)⟩ (by dsimp only; omega)
        · replace h_16 := decF h_16
          exact ret_ok (post := [E0654b ra_2 i2.2 false 0, E632c4 i2.2]) [0, 1] (by kernel_rfl) ⟨ra_2, aw_3, cw_4, rfl, (by rw [← hx2.1, rmCnt_end (n := sizeOfC c) (i := i2.1) (A := i2.2) (by omega)])⟩
    · replace h_9 := decF h_9
      refine ok_stop ?_
      refine go_loop (ι := Int × List Int) (fun i1 => [(1, vP b_1), (3, vP ra_2), (4, vI i1.1)]) (fun i1 => [Efdc04 b_1 c, E0cafa ra_2 aw_3 ((List.replicate (sizeOfC c).toNat (0 : Int)).length) cw_4 0 0 0 0 false false 0, E89d8b aw_3 cw_4 i1.2]) (fun i1 => rmLink c (c.n0 + c.n1 - i1.1).toNat i1.1 i1.2 = rmLink c (c.n0 + c.n1 - 1).toNat 1 (rmHead c (rpackW c)) ∧ 1 ≤ i1.1 ∧ i1.2.length = (List.replicate (sizeOfC c).toNat (0 : Int)).length) (fun i1 => (c.n0 + c.n1 - i1.1).toNat) (1, (((List.replicate (sizeOfC c).toNat (0 : Int)).set 0 7597137583116413295).set 1 (rpackW c)).set 3 1) [1, 3, 4] [0, 1, 2] (by kernel_rfl) (by kernel_rfl) (by kernel_rfl) (by kernel_rfl) ⟨(by dsimp only; congr 1; unfold rmHead; dsimp only; (repeat' split) <;> first | rfl | (exfalso; omega)), (by dsimp only; omega), (by simp)⟩ ?_
      intro i1 J_18 hIJ_18 hJ_18
      have hx1 := hIJ_18
      have hlen1 := hx1.2.2
      have hN1 : (((List.replicate (sizeOfC c).toNat (0 : Int)).length : Nat) : Int) = sizeOfC c := by have := sizeOfC_ok hc; rw [List.length_replicate]; omega
      refine go_exec (rs := [.tmp 2]) (by kernel_rfl) 4000 [.e 0, .z q36_15 2 [1, 3, 4, 47, 48]] (o := .obl (b_1 = b_1) (.stop [.o q36_15 2, .c q36_16, .c q36_17, .j J_18, .b 0, .c q36_14] [(1, vP b_1), (3, vP ra_2), (4, vI i1.1), (47, vI i1.1), (48, cfgV c)] [Efdc04 b_1 c, E0cafa ra_2 aw_3 ((List.replicate (sizeOfC c).toNat (0 : Int)).length) cw_4 0 0 0 0 false false 0, E89d8b aw_3 cw_4 i1.2])) (by kernel_rfl) ?_
      refine ok_obl rfl ?_
      refine ok_stop ?_
      refine go_call (some 49) [] Tryz.call67 (ref_Blocks c (by first | assumption | omega | (simp only [InK] at *; omega))) (by kernel_rfl) ?_
      rintro v post ⟨rfl, rfl⟩
      refine go_exec (rs := [.tmp 2]) (by kernel_rfl) 4000 [.sp [50] [.z q36_18 0 [1, 3, 4]] [.z q36_19 0 [3, 5]]] (o := .br (decide (i1.1 < (c.n0 + c.n1))) (.stop [.c q36_18, .c q36_20, .b 1, .c q36_21, .j J_18, .b 0, .c q36_14] [(1, vP b_1), (3, vP ra_2), (4, vI i1.1)] [Efdc04 b_1 c, E0cafa ra_2 aw_3 ((List.replicate (sizeOfC c).toNat (0 : Int)).length) cw_4 0 0 0 0 false false 0, E89d8b aw_3 cw_4 i1.2]) (.stop [.c q36_19, .b 2, .c q36_22] [(3, vP ra_2), (5, vI 0)] [Efdc04 b_1 c, E0cafa ra_2 aw_3 ((List.replicate (sizeOfC c).toNat (0 : Int)).length) cw_4 0 0 0 0 false false 0, E89d8b aw_3 cw_4 i1.2])) (by kernel_rfl) ?_
      refine ok_br (fun h_19 => ?_) (fun h_19 => ?_)
      · replace h_19 := decT h_19
        refine ok_stop ?_
        refine go_quiet (tm' := [(1, vP b_1), (3, vP ra_2), (4, vI i1.1), (60, .bool ((clsOf c i1.1) == (clsOf c (i1.1 + 1))))]) (ps := [b_1 = b_1, b_1 = b_1, InK .i64 (i1.1 + 1)]) (cs := [(68, #[cfgV c, vI i1.1], vI (clsOf c i1.1)), (68, #[cfgV c, vI (i1.1 + 1)], vI (clsOf c (i1.1 + 1)))]) [(0, .h (.e 0)), (1, .h .w), (2, .q (vI (clsOf c i1.1))), (3, .h (.e 0)), (4, .h .w), (5, .h (.n)), (6, .q (vI (clsOf c (i1.1 + 1)))), (7, .h .w)] [1, 3, 4, 60] (by kernel_rfl) (by kernel_rfl) ⟨rfl, rfl, (by have hsz := sizeOfC_ok hc; simp only [Cfg.Ok, InK] at *; first | done | omega), trivial⟩ ⟨⟨Tryz.call68, quiet_of [] (ref_Class c i1.1 (by first | assumption | omega | (simp only [InK] at *; omega))) (by kernel_rfl) (by rintro v post ⟨rfl, rfl⟩; exact ⟨rfl, rfl⟩)⟩, ⟨Tryz.call68, quiet_of [] (ref_Class c (i1.1 + 1) (by first | assumption | omega | (simp only [InK] at *; omega))) (by kernel_rfl) (by rintro v post ⟨rfl, rfl⟩; exact ⟨rfl, rfl⟩)⟩, trivial⟩ ?_
        refine go_exec (rs := [.tmp 2]) (by kernel_rfl) 4000 [.sp [60] [.z q36_23 0 [1, 3, 4]] [.n, .z [] 0 [1, 3, 4]]] (o := .br ((clsOf c i1.1) == (clsOf c (i1.1 + 1))) (.stop [.c q36_23, .b 1, .c q36_21, .j J_18, .b 0, .c q36_14] [(1, vP b_1), (3, vP ra_2), (4, vI i1.1)] [Efdc04 b_1 c, E0cafa ra_2 aw_3 ((List.replicate (sizeOfC c).toNat (0 : Int)).length) cw_4 0 0 0 0 false false 0, E89d8b aw_3 cw_4 i1.2]) (.obl (InK .i64 (i1.1 + 1)) (.stop [.j J_18, .b 0, .c q36_14] [(1, vP b_1), (3, vP ra_2), (4, vI (i1.1 + 1))] [Efdc04 b_1 c, E0cafa ra_2 aw_3 ((List.replicate (sizeOfC c).toNat (0 : Int)).length) cw_4 0 0 0 0 false false 0, E89d8b aw_3 cw_4 i1.2]))) (by kernel_rfl) ?_
        refine ok_br (fun h_20 => ?_) (fun h_20 => ?_)
        · replace h_20 := beqT h_20
          refine ok_stop ?_
          refine go_tail_op (so := .obl (slAt aw_3 ((blockAt c i1.1).toNat) 1 = slAt aw_3 ((blockAt c i1.1).toNat) 1) (.obl ((blockAt c i1.1).toNat < i1.2.length) (.ex fun x_21 : Int => .obl ([vU (i1.1 + 1)] = (encI .u64) x_21) (.ok .skip [Efdc04 b_1 c, E0cafa ra_2 aw_3 ((List.replicate (sizeOfC c).toNat (0 : Int)).length) cw_4 0 0 0 0 false false 0, E89d8b aw_3 cw_4 (i1.2.set ((blockAt c i1.1).toNat) x_21)])))) (dst := none) (ps := [ra_2 = ra_2, b_1 = b_1, InK .i64 (i1.1 + 1), InK .u64 (i1.1 + 1), aw_3 = aw_3 ∧ (List.replicate (sizeOfC c).toNat (0 : Int)).length = i1.2.length, (0 : Int) ≤ (blockAt c i1.1) ∧ (blockAt c i1.1) < ((i1.2.length : Nat) : Int)]) (cs := [(69, #[cfgV c, vI i1.1], vI (blockAt c i1.1))]) [(0, .h .w), (1, .h .w), (2, .h .w), (3, .h (.e 1)), (4, .h (.e 0)), (5, .h .w), (6, .q (vI (blockAt c i1.1))), (7, .h .w), (8, .h (.n)), (9, .h (.n)), (10, .h (.s 2))] 11 [] (.j 2 ((blockAt c i1.1).toNat)) [1, 3, 4] (by kernel_rfl) (by kernel_rfl) ⟨rfl, rfl, (by have hsz := sizeOfC_ok hc; simp only [Cfg.Ok, InK] at *; first | done | omega), (by have hsz := sizeOfC_ok hc; simp only [Cfg.Ok, InK] at *; first | done | omega), ⟨rfl, (by first | rfl | omega | (simp; done) | (simp; omega))⟩, (by have := sizeOfC_ok hc; first | omega | (simp; omega) | (have hq := blockAt_ok hc (clsOf_pos (c := c) (b := i1.1) (by omega)); first | omega | (simp; omega))), trivial⟩ ⟨⟨Tryz.call69, quiet_of [] (ref_Block c i1.1 (by first | assumption | omega | (simp only [InK] at *; omega)) (by omega)) (by kernel_rfl) (by rintro v post ⟨rfl, rfl⟩; exact ⟨rfl, rfl⟩)⟩, trivial⟩ ?_
          refine sat_obl rfl ?_
          refine sat_obl (by have := sizeOfC_ok hc; first | omega | (simp; omega) | (have hq := blockAt_ok hc (clsOf_pos (c := c) (b := i1.1) (by omega)); first | omega | (simp; omega))) ?_
          refine sat_ex ((i1.1 + 1) : Int) ?_
          refine sat_obl rfl ?_
          refine sat_skip ?_
          refine tail_next (tm' := [(1, vP b_1), (3, vP ra_2), (4, vI i1.1)]) (ps2 := []) (by kernel_rfl) trivial ?_
          refine go_exec (rs := [.tmp 2]) (by kernel_rfl) 4000 [.n, .z [] 0 [1, 3, 4]] (o := .obl (InK .i64 (i1.1 + 1)) (.stop [.j J_18, .b 0, .c q36_14] [(1, vP b_1), (3, vP ra_2), (4, vI (i1.1 + 1))] [Efdc04 b_1 c, E0cafa ra_2 aw_3 ((List.replicate (sizeOfC c).toNat (0 : Int)).length) cw_4 0 0 0 0 false false 0, E89d8b aw_3 cw_4 (i1.2.set ((blockAt c i1.1).toNat) (i1.1 + 1))])) (by kernel_rfl) ?_
          refine ok_obl (by have hsz := sizeOfC_ok hc; simp only [Cfg.Ok, InK] at *; first | done | omega) ?_
          refine ok_stop ?_
          exact go_back hJ_18 ((i1.1 + 1), i1.2.set ((blockAt c i1.1).toNat) (i1.1 + 1)) [0, 1, 2] (by kernel_rfl) (by kernel_rfl) (by kernel_rfl) ⟨(by dsimp only; rw [← hx1.1, rmLink_next (c := c) (b := i1.1) (W := i1.2) (by omega), if_pos (by assumption)]), (by dsimp only; omega), (by dsimp only; first | exact hx1.2.2 | (rw [List.length_set]; exact hx1.2.2))⟩ (by dsimp only; omega)
        · replace h_20 := beqF h_20
          refine ok_obl (by have hsz := sizeOfC_ok hc; simp only [Cfg.Ok, InK] at *; first | done | omega) ?_
          refine ok_stop ?_
          exact go_back hJ_18 ((i1.1 + 1), i1.2) [0, 1, 2] (by kernel_rfl) (by kernel_rfl) (by kernel_rfl) ⟨(by dsimp only; rw [← hx1.1, rmLink_next (c := c) (b := i1.1) (W := i1.2) (by omega), if_neg (by assumption)]), (by dsimp only; omega), (by dsimp only; first | exact hx1.2.2 | (rw [List.length_set]; exact hx1.2.2))⟩ (by dsimp only; omega)
      · replace h_19 := decF h_19
        refine ok_stop ?_
        refine go_loop (ι := Int × Ar) (fun i2 => [(3, vP ra_2), (5, vI i2.1)]) (fun i2 => [E0654b ra_2 i2.2 false 0, E632c4 i2.2]) (fun i2 => rmCnt (sizeOfC c - i2.1).toNat i2.1 i2.2 = rmAr c (rpackW c) aw_3 cw_4 ∧ (0 ≤ i2.1 ∧ i2.1 ≤ sizeOfC c) ∧ i2.2.ws.length = i2.2.n ∧ (i2.2.n : Int) = sizeOfC c ∧ (0 ≤ i2.2.steps ∧ i2.2.steps ≤ i2.1)) (fun i2 => (sizeOfC c - i2.1).toNat) (0, (⟨aw_3, cw_4, (List.replicate (sizeOfC c).toNat (0 : Int)).length, i1.2, 0, 0, 0, 0, false⟩ : Ar)) [3, 5] [1, 2] (by kernel_rfl) (by kernel_rfl) (by kernel_rfl) (by kernel_rfl) ⟨(by dsimp only; unfold rmAr; rw [← hx1.1, rmLink_end (c := c) (b := i1.1) (W := i1.2) (by omega), Int.sub_zero]), (by have := sizeOfC_ok hc; dsimp only; omega), hlen1, hN1, (by dsimp only; omega)⟩ ?_
        intro i2 J_22 hIJ_22 hJ_22
        have hx2 := hIJ_22
        have hn2 := hx2.2.2.1
        have hz2 := hx2.2.2.2.1
        have hs2 := hx2.2.2.2.2
        refine go_exec (rs := [.tmp 2]) (by kernel_rfl) 4000 [.e 0, .sp [78] [.e 0, .s 1, .j 1 i2.1.toNat, .sp [88] [.e 0, .n, .e 0, .e 0, .s 1, .j 1 i2.1.toNat, .e 0, .n, .z [] 0 [3, 5]] [.n, .z [] 0 [3, 5]]] []] (o := .obl (ra_2 = ra_2) (.br (decide (i2.1 < ((i2.2.n : Nat) : Int))) (.obl (ra_2 = ra_2) (.obl (i2.2.aw = i2.2.aw ∧ i2.2.n = i2.2.ws.length) (.obl ((0 : Int) ≤ i2.1 ∧ i2.1 < ((i2.2.ws.length : Nat) : Int)) (.obl (slAt i2.2.aw i2.1.toNat 1 = slAt i2.2.aw i2.1.toNat 1) (.obl (i2.1.toNat < i2.2.ws.length) (.br ((i2.2.ws.getD i2.1.toNat 0) != 0) (.obl (ra_2 = ra_2) (.obl (InK .i64 (i2.2.steps + 1)) (.obl (ra_2 = ra_2) (.obl (ra_2 = ra_2) (.obl (i2.2.aw = i2.2.aw ∧ i2.2.n = i2.2.ws.length) (.obl ((0 : Int) ≤ i2.1 ∧ i2.1 < ((i2.2.ws.length : Nat) : Int)) (.obl (slAt i2.2.aw i2.1.toNat 1 = slAt i2.2.aw i2.1.toNat 1) (.obl (i2.1.toNat < i2.2.ws.length) (.obl (ra_2 = ra_2) (.obl (InK .i64 (i2.1 + 1)) (.stop [.j J_22, .b 2, .c q36_22] [(3, vP ra_2), (5, vI (i2.1 + 1))] [E458fb ra_2 i2.2 (i2.2.steps + 1) 2 i2.1 (i2.2.ws.getD i2.1.toNat 0) true false 0, E632c4 i2.2]))))))))))) (.obl (InK .i64 (i2.1 + 1)) (.stop [.j J_22, .b 2, .c q36_22] [(3, vP ra_2), (5, vI (i2.1 + 1))] [E0654b ra_2 i2.2 false 0, E632c4 i2.2])))))))) (.ret (vP ra_2) [E0654b ra_2 i2.2 false 0, E632c4 i2.2]))) (by kernel_rfl) ?_
        refine ok_obl rfl ?_
        refine ok_br (fun h_23 => ?_) (fun h_23 => ?_)
        · replace h_23 := decT h_23
          refine ok_obl rfl ?_
          refine ok_obl ⟨rfl, (by first | rfl | omega | (simp; done) | (simp; omega))⟩ ?_
          refine ok_obl (by have := sizeOfC_ok hc; first | omega | (simp; omega) | (have hq := blockAt_ok hc (clsOf_pos (c := c) (b := i1.1) (by omega)); first | omega | (simp; omega))) ?_
          refine ok_obl rfl ?_
          refine ok_obl (by have := sizeOfC_ok hc; first | omega | (simp; omega) | (have hq := blockAt_ok hc (clsOf_pos (c := c) (b := i1.1) (by omega)); first | omega | (simp; omega))) ?_
          refine ok_br (fun h_24 => ?_) (fun h_24 => ?_)
          · replace h_24 := bneT h_24
            refine ok_obl rfl ?_
            refine ok_obl (by have hsz := sizeOfC_ok hc; simp only [Cfg.Ok, InK] at *; first | done | omega) ?_
            refine ok_obl rfl ?_
            refine ok_obl rfl ?_
            refine ok_obl ⟨rfl, (by first | rfl | omega | (simp; done) | (simp; omega))⟩ ?_
            refine ok_obl (by have := sizeOfC_ok hc; first | omega | (simp; omega) | (have hq := blockAt_ok hc (clsOf_pos (c := c) (b := i1.1) (by omega)); first | omega | (simp; omega))) ?_
            refine ok_obl rfl ?_
            refine ok_obl (by have := sizeOfC_ok hc; first | omega | (simp; omega) | (have hq := blockAt_ok hc (clsOf_pos (c := c) (b := i1.1) (by omega)); first | omega | (simp; omega))) ?_
            refine ok_obl rfl ?_
            refine ok_obl (by have hsz := sizeOfC_ok hc; simp only [Cfg.Ok, InK] at *; first | done | omega) ?_
            refine ok_stop ?_
            exact go_back hJ_22 ((i2.1 + 1), (⟨i2.2.aw, i2.2.cw, i2.2.n, i2.2.ws, (i2.2.steps + 1), 2, i2.1, (i2.2.ws.getD i2.1.toNat 0), true⟩ : Ar)) [0, 1] (by kernel_rfl) (by kernel_rfl) (by kernel_rfl) ⟨(by dsimp only; rw [← hx2.1, rmCnt_next (n := sizeOfC c) (i := i2.1) (A := i2.2) (by omega), if_pos (by assumption)]), (by dsimp only; omega), hx2.2.2.1, hx2.2.2.2.1, (by dsimp only; omega)⟩ (by dsimp only; omega)
          · replace h_24 := bneF h_24
            refine ok_obl (by have hsz := sizeOfC_ok hc; simp only [Cfg.Ok, InK] at *; first | done | omega) ?_
            refine ok_stop ?_
            exact go_back hJ_22 ((i2.1 + 1), (⟨i2.2.aw, i2.2.cw, i2.2.n, i2.2.ws, i2.2.steps, i2.2.lk, i2.2.lw, i2.2.lv, i2.2.lc⟩ : Ar)) [0, 1] (by kernel_rfl) (by kernel_rfl) (by kernel_rfl) ⟨(by dsimp only; rw [← hx2.1, rmCnt_next (n := sizeOfC c) (i := i2.1) (A := i2.2) (by omega), if_neg (fun h => h (by assumption))]), (by dsimp only; omega), hx2.2.2.1, hx2.2.2.2.1, (by dsimp only; omega)⟩ (by dsimp only; omega)
        · replace h_23 := decF h_23
          exact ret_ok (post := [E0654b ra_2 i2.2 false 0, E632c4 i2.2]) [0, 1] (by kernel_rfl) ⟨ra_2, aw_3, cw_4, rfl, (by rw [← hx2.1, rmCnt_end (n := sizeOfC c) (i := i2.1) (A := i2.2) (by omega)])⟩
  · replace h_8 := decF h_8
    refine ok_obl rfl ?_
    refine ok_br (fun h_25 => ?_) (fun h_25 => ?_)
    · replace h_25 := decT h_25
      refine ok_stop ?_
      refine go_tail_op (so := .obl (slAt aw_3 4 1 = slAt aw_3 4 1) (.obl (4 < (((List.replicate (sizeOfC c).toNat (0 : Int)).set 0 7597137583116413295).set 1 (rpackW c)).length) (.ex fun x_26 : Int => .obl ([vU (c.n0 + 1)] = (encI .u64) x_26) (.ok .skip [Efdc04 b_1 c, E0cafa ra_2 aw_3 ((List.replicate (sizeOfC c).toNat (0 : Int)).length) cw_4 0 0 0 0 false false 0, E89d8b aw_3 cw_4 ((((List.replicate (sizeOfC c).toNat (0 : Int)).set 0 7597137583116413295).set 1 (rpackW c)).set 4 x_26)])))) (dst := none) (ps := [ra_2 = ra_2, b_1 = b_1, InK .i64 (c.n0 + 1), InK .u64 (c.n0 + 1), aw_3 = aw_3 ∧ (List.replicate (sizeOfC c).toNat (0 : Int)).length = (((List.replicate (sizeOfC c).toNat (0 : Int)).set 0 7597137583116413295).set 1 (rpackW c)).length, (0 : Int) ≤ 4 ∧ 4 < (((((List.replicate (sizeOfC c).toNat (0 : Int)).set 0 7597137583116413295).set 1 (rpackW c)).length : Nat) : Int)]) (cs := []) [(0, .h .w), (1, .h .w), (2, .h .w), (3, .h (.e 1)), (4, .h .w), (5, .h (.w)), (6, .h .w), (7, .h (.e 0)), (8, .h (.n)), (9, .h (.n)), (10, .h (.s 2))] 11 [] (.j 2 4) [1, 3] (by kernel_rfl) (by kernel_rfl) ⟨rfl, rfl, (by have hsz := sizeOfC_ok hc; simp only [Cfg.Ok, InK] at *; first | done | omega), (by have hsz := sizeOfC_ok hc; simp only [Cfg.Ok, InK] at *; first | done | omega), ⟨rfl, (by first | rfl | omega | (simp; done) | (simp; omega))⟩, (by have := sizeOfC_ok hc; first | omega | (simp; omega) | (have hq := blockAt_ok hc (clsOf_pos (c := c) (b := i1.1) (by omega)); first | omega | (simp; omega))), trivial⟩ trivial ?_
      refine sat_obl rfl ?_
      refine sat_obl (by have := sizeOfC_ok hc; first | omega | (simp; omega) | (have hq := blockAt_ok hc (clsOf_pos (c := c) (b := i1.1) (by omega)); first | omega | (simp; omega))) ?_
      refine sat_ex ((c.n0 + 1) : Int) ?_
      refine sat_obl rfl ?_
      refine sat_skip ?_
      refine tail_next (tm' := [(1, vP b_1), (3, vP ra_2)]) (ps2 := []) (by kernel_rfl) trivial ?_
      refine go_exec (rs := [.tmp 2]) (by kernel_rfl) 4000 [.z q36_13 0 [1, 3, 4]] (o := .stop [.c q36_13, .b 0, .c q36_14] [(1, vP b_1), (3, vP ra_2), (4, vI 1)] [Efdc04 b_1 c, E0cafa ra_2 aw_3 ((List.replicate (sizeOfC c).toNat (0 : Int)).length) cw_4 0 0 0 0 false false 0, E89d8b aw_3 cw_4 ((((List.replicate (sizeOfC c).toNat (0 : Int)).set 0 7597137583116413295).set 1 (rpackW c)).set 4 (c.n0 + 1))]) (by kernel_rfl) ?_
      refine ok_stop ?_
      refine go_loop (ι := Int × List Int) (fun i1 => [(1, vP b_1), (3, vP ra_2), (4, vI i1.1)]) (fun i1 => [Efdc04 b_1 c, E0cafa ra_2 aw_3 ((List.replicate (sizeOfC c).toNat (0 : Int)).length) cw_4 0 0 0 0 false false 0, E89d8b aw_3 cw_4 i1.2]) (fun i1 => rmLink c (c.n0 + c.n1 - i1.1).toNat i1.1 i1.2 = rmLink c (c.n0 + c.n1 - 1).toNat 1 (rmHead c (rpackW c)) ∧ 1 ≤ i1.1 ∧ i1.2.length = (List.replicate (sizeOfC c).toNat (0 : Int)).length) (fun i1 => (c.n0 + c.n1 - i1.1).toNat) (1, (((List.replicate (sizeOfC c).toNat (0 : Int)).set 0 7597137583116413295).set 1 (rpackW c)).set 4 (c.n0 + 1)) [1, 3, 4] [0, 1, 2] (by kernel_rfl) (by kernel_rfl) (by kernel_rfl) (by kernel_rfl) ⟨(by dsimp only; congr 1; unfold rmHead; dsimp only; (repeat' split) <;> first | rfl | (exfalso; omega)), (by dsimp only; omega), (by simp)⟩ ?_
      intro i1 J_27 hIJ_27 hJ_27
      have hx1 := hIJ_27
      have hlen1 := hx1.2.2
      have hN1 : (((List.replicate (sizeOfC c).toNat (0 : Int)).length : Nat) : Int) = sizeOfC c := by have := sizeOfC_ok hc; rw [List.length_replicate]; omega
      refine go_exec (rs := [.tmp 2]) (by kernel_rfl) 4000 [.e 0, .z q36_15 2 [1, 3, 4, 47, 48]] (o := .obl (b_1 = b_1) (.stop [.o q36_15 2, .c q36_16, .c q36_17, .j J_27, .b 0, .c q36_14] [(1, vP b_1), (3, vP ra_2), (4, vI i1.1), (47, vI i1.1), (48, cfgV c)] [Efdc04 b_1 c, E0cafa ra_2 aw_3 ((List.replicate (sizeOfC c).toNat (0 : Int)).length) cw_4 0 0 0 0 false false 0, E89d8b aw_3 cw_4 i1.2])) (by kernel_rfl) ?_
      refine ok_obl rfl ?_
      refine ok_stop ?_
      refine go_call (some 49) [] Tryz.call67 (ref_Blocks c (by first | assumption | omega | (simp only [InK] at *; omega))) (by kernel_rfl) ?_
      rintro v post ⟨rfl, rfl⟩
      refine go_exec (rs := [.tmp 2]) (by kernel_rfl) 4000 [.sp [50] [.z q36_18 0 [1, 3, 4]] [.z q36_19 0 [3, 5]]] (o := .br (decide (i1.1 < (c.n0 + c.n1))) (.stop [.c q36_18, .c q36_20, .b 1, .c q36_21, .j J_27, .b 0, .c q36_14] [(1, vP b_1), (3, vP ra_2), (4, vI i1.1)] [Efdc04 b_1 c, E0cafa ra_2 aw_3 ((List.replicate (sizeOfC c).toNat (0 : Int)).length) cw_4 0 0 0 0 false false 0, E89d8b aw_3 cw_4 i1.2]) (.stop [.c q36_19, .b 2, .c q36_22] [(3, vP ra_2), (5, vI 0)] [Efdc04 b_1 c, E0cafa ra_2 aw_3 ((List.replicate (sizeOfC c).toNat (0 : Int)).length) cw_4 0 0 0 0 false false 0, E89d8b aw_3 cw_4 i1.2])) (by kernel_rfl) ?_
      refine ok_br (fun h_28 => ?_) (fun h_28 => ?_)
      · replace h_28 := decT h_28
        refine ok_stop ?_
        refine go_quiet (tm' := [(1, vP b_1), (3, vP ra_2), (4, vI i1.1), (60, .bool ((clsOf c i1.1) == (clsOf c (i1.1 + 1))))]) (ps := [b_1 = b_1, b_1 = b_1, InK .i64 (i1.1 + 1)]) (cs := [(68, #[cfgV c, vI i1.1], vI (clsOf c i1.1)), (68, #[cfgV c, vI (i1.1 + 1)], vI (clsOf c (i1.1 + 1)))]) [(0, .h (.e 0)), (1, .h .w), (2, .q (vI (clsOf c i1.1))), (3, .h (.e 0)), (4, .h .w), (5, .h (.n)), (6, .q (vI (clsOf c (i1.1 + 1)))), (7, .h .w)] [1, 3, 4, 60] (by kernel_rfl) (by kernel_rfl) ⟨rfl, rfl, (by have hsz := sizeOfC_ok hc; simp only [Cfg.Ok, InK] at *; first | done | omega), trivial⟩ ⟨⟨Tryz.call68, quiet_of [] (ref_Class c i1.1 (by first | assumption | omega | (simp only [InK] at *; omega))) (by kernel_rfl) (by rintro v post ⟨rfl, rfl⟩; exact ⟨rfl, rfl⟩)⟩, ⟨Tryz.call68, quiet_of [] (ref_Class c (i1.1 + 1) (by first | assumption | omega | (simp only [InK] at *; omega))) (by kernel_rfl) (by rintro v post ⟨rfl, rfl⟩; exact ⟨rfl, rfl⟩)⟩, trivial⟩ ?_
        refine go_exec (rs := [.tmp 2]) (by kernel_rfl) 4000 [.sp [60] [.z q36_23 0 [1, 3, 4]] [.n, .z [] 0 [1, 3, 4]]] (o := .br ((clsOf c i1.1) == (clsOf c (i1.1 + 1))) (.stop [.c q36_23, .b 1, .c q36_21, .j J_27, .b 0, .c q36_14] [(1, vP b_1), (3, vP ra_2), (4, vI i1.1)] [Efdc04 b_1 c, E0cafa ra_2 aw_3 ((List.replicate (sizeOfC c).toNat (0 : Int)).length) cw_4 0 0 0 0 false false 0, E89d8b aw_3 cw_4 i1.2]) (.obl (InK .i64 (i1.1 + 1)) (.stop [.j J_27, .b 0, .c q36_14] [(1, vP b_1), (3, vP ra_2), (4, vI (i1.1 + 1))] [Efdc04 b_1 c, E0cafa ra_2 aw_3 ((List.replicate (sizeOfC c).toNat (0 : Int)).length) cw_4 0 0 0 0 false false 0, E89d8b aw_3 cw_4 i1.2]))) (by kernel_rfl) ?_
        refine ok_br (fun h_29 => ?_) (fun h_29 => ?_)
        · replace h_29 := beqT h_29
          refine ok_stop ?_
          refine go_tail_op (so := .obl (slAt aw_3 ((blockAt c i1.1).toNat) 1 = slAt aw_3 ((blockAt c i1.1).toNat) 1) (.obl ((blockAt c i1.1).toNat < i1.2.length) (.ex fun x_30 : Int => .obl ([vU (i1.1 + 1)] = (encI .u64) x_30) (.ok .skip [Efdc04 b_1 c, E0cafa ra_2 aw_3 ((List.replicate (sizeOfC c).toNat (0 : Int)).length) cw_4 0 0 0 0 false false 0, E89d8b aw_3 cw_4 (i1.2.set ((blockAt c i1.1).toNat) x_30)])))) (dst := none) (ps := [ra_2 = ra_2, b_1 = b_1, InK .i64 (i1.1 + 1), InK .u64 (i1.1 + 1), aw_3 = aw_3 ∧ (List.replicate (sizeOfC c).toNat (0 : Int)).length = i1.2.length, (0 : Int) ≤ (blockAt c i1.1) ∧ (blockAt c i1.1) < ((i1.2.length : Nat) : Int)]) (cs := [(69, #[cfgV c, vI i1.1], vI (blockAt c i1.1))]) [(0, .h .w), (1, .h .w), (2, .h .w), (3, .h (.e 1)), (4, .h (.e 0)), (5, .h .w), (6, .q (vI (blockAt c i1.1))), (7, .h .w), (8, .h (.n)), (9, .h (.n)), (10, .h (.s 2))] 11 [] (.j 2 ((blockAt c i1.1).toNat)) [1, 3, 4] (by kernel_rfl) (by kernel_rfl) ⟨rfl, rfl, (by have hsz := sizeOfC_ok hc; simp only [Cfg.Ok, InK] at *; first | done | omega), (by have hsz := sizeOfC_ok hc; simp only [Cfg.Ok, InK] at *; first | done | omega), ⟨rfl, (by first | rfl | omega | (simp; done) | (simp; omega))⟩, (by have := sizeOfC_ok hc; first | omega | (simp; omega) | (have hq := blockAt_ok hc (clsOf_pos (c := c) (b := i1.1) (by omega)); first | omega | (simp; omega))), trivial⟩ ⟨⟨Tryz.call69, quiet_of [] (ref_Block c i1.1 (by first | assumption | omega | (simp only [InK] at *; omega)) (by omega)) (by kernel_rfl) (by rintro v post ⟨rfl, rfl⟩; exact ⟨rfl, rfl⟩)⟩, trivial⟩ ?_
          refine sat_obl rfl ?_
          refine sat_obl (by have := sizeOfC_ok hc; first | omega | (simp; omega) | (have hq := blockAt_ok hc (clsOf_pos (c := c) (b := i1.1) (by omega)); first | omega | (simp; omega))) ?_
          refine sat_ex ((i1.1 + 1) : Int) ?_
          refine sat_obl rfl ?_
          refine sat_skip ?_
          refine tail_next (tm' := [(1, vP b_1), (3, vP ra_2), (4, vI i1.1)]) (ps2 := []) (by kernel_rfl) trivial ?_
          refine go_exec (rs := [.tmp 2]) (by kernel_rfl) 4000 [.n, .z [] 0 [1, 3, 4]] (o := .obl (InK .i64 (i1.1 + 1)) (.stop [.j J_27, .b 0, .c q36_14] [(1, vP b_1), (3, vP ra_2), (4, vI (i1.1 + 1))] [Efdc04 b_1 c, E0cafa ra_2 aw_3 ((List.replicate (sizeOfC c).toNat (0 : Int)).length) cw_4 0 0 0 0 false false 0, E89d8b aw_3 cw_4 (i1.2.set ((blockAt c i1.1).toNat) (i1.1 + 1))])) (by kernel_rfl) ?_
          refine ok_obl (by have hsz := sizeOfC_ok hc; simp only [Cfg.Ok, InK] at *; first | done | omega) ?_
          refine ok_stop ?_
          exact go_back hJ_27 ((i1.1 + 1), i1.2.set ((blockAt c i1.1).toNat) (i1.1 + 1)) [0, 1, 2] (by kernel_rfl) (by kernel_rfl) (by kernel_rfl) ⟨(by dsimp only; rw [← hx1.1, rmLink_next (c := c) (b := i1.1) (W := i1.2) (by omega), if_pos (by assumption)]), (by dsimp only; omega), (by dsimp only; first | exact hx1.2.2 | (rw [List.length_set]; exact hx1.2.2))⟩ (by dsimp only; omega)
        · replace h_29 := beqF h_29
          refine ok_obl (by have hsz := sizeOfC_ok hc; simp only [Cfg.Ok, InK] at *; first | done | omega) ?_
          refine ok_stop ?_
          exact go_back hJ_27 ((i1.1 + 1), i1.2) [0, 1, 2] (by kernel_rfl) (by kernel_rfl) (by kernel_rfl) ⟨(by dsimp only; rw [← hx1.1, rmLink_next (c := c) (b := i1.1) (W := i1.2) (by omega), if_neg (by assumption)]), (by dsimp only; omega), (by dsimp only; first | exact hx1.2.2 | (rw [List.length_set]; exact hx1.2.2))⟩ (by dsimp only; omega)
      · replace h_28 := decF h_28
        refine ok_stop ?_
        refine go_loop (ι := Int × Ar) (fun i2 => [(3, vP ra_2), (5, vI i2.1)]) (fun i2 => [E0654b ra_2 i2.2 false 0, E632c4 i2.2]) (fun i2 => rmCnt (sizeOfC c - i2.1).toNat i2.1 i2.2 = rmAr c (rpackW c) aw_3 cw_4 ∧ (0 ≤ i2.1 ∧ i2.1 ≤ sizeOfC c) ∧ i2.2.ws.length = i2.2.n ∧ (i2.2.n : Int) = sizeOfC c ∧ (0 ≤ i2.2.steps ∧ i2.2.steps ≤ i2.1)) (fun i2 => (sizeOfC c - i2.1).toNat) (0, (⟨aw_3, cw_4, (List.replicate (sizeOfC c).toNat (0 : Int)).length, i1.2, 0, 0, 0, 0, false⟩ : Ar)) [3, 5] [1, 2] (by kernel_rfl) (by kernel_rfl) (by kernel_rfl) (by kernel_rfl) ⟨(by dsimp only; unfold rmAr; rw [← hx1.1, rmLink_end (c := c) (b := i1.1) (W := i1.2) (by omega), Int.sub_zero]), (by have := sizeOfC_ok hc; dsimp only; omega), hlen1, hN1, (by dsimp only; omega)⟩ ?_
        intro i2 J_31 hIJ_31 hJ_31
        have hx2 := hIJ_31
        have hn2 := hx2.2.2.1
        have hz2 := hx2.2.2.2.1
        have hs2 := hx2.2.2.2.2
        refine go_exec (rs := [.tmp 2]) (by kernel_rfl) 4000 [.e 0, .sp [78] [.e 0, .s 1, .j 1 i2.1.toNat, .sp [88] [.e 0, .n, .e 0, .e 0, .s 1, .j 1 i2.1.toNat, .e 0, .n, .z [] 0 [3, 5]] [.n, .z [] 0 [3, 5]]] []] (o := .obl (ra_2 = ra_2) (.br (decide (i2.1 < ((i2.2.n : Nat) : Int))) (.obl (ra_2 = ra_2) (.obl (i2.2.aw = i2.2.aw ∧ i2.2.n = i2.2.ws.length) (.obl ((0 : Int) ≤ i2.1 ∧ i2.1 < ((i2.2.ws.length : Nat) : Int)) (.obl (slAt i2.2.aw i2.1.toNat 1 = slAt i2.2.aw i2.1.toNat 1) (.obl (i2.1.toNat < i2.2.ws.length) (.br ((i2.2.ws.getD i2.1.toNat 0) != 0) (.obl (ra_2 = ra_2) (.obl (InK .i64 (i2.2.steps + 1)) (.obl (ra_2 = ra_2) (.obl (ra_2 = ra_2) (.obl (i2.2.aw = i2.2.aw ∧ i2.2.n = i2.2.ws.length) (.obl ((0 : Int) ≤ i2.1 ∧ i2.1 < ((i2.2.ws.length : Nat) : Int)) (.obl (slAt i2.2.aw i2.1.toNat 1 = slAt i2.2.aw i2.1.toNat 1) (.obl (i2.1.toNat < i2.2.ws.length) (.obl (ra_2 = ra_2) (.obl (InK .i64 (i2.1 + 1)) (.stop [.j J_31, .b 2, .c q36_22] [(3, vP ra_2), (5, vI (i2.1 + 1))] [E458fb ra_2 i2.2 (i2.2.steps + 1) 2 i2.1 (i2.2.ws.getD i2.1.toNat 0) true false 0, E632c4 i2.2]))))))))))) (.obl (InK .i64 (i2.1 + 1)) (.stop [.j J_31, .b 2, .c q36_22] [(3, vP ra_2), (5, vI (i2.1 + 1))] [E0654b ra_2 i2.2 false 0, E632c4 i2.2])))))))) (.ret (vP ra_2) [E0654b ra_2 i2.2 false 0, E632c4 i2.2]))) (by kernel_rfl) ?_
        refine ok_obl rfl ?_
        refine ok_br (fun h_32 => ?_) (fun h_32 => ?_)
        · replace h_32 := decT h_32
          refine ok_obl rfl ?_
          refine ok_obl ⟨rfl, (by first | rfl | omega | (simp; done) | (simp; omega))⟩ ?_
          refine ok_obl (by have := sizeOfC_ok hc; first | omega | (simp; omega) | (have hq := blockAt_ok hc (clsOf_pos (c := c) (b := i1.1) (by omega)); first | omega | (simp; omega))) ?_
          refine ok_obl rfl ?_
          refine ok_obl (by have := sizeOfC_ok hc; first | omega | (simp; omega) | (have hq := blockAt_ok hc (clsOf_pos (c := c) (b := i1.1) (by omega)); first | omega | (simp; omega))) ?_
          refine ok_br (fun h_33 => ?_) (fun h_33 => ?_)
          · replace h_33 := bneT h_33
            refine ok_obl rfl ?_
            refine ok_obl (by have hsz := sizeOfC_ok hc; simp only [Cfg.Ok, InK] at *; first | done | omega) ?_
            refine ok_obl rfl ?_
            refine ok_obl rfl ?_
            refine ok_obl ⟨rfl, (by first | rfl | omega | (simp; done) | (simp; omega))⟩ ?_
            refine ok_obl (by have := sizeOfC_ok hc; first | omega | (simp; omega) | (have hq := blockAt_ok hc (clsOf_pos (c := c) (b := i1.1) (by omega)); first | omega | (simp; omega))) ?_
            refine ok_obl rfl ?_
            refine ok_obl (by have := sizeOfC_ok hc; first | omega | (simp; omega) | (have hq := blockAt_ok hc (clsOf_pos (c := c) (b := i1.1) (by omega)); first | omega | (simp; omega))) ?_
            refine ok_obl rfl ?_
            refine ok_obl (by have hsz := sizeOfC_ok hc; simp only [Cfg.Ok, InK] at *; first | done | omega) ?_
            refine ok_stop ?_
            exact go_back hJ_31 ((i2.1 + 1), (⟨i2.2.aw, i2.2.cw, i2.2.n, i2.2.ws, (i2.2.steps + 1), 2, i2.1, (i2.2.ws.getD i2.1.toNat 0), true⟩ : Ar)) [0, 1] (by kernel_rfl) (by kernel_rfl) (by kernel_rfl) ⟨(by dsimp only; rw [← hx2.1, rmCnt_next (n := sizeOfC c) (i := i2.1) (A := i2.2) (by omega), if_pos (by assumption)]), (by dsimp only; omega), hx2.2.2.1, hx2.2.2.2.1, (by dsimp only; omega)⟩ (by dsimp only; omega)
          · replace h_33 := bneF h_33
            refine ok_obl (by have hsz := sizeOfC_ok hc; simp only [Cfg.Ok, InK] at *; first | done | omega) ?_
            refine ok_stop ?_
            exact go_back hJ_31 ((i2.1 + 1), (⟨i2.2.aw, i2.2.cw, i2.2.n, i2.2.ws, i2.2.steps, i2.2.lk, i2.2.lw, i2.2.lv, i2.2.lc⟩ : Ar)) [0, 1] (by kernel_rfl) (by kernel_rfl) (by kernel_rfl) ⟨(by dsimp only; rw [← hx2.1, rmCnt_next (n := sizeOfC c) (i := i2.1) (A := i2.2) (by omega), if_neg (fun h => h (by assumption))]), (by dsimp only; omega), hx2.2.2.1, hx2.2.2.2.1, (by dsimp only; omega)⟩ (by dsimp only; omega)
        · replace h_32 := decF h_32
          exact ret_ok (post := [E0654b ra_2 i2.2 false 0, E632c4 i2.2]) [0, 1] (by kernel_rfl) ⟨ra_2, aw_3, cw_4, rfl, (by rw [← hx2.1, rmCnt_end (n := sizeOfC c) (i := i2.1) (A := i2.2) (by omega)])⟩
    · replace h_25 := decF h_25
      refine ok_stop ?_
      refine go_loop (ι := Int × List Int) (fun i1 => [(1, vP b_1), (3, vP ra_2), (4, vI i1.1)]) (fun i1 => [Efdc04 b_1 c, E0cafa ra_2 aw_3 ((List.replicate (sizeOfC c).toNat (0 : Int)).length) cw_4 0 0 0 0 false false 0, E89d8b aw_3 cw_4 i1.2]) (fun i1 => rmLink c (c.n0 + c.n1 - i1.1).toNat i1.1 i1.2 = rmLink c (c.n0 + c.n1 - 1).toNat 1 (rmHead c (rpackW c)) ∧ 1 ≤ i1.1 ∧ i1.2.length = (List.replicate (sizeOfC c).toNat (0 : Int)).length) (fun i1 => (c.n0 + c.n1 - i1.1).toNat) (1, ((List.replicate (sizeOfC c).toNat (0 : Int)).set 0 7597137583116413295).set 1 (rpackW c)) [1, 3, 4] [0, 1, 2] (by kernel_rfl) (by kernel_rfl) (by kernel_rfl) (by kernel_rfl) ⟨(by dsimp only; congr 1; unfold rmHead; dsimp only; (repeat' split) <;> first | rfl | (exfalso; omega)), (by dsimp only; omega), (by simp)⟩ ?_
      intro i1 J_34 hIJ_34 hJ_34
      have hx1 := hIJ_34
      have hlen1 := hx1.2.2
      have hN1 : (((List.replicate (sizeOfC c).toNat (0 : Int)).length : Nat) : Int) = sizeOfC c := by have := sizeOfC_ok hc; rw [List.length_replicate]; omega
      refine go_exec (rs := [.tmp 2]) (by kernel_rfl) 4000 [.e 0, .z q36_15 2 [1, 3, 4, 47, 48]] (o := .obl (b_1 = b_1) (.stop [.o q36_15 2, .c q36_16, .c q36_17, .j J_34, .b 0, .c q36_14] [(1, vP b_1), (3, vP ra_2), (4, vI i1.1), (47, vI i1.1), (48, cfgV c)] [Efdc04 b_1 c, E0cafa ra_2 aw_3 ((List.replicate (sizeOfC c).toNat (0 : Int)).length) cw_4 0 0 0 0 false false 0, E89d8b aw_3 cw_4 i1.2])) (by kernel_rfl) ?_
      refine ok_obl rfl ?_
      refine ok_stop ?_
      refine go_call (some 49) [] Tryz.call67 (ref_Blocks c (by first | assumption | omega | (simp only [InK] at *; omega))) (by kernel_rfl) ?_
      rintro v post ⟨rfl, rfl⟩
      refine go_exec (rs := [.tmp 2]) (by kernel_rfl) 4000 [.sp [50] [.z q36_18 0 [1, 3, 4]] [.z q36_19 0 [3, 5]]] (o := .br (decide (i1.1 < (c.n0 + c.n1))) (.stop [.c q36_18, .c q36_20, .b 1, .c q36_21, .j J_34, .b 0, .c q36_14] [(1, vP b_1), (3, vP ra_2), (4, vI i1.1)] [Efdc04 b_1 c, E0cafa ra_2 aw_3 ((List.replicate (sizeOfC c).toNat (0 : Int)).length) cw_4 0 0 0 0 false false 0, E89d8b aw_3 cw_4 i1.2]) (.stop [.c q36_19, .b 2, .c q36_22] [(3, vP ra_2), (5, vI 0)] [Efdc04 b_1 c, E0cafa ra_2 aw_3 ((List.replicate (sizeOfC c).toNat (0 : Int)).length) cw_4 0 0 0 0 false false 0, E89d8b aw_3 cw_4 i1.2])) (by kernel_rfl) ?_
      refine ok_br (fun h_35 => ?_) (fun h_35 => ?_)
      · replace h_35 := decT h_35
        refine ok_stop ?_
        refine go_quiet (tm' := [(1, vP b_1), (3, vP ra_2), (4, vI i1.1), (60, .bool ((clsOf c i1.1) == (clsOf c (i1.1 + 1))))]) (ps := [b_1 = b_1, b_1 = b_1, InK .i64 (i1.1 + 1)]) (cs := [(68, #[cfgV c, vI i1.1], vI (clsOf c i1.1)), (68, #[cfgV c, vI (i1.1 + 1)], vI (clsOf c (i1.1 + 1)))]) [(0, .h (.e 0)), (1, .h .w), (2, .q (vI (clsOf c i1.1))), (3, .h (.e 0)), (4, .h .w), (5, .h (.n)), (6, .q (vI (clsOf c (i1.1 + 1)))), (7, .h .w)] [1, 3, 4, 60] (by kernel_rfl) (by kernel_rfl) ⟨rfl, rfl, (by have hsz := sizeOfC_ok hc; simp only [Cfg.Ok, InK] at *; first | done | omega), trivial⟩ ⟨⟨Tryz.call68, quiet_of [] (ref_Class c i1.1 (by first | assumption | omega | (simp only [InK] at *; omega))) (by kernel_rfl) (by rintro v post ⟨rfl, rfl⟩; exact ⟨rfl, rfl⟩)⟩, ⟨Tryz.call68, quiet_of [] (ref_Class c (i1.1 + 1) (by first | assumption | omega | (simp only [InK] at *; omega))) (by kernel_rfl) (by rintro v post ⟨rfl, rfl⟩; exact ⟨rfl, rfl⟩)⟩, trivial⟩ ?_
        refine go_exec (rs := [.tmp 2]) (by kernel_rfl) 4000 [.sp [60] [.z q36_23 0 [1, 3, 4]] [.n, .z [] 0 [1, 3, 4]]] (o := .br ((clsOf c i1.1) == (clsOf c (i1.1 + 1))) (.stop [.c q36_23, .b 1, .c q36_21, .j J_34, .b 0, .c q36_14] [(1, vP b_1), (3, vP ra_2), (4, vI i1.1)] [Efdc04 b_1 c, E0cafa ra_2 aw_3 ((List.replicate (sizeOfC c).toNat (0 : Int)).length) cw_4 0 0 0 0 false false 0, E89d8b aw_3 cw_4 i1.2]) (.obl (InK .i64 (i1.1 + 1)) (.stop [.j J_34, .b 0, .c q36_14] [(1, vP b_1), (3, vP ra_2), (4, vI (i1.1 + 1))] [Efdc04 b_1 c, E0cafa ra_2 aw_3 ((List.replicate (sizeOfC c).toNat (0 : Int)).length) cw_4 0 0 0 0 false false 0, E89d8b aw_3 cw_4 i1.2]))) (by kernel_rfl) ?_
        refine ok_br (fun h_36 => ?_) (fun h_36 => ?_)
        · replace h_36 := beqT h_36
          refine ok_stop ?_
          refine go_tail_op (so := .obl (slAt aw_3 ((blockAt c i1.1).toNat) 1 = slAt aw_3 ((blockAt c i1.1).toNat) 1) (.obl ((blockAt c i1.1).toNat < i1.2.length) (.ex fun x_37 : Int => .obl ([vU (i1.1 + 1)] = (encI .u64) x_37) (.ok .skip [Efdc04 b_1 c, E0cafa ra_2 aw_3 ((List.replicate (sizeOfC c).toNat (0 : Int)).length) cw_4 0 0 0 0 false false 0, E89d8b aw_3 cw_4 (i1.2.set ((blockAt c i1.1).toNat) x_37)])))) (dst := none) (ps := [ra_2 = ra_2, b_1 = b_1, InK .i64 (i1.1 + 1), InK .u64 (i1.1 + 1), aw_3 = aw_3 ∧ (List.replicate (sizeOfC c).toNat (0 : Int)).length = i1.2.length, (0 : Int) ≤ (blockAt c i1.1) ∧ (blockAt c i1.1) < ((i1.2.length : Nat) : Int)]) (cs := [(69, #[cfgV c, vI i1.1], vI (blockAt c i1.1))]) [(0, .h .w), (1, .h .w), (2, .h .w), (3, .h (.e 1)), (4, .h (.e 0)), (5, .h .w), (6, .q (vI (blockAt c i1.1))), (7, .h .w), (8, .h (.n)), (9, .h (.n)), (10, .h (.s 2))] 11 [] (.j 2 ((blockAt c i1.1).toNat)) [1, 3, 4] (by kernel_rfl) (by kernel_rfl) ⟨rfl, rfl, (by have hsz := sizeOfC_ok hc; simp only [Cfg.Ok, InK] at *; first | done | omega), (by have hsz := sizeOfC_ok hc; simp only [Cfg.Ok, InK] at *; first | done | omega), ⟨rfl, (by first | rfl | omega | (simp; done) | (simp; omega))⟩, (by have := sizeOfC_ok hc; first | omega | (simp; omega) | (have hq := blockAt_ok hc (clsOf_pos (c := c) (b := i1.1) (by omega)); first | omega | (simp; omega))), trivial⟩ ⟨⟨Tryz.call69, quiet_of [] (ref_Block c i1.1 (by first | assumption | omega | (simp only [InK] at *; omega)) (by omega)) (by kernel_rfl) (by rintro v post ⟨rfl, rfl⟩; exact ⟨rfl, rfl⟩)⟩, trivial⟩ ?_
          refine sat_obl rfl ?_
          refine sat_obl (by have := sizeOfC_ok hc; first | omega | (simp; omega) | (have hq := blockAt_ok hc (clsOf_pos (c := c) (b := i1.1) (by omega)); first | omega | (simp; omega))) ?_
          refine sat_ex ((i1.1 + 1) : Int) ?_
          refine sat_obl rfl ?_
          refine sat_skip ?_
          refine tail_next (tm' := [(1, vP b_1), (3, vP ra_2), (4, vI i1.1)]) (ps2 := []) (by kernel_rfl) trivial ?_
          refine go_exec (rs := [.tmp 2]) (by kernel_rfl) 4000 [.n, .z [] 0 [1, 3, 4]] (o := .obl (InK .i64 (i1.1 + 1)) (.stop [.j J_34, .b 0, .c q36_14] [(1, vP b_1), (3, vP ra_2), (4, vI (i1.1 + 1))] [Efdc04 b_1 c, E0cafa ra_2 aw_3 ((List.replicate (sizeOfC c).toNat (0 : Int)).length) cw_4 0 0 0 0 false false 0, E89d8b aw_3 cw_4 (i1.2.set ((blockAt c i1.1).toNat) (i1.1 + 1))])) (by kernel_rfl) ?_
          refine ok_obl (by have hsz := sizeOfC_ok hc; simp only [Cfg.Ok, InK] at *; first | done | omega) ?_
          refine ok_stop ?_
          exact go_back hJ_34 ((i1.1 + 1), i1.2.set ((blockAt c i1.1).toNat) (i1.1 + 1)) [0, 1, 2] (by kernel_rfl) (by kernel_rfl) (by kernel_rfl) ⟨(by dsimp only; rw [← hx1.1, rmLink_next (c := c) (b := i1.1) (W := i1.2) (by omega), if_pos (by assumption)]), (by dsimp only; omega), (by dsimp only; first | exact hx1.2.2 | (rw [List.length_set]; exact hx1.2.2))⟩ (by dsimp only; omega)
        · replace h_36 := beqF h_36
          refine ok_obl (by have hsz := sizeOfC_ok hc; simp only [Cfg.Ok, InK] at *; first | done | omega) ?_
          refine ok_stop ?_
          exact go_back hJ_34 ((i1.1 + 1), i1.2) [0, 1, 2] (by kernel_rfl) (by kernel_rfl) (by kernel_rfl) ⟨(by dsimp only; rw [← hx1.1, rmLink_next (c := c) (b := i1.1) (W := i1.2) (by omega), if_neg (by assumption)]), (by dsimp only; omega), (by dsimp only; first | exact hx1.2.2 | (rw [List.length_set]; exact hx1.2.2))⟩ (by dsimp only; omega)
      · replace h_35 := decF h_35
        refine ok_stop ?_
        refine go_loop (ι := Int × Ar) (fun i2 => [(3, vP ra_2), (5, vI i2.1)]) (fun i2 => [E0654b ra_2 i2.2 false 0, E632c4 i2.2]) (fun i2 => rmCnt (sizeOfC c - i2.1).toNat i2.1 i2.2 = rmAr c (rpackW c) aw_3 cw_4 ∧ (0 ≤ i2.1 ∧ i2.1 ≤ sizeOfC c) ∧ i2.2.ws.length = i2.2.n ∧ (i2.2.n : Int) = sizeOfC c ∧ (0 ≤ i2.2.steps ∧ i2.2.steps ≤ i2.1)) (fun i2 => (sizeOfC c - i2.1).toNat) (0, (⟨aw_3, cw_4, (List.replicate (sizeOfC c).toNat (0 : Int)).length, i1.2, 0, 0, 0, 0, false⟩ : Ar)) [3, 5] [1, 2] (by kernel_rfl) (by kernel_rfl) (by kernel_rfl) (by kernel_rfl) ⟨(by dsimp only; unfold rmAr; rw [← hx1.1, rmLink_end (c := c) (b := i1.1) (W := i1.2) (by omega), Int.sub_zero]), (by have := sizeOfC_ok hc; dsimp only; omega), hlen1, hN1, (by dsimp only; omega)⟩ ?_
        intro i2 J_38 hIJ_38 hJ_38
        have hx2 := hIJ_38
        have hn2 := hx2.2.2.1
        have hz2 := hx2.2.2.2.1
        have hs2 := hx2.2.2.2.2
        refine go_exec (rs := [.tmp 2]) (by kernel_rfl) 4000 [.e 0, .sp [78] [.e 0, .s 1, .j 1 i2.1.toNat, .sp [88] [.e 0, .n, .e 0, .e 0, .s 1, .j 1 i2.1.toNat, .e 0, .n, .z [] 0 [3, 5]] [.n, .z [] 0 [3, 5]]] []] (o := .obl (ra_2 = ra_2) (.br (decide (i2.1 < ((i2.2.n : Nat) : Int))) (.obl (ra_2 = ra_2) (.obl (i2.2.aw = i2.2.aw ∧ i2.2.n = i2.2.ws.length) (.obl ((0 : Int) ≤ i2.1 ∧ i2.1 < ((i2.2.ws.length : Nat) : Int)) (.obl (slAt i2.2.aw i2.1.toNat 1 = slAt i2.2.aw i2.1.toNat 1) (.obl (i2.1.toNat < i2.2.ws.length) (.br ((i2.2.ws.getD i2.1.toNat 0) != 0) (.obl (ra_2 = ra_2) (.obl (InK .i64 (i2.2.steps + 1)) (.obl (ra_2 = ra_2) (.obl (ra_2 = ra_2) (.obl (i2.2.aw = i2.2.aw ∧ i2.2.n = i2.2.ws.length) (.obl ((0 : Int) ≤ i2.1 ∧ i2.1 < ((i2.2.ws.length : Nat) : Int)) (.obl (slAt i2.2.aw i2.1.toNat 1 = slAt i2.2.aw i2.1.toNat 1) (.obl (i2.1.toNat < i2.2.ws.length) (.obl (ra_2 = ra_2) (.obl (InK .i64 (i2.1 + 1)) (.stop [.j J_38, .b 2, .c q36_22] [(3, vP ra_2), (5, vI (i2.1 + 1))] [E458fb ra_2 i2.2 (i2.2.steps + 1) 2 i2.1 (i2.2.ws.getD i2.1.toNat 0) true false 0, E632c4 i2.2]))))))))))) (.obl (InK .i64 (i2.1 + 1)) (.stop [.j J_38, .b 2, .c q36_22] [(3, vP ra_2), (5, vI (i2.1 + 1))] [E0654b ra_2 i2.2 false 0, E632c4 i2.2])))))))) (.ret (vP ra_2) [E0654b ra_2 i2.2 false 0, E632c4 i2.2]))) (by kernel_rfl) ?_
        refine ok_obl rfl ?_
        refine ok_br (fun h_39 => ?_) (fun h_39 => ?_)
        · replace h_39 := decT h_39
          refine ok_obl rfl ?_
          refine ok_obl ⟨rfl, (by first | rfl | omega | (simp; done) | (simp; omega))⟩ ?_
          refine ok_obl (by have := sizeOfC_ok hc; first | omega | (simp; omega) | (have hq := blockAt_ok hc (clsOf_pos (c := c) (b := i1.1) (by omega)); first | omega | (simp; omega))) ?_
          refine ok_obl rfl ?_
          refine ok_obl (by have := sizeOfC_ok hc; first | omega | (simp; omega) | (have hq := blockAt_ok hc (clsOf_pos (c := c) (b := i1.1) (by omega)); first | omega | (simp; omega))) ?_
          refine ok_br (fun h_40 => ?_) (fun h_40 => ?_)
          · replace h_40 := bneT h_40
            refine ok_obl rfl ?_
            refine ok_obl (by have hsz := sizeOfC_ok hc; simp only [Cfg.Ok, InK] at *; first | done | omega) ?_
            refine ok_obl rfl ?_
            refine ok_obl rfl ?_
            refine ok_obl ⟨rfl, (by first | rfl | omega | (simp; done) | (simp; omega))⟩ ?_
            refine ok_obl (by have := sizeOfC_ok hc; first | omega | (simp; omega) | (have hq := blockAt_ok hc (clsOf_pos (c := c) (b := i1.1) (by omega)); first | omega | (simp; omega))) ?_
            refine ok_obl rfl ?_
            refine ok_obl (by have := sizeOfC_ok hc; first | omega | (simp; omega) | (have hq := blockAt_ok hc (clsOf_pos (c := c) (b := i1.1) (by omega)); first | omega | (simp; omega))) ?_
            refine ok_obl rfl ?_
            refine ok_obl (by have hsz := sizeOfC_ok hc; simp only [Cfg.Ok, InK] at *; first | done | omega) ?_
            refine ok_stop ?_
            exact go_back hJ_38 ((i2.1 + 1), (⟨i2.2.aw, i2.2.cw, i2.2.n, i2.2.ws, (i2.2.steps + 1), 2, i2.1, (i2.2.ws.getD i2.1.toNat 0), true⟩ : Ar)) [0, 1] (by kernel_rfl) (by kernel_rfl) (by kernel_rfl) ⟨(by dsimp only; rw [← hx2.1, rmCnt_next (n := sizeOfC c) (i := i2.1) (A := i2.2) (by omega), if_pos (by assumption)]), (by dsimp only; omega), hx2.2.2.1, hx2.2.2.2.1, (by dsimp only; omega)⟩ (by dsimp only; omega)
          · replace h_40 := bneF h_40
            refine ok_obl (by have hsz := sizeOfC_ok hc; simp only [Cfg.Ok, InK] at *; first | done | omega) ?_
            refine ok_stop ?_
            exact go_back hJ_38 ((i2.1 + 1), (⟨i2.2.aw, i2.2.cw, i2.2.n, i2.2.ws, i2.2.steps, i2.2.lk, i2.2.lw, i2.2.lv, i2.2.lc⟩ : Ar)) [0, 1] (by kernel_rfl) (by kernel_rfl) (by kernel_rfl) ⟨(by dsimp only; rw [← hx2.1, rmCnt_next (n := sizeOfC c) (i := i2.1) (A := i2.2) (by omega), if_neg (fun h => h (by assumption))]), (by dsimp only; omega), hx2.2.2.1, hx2.2.2.2.1, (by dsimp only; omega)⟩ (by dsimp only; omega)
        · replace h_39 := decF h_39
          exact ret_ok (post := [E0654b ra_2 i2.2 false 0, E632c4 i2.2]) [0, 1] (by kernel_rfl) ⟨ra_2, aw_3, cw_4, rfl, (by rw [← hx2.1, rmCnt_end (n := sizeOfC c) (i := i2.1) (A := i2.2) (by omega)])⟩

end Go.Proofs.YtiiepkjckmdmkaaGreatDoor


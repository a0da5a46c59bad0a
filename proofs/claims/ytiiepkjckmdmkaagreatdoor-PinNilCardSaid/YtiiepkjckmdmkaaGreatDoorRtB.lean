/- Walks: what functions of the program and of the document compute, part 2 of those on which PinNil rests. -/
import Derived.Test.YtiiepkjckmdmkaaGreatDoorRtA

set_option linter.unusedVariables false
set_option linter.unusedSimpArgs false

namespace Go.Proofs.YtiiepkjckmdmkaaGreatDoor
open Go.Sx
abbrev Ef894e (x0 : Nat) (c1 : Cfg) (x2 : Int) (x3 : Int) (x4 : Int) (x5 : Int) (x6 : Value) (x7 : Int) (x8 : Int) (x9 : Int) (x10 : Int) (x11 : Value) : Ent := .pts x0 [.int .i64 c1.topics, .int .i64 c1.small, .int .i64 c1.slots, .int .i64 c1.clients, .int .i64 c1.s0, .int .i64 c1.n0, .int .i64 c1.s1, .int .i64 c1.n1, .int .i64 c1.retry, .int .i64 x2, .int .i64 x3, .int .i64 x4, .int .i64 x5, x6, .int .u64 x7, .int .i64 x8, .int .i64 x9, .int .i64 x10, x11] 153
abbrev E9f3a0 (x0 : Nat) (c1 : Cfg) (x2 : Int) (x3 : Int) (x4 : Int) (x5 : Int) (x6 : Value) (x7 : Int) (x8 : Int) (x9 : Int) (x10 : Int) : Ent := .pts x0 [.int .i64 c1.topics, .int .i64 c1.small, .int .i64 c1.slots, .int .i64 c1.clients, .int .i64 c1.s0, .int .i64 c1.n0, .int .i64 c1.s1, .int .i64 c1.n1, .int .i64 c1.retry, .int .i64 x2, .int .i64 x3, .int .i64 x4, .int .i64 x5, x6, .int .u64 x7, .int .i64 x8, .int .i64 x9, .int .i64 x10, .nilIface] 153
abbrev q31_0 : List Nat := [0, 1, 1, 1, 0, 1, 1]
abbrev q31_1 : List Nat := [0, 0, 1, 0, 1, 1, 1]

/-- the step that is next -/
noncomputable def nxG (g : Nat) : Nat → Value
  | 1 => .func (.func 128) #[vP g] #[]
  | 2 => .func (.func 141) #[vP g] #[]
  | 3 => .func (.func 144) #[vP g] #[]
  | _ => .nilFunc
noncomputable def B142 : Code := (Tryz.f142.body).getD .skip

theorem gEnd0 (c : Cfg) (g : Nat) (cl ep sl wd sn bk fl cm : Int) (nx er : Value)  :
    Ctr Tryz.prog 142 #[vP g, vI 0] [Ef894e g c cl ep sl wd nx sn bk fl cm er] (Ret (undef) [E9f3a0 g c cl ep sl wd (.nilFunc) sn bk fl cm]) := by
  refine ctr_of (args := [vP g, vI 0]) (fn := Tryz.f142) (body := B142) (nt := 20) Tryz.func142 (by kernel_rfl) (by kernel_rfl) ?_
  intro F
  refine go_exec (rs := []) (by kernel_rfl) 4000 [.e 0, .z [0, 1] 2 [0, 7, 8]] (o := .obl (g = g) (.stop [.o [0, 1] 2, .c [1, 1]] [(0, vP g), (7, vP g), (8, vI 0)] [Ef894e g c cl ep sl wd (.nilFunc) sn bk fl cm er])) (by kernel_rfl) ?_
  refine ok_obl rfl ?_
  refine ok_stop ?_
  refine go_call (some 9) [] Tryz.call36 (cause_New0) (by kernel_rfl) ?_
  rintro v post ⟨rfl, rfl⟩
  refine go_exec (rs := []) (by kernel_rfl) 4000 [.e 0, .e 0] (o := .obl (g = g) (.obl (g = g) (.ret (undef) [E9f3a0 g c cl ep sl wd (.nilFunc) sn bk fl cm]))) (by kernel_rfl) ?_
  refine ok_obl rfl ?_
  refine ok_obl rfl ?_
  exact ret_ok (post := [E9f3a0 g c cl ep sl wd (.nilFunc) sn bk fl cm]) [0] (by kernel_rfl) ⟨rfl, (by kernel_rfl)⟩


theorem gEndE (c : Cfg) (g : Nat) (cl ep sl wd sn bk fl cm : Int) (nx er : Value) (k_ : Int) (hk : k_ ≠ 0) :
    Ctr Tryz.prog 142 #[vP g, vI k_] [Ef894e g c cl ep sl wd nx sn bk fl cm er] (Ret (undef) [Ef894e g c cl ep sl wd (.nilFunc) sn 0 fl cm (.iface 46 (vI k_))]) := by
  refine ctr_of (args := [vP g, vI k_]) (fn := Tryz.f142) (body := B142) (nt := 20) Tryz.func142 (by kernel_rfl) (by kernel_rfl) ?_
  intro F
  refine go_exec (rs := []) (by kernel_rfl) 4000 [.e 0, .z [0, 1] 2 [0, 7, 8]] (o := .obl (g = g) (.stop [.o [0, 1] 2, .c [1, 1]] [(0, vP g), (7, vP g), (8, vI k_)] [Ef894e g c cl ep sl wd (.nilFunc) sn bk fl cm er])) (by kernel_rfl) ?_
  refine ok_obl rfl ?_
  refine ok_stop ?_
  refine go_call (some 9) [] Tryz.call36 (cause_NewE k_ (by first | assumption | omega | (simp only [InK] at *; omega))) (by kernel_rfl) ?_
  rintro v post ⟨rfl, rfl⟩
  refine go_exec (rs := []) (by kernel_rfl) 4000 [.e 0, .e 0, .e 0] (o := .obl (g = g) (.obl (g = g) (.obl (g = g) (.ret (undef) [Ef894e g c cl ep sl wd (.nilFunc) sn 0 fl cm (.iface 46 (vI k_))])))) (by kernel_rfl) ?_
  refine ok_obl rfl ?_
  refine ok_obl rfl ?_
  refine ok_obl rfl ?_
  exact ret_ok (post := [Ef894e g c cl ep sl wd (.nilFunc) sn 0 fl cm (.iface 46 (vI k_))]) [0] (by kernel_rfl) ⟨rfl, (by kernel_rfl)⟩

noncomputable def B137 : Code := (Tryz.f137.body).getD .skip

theorem gLookD (c : Cfg) (g : Nat) (cl ep sl wd sn bk fl cm : Int) (nx er : Value) (w_ : Int) (hw : U64 w_) (hl : ctlLive w_ = false) :
    Ctr Tryz.prog 137 #[vP g, vU w_] [Ef894e g c cl ep sl wd nx sn bk fl cm er] (Ret (undef) [Ef894e g c cl ep sl wd (.nilFunc) w_ 0 fl cm (.iface 46 (vI 22))]) := by
  refine ctr_of (args := [vP g, vU w_]) (fn := Tryz.f137) (body := B137) (nt := 42) Tryz.func137 (by kernel_rfl) (by kernel_rfl) ?_
  intro F
  refine go_exec (rs := []) (by kernel_rfl) 4000 [.z [0] 1 [0, 1, 5]] (o := .stop [.o [0] 1, .c [1]] [(0, vP g), (1, vU w_), (5, vU w_)] [Ef894e g c cl ep sl wd nx sn bk fl cm er]) (by kernel_rfl) ?_
  refine ok_stop ?_
  refine go_call (some 6) [] Tryz.call140 (ctl_Unpack w_ (by first | assumption | omega | (simp only [InK] at *; omega))) (by kernel_rfl) ?_
  rintro v post ⟨rfl, rfl⟩
  refine go_exec (rs := []) (by kernel_rfl) 4000 [.e 1, .z [0, 1] 0 [0, 1, 4]] (o := .new fun b_2 => .obl (b_2 = b_2) (.stop [.c [0, 1], .c [1, 1]] [(0, vP g), (1, vU w_), (4, vP b_2)] [Ef894e g c cl ep sl wd nx sn bk fl cm er, E4ea3a b_2 (ctlEpoch w_) (ctlGen w_) (ctlBlock w_) (ctlLive w_) (ctlBusy w_)])) (by kernel_rfl) ?_
  refine ok_new fun b_2 => ?_
  refine ok_obl rfl ?_
  refine ok_stop ?_
  refine go_lz (by kernel_rfl) (by kernel_rfl) ?_
  refine lz_node (l' := (mk 17 [0, 1, 2, 3, 4, 5, 6, 7, 8, 9])) (V' := [0, 1, 2, 3, 4, 5, 6, 7, 8, 9]) (T1 := [(0, vP g), (1, vU w_), (4, vP b_2), (7, vP g), (8, vP g), (9, vP g), (10, vU w_), (11, .pointer (some ⟨b_2, 2, none⟩)), (12, vI (ctlBlock w_)), (13, vP g), (14, .func (.func 141) #[vP g] #[]), (15, vP g), (16, .pointer (some ⟨g, 14, none⟩))]) (ps := [b_2 = b_2]) [0, 1, 2, 3, 4, 5, 6, 7, 8, 9] [(0, .h .w), (1, .h .w), (2, .h .w), (3, .h .w), (4, .h .w), (5, .h (.e 1)), (6, .h .w), (7, .h .w), (8, .h .w), (9, .h .w)] [0, 1, 4, 7, 8, 9, 10, 11, 12, 13, 14, 15, 16] [10] (by kernel_rfl) ⟨rfl, trivial⟩ ⟨?_, trivial⟩
  refine lz_op (l' := (mk 17 [0, 1, 2, 3, 4, 5, 6, 7, 8, 9, 10])) (V' := [1, 2, 4, 5, 6, 7]) (so := .obl (g = g) (.ok .skip [Ef894e g c cl ep sl wd nx w_ bk fl cm er, E4ea3a b_2 (ctlEpoch w_) (ctlGen w_) (ctlBlock w_) (ctlLive w_) (ctlBusy w_)])) (dst := none) (.e 0) (by kernel_rfl) ?_
  refine sat_obl rfl ?_
  refine sat_skip ?_
  refine lz_node (l' := (mk 17 [0, 1, 2, 3, 4, 5, 6, 7, 8, 9, 10, 11, 12])) (V' := [1, 2, 4, 5, 6, 7, 11, 12]) (T1 := [(0, vP g), (4, vP b_2), (8, vP g), (9, vP g), (11, .pointer (some ⟨b_2, 2, none⟩)), (12, vI (ctlBlock w_)), (13, vP g), (14, .func (.func 141) #[vP g] #[]), (17, vP g), (18, .pointer (some ⟨g, 15, none⟩))]) (ps := [b_2 = b_2]) [11, 12] [(1, .h .w), (2, .h .w), (4, .h .w), (5, .h (.e 1)), (6, .h .w), (7, .h .w), (11, .h .w), (12, .h .w)] [0, 4, 8, 9, 11, 12, 13, 14, 17, 18] [13] (by kernel_rfl) ⟨rfl, trivial⟩ ⟨?_, trivial⟩
  refine lz_op (l' := (mk 17 [0, 1, 2, 3, 4, 5, 6, 7, 8, 9, 10, 11, 12, 13])) (V' := [2, 6, 7]) (so := .obl (g = g) (.ok .skip [Ef894e g c cl ep sl wd nx w_ (ctlBlock w_) fl cm er, E4ea3a b_2 (ctlEpoch w_) (ctlGen w_) (ctlBlock w_) (ctlLive w_) (ctlBusy w_)])) (dst := none) (.e 0) (by kernel_rfl) ?_
  refine sat_obl rfl ?_
  refine sat_skip ?_
  refine lz_node (l' := (mk 17 [0, 1, 2, 3, 4, 5, 6, 7, 8, 9, 10, 11, 12, 13, 14, 15])) (V' := [2, 6, 7, 14, 15]) (T1 := [(0, vP g), (4, vP b_2), (9, vP g), (13, vP g), (14, .func (.func 141) #[vP g] #[]), (19, vP g), (20, .pointer (some ⟨g, 13, none⟩))]) (ps := []) [14, 15] [(2, .h .w), (6, .h .w), (7, .h .w), (14, .h .w), (15, .h .w)] [0, 4, 9, 13, 14, 19, 20] [16] (by kernel_rfl) trivial ⟨?_, trivial⟩
  refine lz_op (l' := (mk 17 [0, 1, 2, 3, 4, 5, 6, 7, 8, 9, 10, 11, 12, 13, 14, 15, 16])) (V' := []) (so := .obl (g = g) (.ok .skip [Ef894e g c cl ep sl wd (.func (.func 141) #[vP g] #[]) w_ (ctlBlock w_) fl cm er, E4ea3a b_2 (ctlEpoch w_) (ctlGen w_) (ctlBlock w_) (ctlLive w_) (ctlBusy w_)])) (dst := none) (.e 0) (by kernel_rfl) ?_
  refine sat_obl rfl ?_
  refine sat_skip ?_
  refine lz_end (T1 := [(0, vP g), (4, vP b_2)]) (ps := []) [] [] [0, 4] (by kernel_rfl) trivial ?_
  refine go_exec (rs := []) (by kernel_rfl) 4000 [.z [0, 0, 1, 1] 0 [0, 4]] (o := .stop [.c [0, 0, 1, 1], .c [1, 0, 1, 1], .b 0] [(0, vP g), (4, vP b_2)] [Ef894e g c cl ep sl wd (.func (.func 141) #[vP g] #[]) w_ (ctlBlock w_) fl cm er, E4ea3a b_2 (ctlEpoch w_) (ctlGen w_) (ctlBlock w_) (ctlLive w_) (ctlBusy w_)]) (by kernel_rfl) ?_
  refine ok_stop ?_
  refine go_quiet (tm' := [(0, vP g), (4, vP b_2), (21, .bool true)]) (ps := [b_2 = b_2, (!(ctlLive w_)) = true]) (cs := []) [(0, .h .w), (1, .h (.e 1)), (2, .h (.t true)), (3, .h .w), (4, .h .w), (5, .h .w), (6, .h .w), (7, .h .w), (8, .h .w), (9, .h .w), (10, .h .w), (11, .h .w), (12, .h .w)] [0, 4, 21] (by kernel_rfl) (by kernel_rfl) ⟨rfl, (by simp [hl]), trivial⟩ trivial ?_
  refine go_exec (rs := []) (by kernel_rfl) 4000 [.z [0, 1, 0, 1, 1] 1 [34]] (o := .stop [.o [0, 1, 0, 1, 1] 1, .b 0] [(34, vP g)] [Ef894e g c cl ep sl wd (.func (.func 141) #[vP g] #[]) w_ (ctlBlock w_) fl cm er, E4ea3a b_2 (ctlEpoch w_) (ctlGen w_) (ctlBlock w_) (ctlLive w_) (ctlBusy w_)]) (by kernel_rfl) ?_
  refine ok_stop ?_
  refine go_call (some 35) [0] Tryz.call142 (gEndE c g cl ep sl wd w_ (ctlBlock w_) fl cm (.func (.func 141) #[vP g] #[]) er 22 (by decide)) (by kernel_rfl) ?_
  rintro v post ⟨rfl, rfl⟩
  refine go_exec (rs := []) (by kernel_rfl) 4000 [] (o := .ret (undef) [E4ea3a b_2 (ctlEpoch w_) (ctlGen w_) (ctlBlock w_) (ctlLive w_) (ctlBusy w_), Ef894e g c cl ep sl wd (.nilFunc) w_ 0 fl cm (.iface 46 (vI 22))]) (by kernel_rfl) ?_
  exact ret_ok (post := [Ef894e g c cl ep sl wd (.nilFunc) w_ 0 fl cm (.iface 46 (vI 22))]) [1] (by kernel_rfl) ⟨rfl, (by kernel_rfl)⟩


theorem gLookP (c : Cfg) (g : Nat) (cl ep sl wd sn bk fl cm : Int) (nx er : Value) (w_ : Int) (hw : U64 w_) (hl : ctlLive w_ = true) (he : ctlEpoch w_ ≠ ep) :
    Ctr Tryz.prog 137 #[vP g, vU w_] [Ef894e g c cl ep sl wd nx sn bk fl cm er] (Ret (undef) [Ef894e g c cl ep sl wd (.nilFunc) w_ 0 fl cm (.iface 46 (vI 22))]) := by
  refine ctr_of (args := [vP g, vU w_]) (fn := Tryz.f137) (body := B137) (nt := 42) Tryz.func137 (by kernel_rfl) (by kernel_rfl) ?_
  intro F
  refine go_exec (rs := []) (by kernel_rfl) 4000 [.z [0] 1 [0, 1, 5]] (o := .stop [.o [0] 1, .c [1]] [(0, vP g), (1, vU w_), (5, vU w_)] [Ef894e g c cl ep sl wd nx sn bk fl cm er]) (by kernel_rfl) ?_
  refine ok_stop ?_
  refine go_call (some 6) [] Tryz.call140 (ctl_Unpack w_ (by first | assumption | omega | (simp only [InK] at *; omega))) (by kernel_rfl) ?_
  rintro v post ⟨rfl, rfl⟩
  refine go_exec (rs := []) (by kernel_rfl) 4000 [.e 1, .z [0, 1] 0 [0, 1, 4]] (o := .new fun b_2 => .obl (b_2 = b_2) (.stop [.c [0, 1], .c [1, 1]] [(0, vP g), (1, vU w_), (4, vP b_2)] [Ef894e g c cl ep sl wd nx sn bk fl cm er, E4ea3a b_2 (ctlEpoch w_) (ctlGen w_) (ctlBlock w_) (ctlLive w_) (ctlBusy w_)])) (by kernel_rfl) ?_
  refine ok_new fun b_2 => ?_
  refine ok_obl rfl ?_
  refine ok_stop ?_
  refine go_lz (by kernel_rfl) (by kernel_rfl) ?_
  refine lz_node (l' := (mk 17 [0, 1, 2, 3, 4, 5, 6, 7, 8, 9])) (V' := [0, 1, 2, 3, 4, 5, 6, 7, 8, 9]) (T1 := [(0, vP g), (1, vU w_), (4, vP b_2), (7, vP g), (8, vP g), (9, vP g), (10, vU w_), (11, .pointer (some ⟨b_2, 2, none⟩)), (12, vI (ctlBlock w_)), (13, vP g), (14, .func (.func 141) #[vP g] #[]), (15, vP g), (16, .pointer (some ⟨g, 14, none⟩))]) (ps := [b_2 = b_2]) [0, 1, 2, 3, 4, 5, 6, 7, 8, 9] [(0, .h .w), (1, .h .w), (2, .h .w), (3, .h .w), (4, .h .w), (5, .h (.e 1)), (6, .h .w), (7, .h .w), (8, .h .w), (9, .h .w)] [0, 1, 4, 7, 8, 9, 10, 11, 12, 13, 14, 15, 16] [10] (by kernel_rfl) ⟨rfl, trivial⟩ ⟨?_, trivial⟩
  refine lz_op (l' := (mk 17 [0, 1, 2, 3, 4, 5, 6, 7, 8, 9, 10])) (V' := [1, 2, 4, 5, 6, 7]) (so := .obl (g = g) (.ok .skip [Ef894e g c cl ep sl wd nx w_ bk fl cm er, E4ea3a b_2 (ctlEpoch w_) (ctlGen w_) (ctlBlock w_) (ctlLive w_) (ctlBusy w_)])) (dst := none) (.e 0) (by kernel_rfl) ?_
  refine sat_obl rfl ?_
  refine sat_skip ?_
  refine lz_node (l' := (mk 17 [0, 1, 2, 3, 4, 5, 6, 7, 8, 9, 10, 11, 12])) (V' := [1, 2, 4, 5, 6, 7, 11, 12]) (T1 := [(0, vP g), (4, vP b_2), (8, vP g), (9, vP g), (11, .pointer (some ⟨b_2, 2, none⟩)), (12, vI (ctlBlock w_)), (13, vP g), (14, .func (.func 141) #[vP g] #[]), (17, vP g), (18, .pointer (some ⟨g, 15, none⟩))]) (ps := [b_2 = b_2]) [11, 12] [(1, .h .w), (2, .h .w), (4, .h .w), (5, .h (.e 1)), (6, .h .w), (7, .h .w), (11, .h .w), (12, .h .w)] [0, 4, 8, 9, 11, 12, 13, 14, 17, 18] [13] (by kernel_rfl) ⟨rfl, trivial⟩ ⟨?_, trivial⟩
  refine lz_op (l' := (mk 17 [0, 1, 2, 3, 4, 5, 6, 7, 8, 9, 10, 11, 12, 13])) (V' := [2, 6, 7]) (so := .obl (g = g) (.ok .skip [Ef894e g c cl ep sl wd nx w_ (ctlBlock w_) fl cm er, E4ea3a b_2 (ctlEpoch w_) (ctlGen w_) (ctlBlock w_) (ctlLive w_) (ctlBusy w_)])) (dst := none) (.e 0) (by kernel_rfl) ?_
  refine sat_obl rfl ?_
  refine sat_skip ?_
  refine lz_node (l' := (mk 17 [0, 1, 2, 3, 4, 5, 6, 7, 8, 9, 10, 11, 12, 13, 14, 15])) (V' := [2, 6, 7, 14, 15]) (T1 := [(0, vP g), (4, vP b_2), (9, vP g), (13, vP g), (14, .func (.func 141) #[vP g] #[]), (19, vP g), (20, .pointer (some ⟨g, 13, none⟩))]) (ps := []) [14, 15] [(2, .h .w), (6, .h .w), (7, .h .w), (14, .h .w), (15, .h .w)] [0, 4, 9, 13, 14, 19, 20] [16] (by kernel_rfl) trivial ⟨?_, trivial⟩
  refine lz_op (l' := (mk 17 [0, 1, 2, 3, 4, 5, 6, 7, 8, 9, 10, 11, 12, 13, 14, 15, 16])) (V' := []) (so := .obl (g = g) (.ok .skip [Ef894e g c cl ep sl wd (.func (.func 141) #[vP g] #[]) w_ (ctlBlock w_) fl cm er, E4ea3a b_2 (ctlEpoch w_) (ctlGen w_) (ctlBlock w_) (ctlLive w_) (ctlBusy w_)])) (dst := none) (.e 0) (by kernel_rfl) ?_
  refine sat_obl rfl ?_
  refine sat_skip ?_
  refine lz_end (T1 := [(0, vP g), (4, vP b_2)]) (ps := []) [] [] [0, 4] (by kernel_rfl) trivial ?_
  refine go_exec (rs := []) (by kernel_rfl) 4000 [.z [0, 0, 1, 1] 0 [0, 4]] (o := .stop [.c [0, 0, 1, 1], .c [1, 0, 1, 1], .b 0] [(0, vP g), (4, vP b_2)] [Ef894e g c cl ep sl wd (.func (.func 141) #[vP g] #[]) w_ (ctlBlock w_) fl cm er, E4ea3a b_2 (ctlEpoch w_) (ctlGen w_) (ctlBlock w_) (ctlLive w_) (ctlBusy w_)]) (by kernel_rfl) ?_
  refine ok_stop ?_
  refine go_quiet (tm' := [(0, vP g), (4, vP b_2), (21, .bool true)]) (ps := [b_2 = b_2, (!(ctlLive w_)) = false, b_2 = b_2, g = g, ((ctlEpoch w_) != ep) = true]) (cs := []) [(0, .h .w), (1, .h (.e 1)), (2, .h (.t false)), (3, .h .w), (4, .h .w), (5, .h (.e 1)), (6, .h .w), (7, .h .w), (8, .h .w), (9, .h (.e 0)), (10, .h (.t true)), (11, .h .w), (12, .h .w)] [0, 4, 21] (by kernel_rfl) (by kernel_rfl) ⟨rfl, (by simp [hl]), rfl, rfl, (bne_iff_ne.2 he), trivial⟩ trivial ?_
  refine go_exec (rs := []) (by kernel_rfl) 4000 [.z [0, 1, 0, 1, 1] 1 [34]] (o := .stop [.o [0, 1, 0, 1, 1] 1, .b 0] [(34, vP g)] [Ef894e g c cl ep sl wd (.func (.func 141) #[vP g] #[]) w_ (ctlBlock w_) fl cm er, E4ea3a b_2 (ctlEpoch w_) (ctlGen w_) (ctlBlock w_) (ctlLive w_) (ctlBusy w_)]) (by kernel_rfl) ?_
  refine ok_stop ?_
  refine go_call (some 35) [0] Tryz.call142 (gEndE c g cl ep sl wd w_ (ctlBlock w_) fl cm (.func (.func 141) #[vP g] #[]) er 22 (by decide)) (by kernel_rfl) ?_
  rintro v post ⟨rfl, rfl⟩
  refine go_exec (rs := []) (by kernel_rfl) 4000 [] (o := .ret (undef) [E4ea3a b_2 (ctlEpoch w_) (ctlGen w_) (ctlBlock w_) (ctlLive w_) (ctlBusy w_), Ef894e g c cl ep sl wd (.nilFunc) w_ 0 fl cm (.iface 46 (vI 22))]) (by kernel_rfl) ?_
  exact ret_ok (post := [Ef894e g c cl ep sl wd (.nilFunc) w_ 0 fl cm (.iface 46 (vI 22))]) [1] (by kernel_rfl) ⟨rfl, (by kernel_rfl)⟩


theorem gLookE (c : Cfg) (g : Nat) (cl ep sl wd sn bk fl cm : Int) (nx er : Value) (w_ : Int) (hw : U64 w_) (hl : ctlLive w_ = true) (he : ctlEpoch w_ = ep) (hb : ctlBlock w_ = 0) :
    Ctr Tryz.prog 137 #[vP g, vU w_] [Ef894e g c cl ep sl wd nx sn bk fl cm er] (Ret (undef) [Ef894e g c cl ep sl wd (.nilFunc) w_ 0 fl cm (.iface 46 (vI 20))]) := by
  refine ctr_of (args := [vP g, vU w_]) (fn := Tryz.f137) (body := B137) (nt := 42) Tryz.func137 (by kernel_rfl) (by kernel_rfl) ?_
  intro F
  refine go_exec (rs := []) (by kernel_rfl) 4000 [.z [0] 1 [0, 1, 5]] (o := .stop [.o [0] 1, .c [1]] [(0, vP g), (1, vU w_), (5, vU w_)] [Ef894e g c cl ep sl wd nx sn bk fl cm er]) (by kernel_rfl) ?_
  refine ok_stop ?_
  refine go_call (some 6) [] Tryz.call140 (ctl_Unpack w_ (by first | assumption | omega | (simp only [InK] at *; omega))) (by kernel_rfl) ?_
  rintro v post ⟨rfl, rfl⟩
  refine go_exec (rs := []) (by kernel_rfl) 4000 [.e 1, .z [0, 1] 0 [0, 1, 4]] (o := .new fun b_2 => .obl (b_2 = b_2) (.stop [.c [0, 1], .c [1, 1]] [(0, vP g), (1, vU w_), (4, vP b_2)] [Ef894e g c cl ep sl wd nx sn bk fl cm er, E4ea3a b_2 (ctlEpoch w_) (ctlGen w_) (ctlBlock w_) (ctlLive w_) (ctlBusy w_)])) (by kernel_rfl) ?_
  refine ok_new fun b_2 => ?_
  refine ok_obl rfl ?_
  refine ok_stop ?_
  refine go_lz (by kernel_rfl) (by kernel_rfl) ?_
  refine lz_node (l' := (mk 17 [0, 1, 2, 3, 4, 5, 6, 7, 8, 9])) (V' := [0, 1, 2, 3, 4, 5, 6, 7, 8, 9]) (T1 := [(0, vP g), (1, vU w_), (4, vP b_2), (7, vP g), (8, vP g), (9, vP g), (10, vU w_), (11, .pointer (some ⟨b_2, 2, none⟩)), (12, vI (ctlBlock w_)), (13, vP g), (14, .func (.func 141) #[vP g] #[]), (15, vP g), (16, .pointer (some ⟨g, 14, none⟩))]) (ps := [b_2 = b_2]) [0, 1, 2, 3, 4, 5, 6, 7, 8, 9] [(0, .h .w), (1, .h .w), (2, .h .w), (3, .h .w), (4, .h .w), (5, .h (.e 1)), (6, .h .w), (7, .h .w), (8, .h .w), (9, .h .w)] [0, 1, 4, 7, 8, 9, 10, 11, 12, 13, 14, 15, 16] [10] (by kernel_rfl) ⟨rfl, trivial⟩ ⟨?_, trivial⟩
  refine lz_op (l' := (mk 17 [0, 1, 2, 3, 4, 5, 6, 7, 8, 9, 10])) (V' := [1, 2, 4, 5, 6, 7]) (so := .obl (g = g) (.ok .skip [Ef894e g c cl ep sl wd nx w_ bk fl cm er, E4ea3a b_2 (ctlEpoch w_) (ctlGen w_) (ctlBlock w_) (ctlLive w_) (ctlBusy w_)])) (dst := none) (.e 0) (by kernel_rfl) ?_
  refine sat_obl rfl ?_
  refine sat_skip ?_
  refine lz_node (l' := (mk 17 [0, 1, 2, 3, 4, 5, 6, 7, 8, 9, 10, 11, 12])) (V' := [1, 2, 4, 5, 6, 7, 11, 12]) (T1 := [(0, vP g), (4, vP b_2), (8, vP g), (9, vP g), (11, .pointer (some ⟨b_2, 2, none⟩)), (12, vI (ctlBlock w_)), (13, vP g), (14, .func (.func 141) #[vP g] #[]), (17, vP g), (18, .pointer (some ⟨g, 15, none⟩))]) (ps := [b_2 = b_2]) [11, 12] [(1, .h .w), (2, .h .w), (4, .h .w), (5, .h (.e 1)), (6, .h .w), (7, .h .w), (11, .h .w), (12, .h .w)] [0, 4, 8, 9, 11, 12, 13, 14, 17, 18] [13] (by kernel_rfl) ⟨rfl, trivial⟩ ⟨?_, trivial⟩
  refine lz_op (l' := (mk 17 [0, 1, 2, 3, 4, 5, 6, 7, 8, 9, 10, 11, 12, 13])) (V' := [2, 6, 7]) (so := .obl (g = g) (.ok .skip [Ef894e g c cl ep sl wd nx w_ (ctlBlock w_) fl cm er, E4ea3a b_2 (ctlEpoch w_) (ctlGen w_) (ctlBlock w_) (ctlLive w_) (ctlBusy w_)])) (dst := none) (.e 0) (by kernel_rfl) ?_
  refine sat_obl rfl ?_
  refine sat_skip ?_
  refine lz_node (l' := (mk 17 [0, 1, 2, 3, 4, 5, 6, 7, 8, 9, 10, 11, 12, 13, 14, 15])) (V' := [2, 6, 7, 14, 15]) (T1 := [(0, vP g), (4, vP b_2), (9, vP g), (13, vP g), (14, .func (.func 141) #[vP g] #[]), (19, vP g), (20, .pointer (some ⟨g, 13, none⟩))]) (ps := []) [14, 15] [(2, .h .w), (6, .h .w), (7, .h .w), (14, .h .w), (15, .h .w)] [0, 4, 9, 13, 14, 19, 20] [16] (by kernel_rfl) trivial ⟨?_, trivial⟩
  refine lz_op (l' := (mk 17 [0, 1, 2, 3, 4, 5, 6, 7, 8, 9, 10, 11, 12, 13, 14, 15, 16])) (V' := []) (so := .obl (g = g) (.ok .skip [Ef894e g c cl ep sl wd (.func (.func 141) #[vP g] #[]) w_ (ctlBlock w_) fl cm er, E4ea3a b_2 (ctlEpoch w_) (ctlGen w_) (ctlBlock w_) (ctlLive w_) (ctlBusy w_)])) (dst := none) (.e 0) (by kernel_rfl) ?_
  refine sat_obl rfl ?_
  refine sat_skip ?_
  refine lz_end (T1 := [(0, vP g), (4, vP b_2)]) (ps := []) [] [] [0, 4] (by kernel_rfl) trivial ?_
  refine go_exec (rs := []) (by kernel_rfl) 4000 [.z [0, 0, 1, 1] 0 [0, 4]] (o := .stop [.c [0, 0, 1, 1], .c [1, 0, 1, 1], .b 0] [(0, vP g), (4, vP b_2)] [Ef894e g c cl ep sl wd (.func (.func 141) #[vP g] #[]) w_ (ctlBlock w_) fl cm er, E4ea3a b_2 (ctlEpoch w_) (ctlGen w_) (ctlBlock w_) (ctlLive w_) (ctlBusy w_)]) (by kernel_rfl) ?_
  refine ok_stop ?_
  refine go_quiet (tm' := [(0, vP g), (4, vP b_2), (21, .bool false)]) (ps := [b_2 = b_2, (!(ctlLive w_)) = false, b_2 = b_2, g = g, ((ctlEpoch w_) != ep) = false]) (cs := []) [(0, .h .w), (1, .h (.e 1)), (2, .h (.t false)), (3, .h .w), (4, .h .w), (5, .h (.e 1)), (6, .h .w), (7, .h .w), (8, .h .w), (9, .h (.e 0)), (10, .h (.t false)), (11, .h .w), (12, .h .w)] [0, 4, 21] (by kernel_rfl) (by kernel_rfl) ⟨rfl, (by simp [hl]), rfl, rfl, (bne_eq_false_iff_eq.2 he), trivial⟩ trivial ?_
  refine go_exec (rs := []) (by kernel_rfl) 4000 [.e 1, .sp [36, 39] [.z q31_0 1 [40]] [.dead]] (o := .obl (b_2 = b_2) (.obl (((ctlBlock w_) == 0) = ((ctlBlock w_) == 0)) (.br ((ctlBlock w_) == 0) (.stop [.o q31_0 1, .b 0] [(40, vP g)] [Ef894e g c cl ep sl wd (.func (.func 141) #[vP g] #[]) w_ (ctlBlock w_) fl cm er, E4ea3a b_2 (ctlEpoch w_) (ctlGen w_) (ctlBlock w_) (ctlLive w_) (ctlBusy w_)]) (.bad)))) (by kernel_rfl) ?_
  refine ok_obl rfl ?_
  refine ok_obl rfl ?_
  refine ok_br (fun _ => ?_) (fun h => absurd (show ((ctlBlock w_) == 0) = true from (beq_iff_eq.2 hb)) (by rw [h]; simp))
  refine ok_stop ?_
  refine go_call (some 41) [0] Tryz.call142 (gEndE c g cl ep sl wd w_ (ctlBlock w_) fl cm (.func (.func 141) #[vP g] #[]) er 20 (by decide)) (by kernel_rfl) ?_
  rintro v post ⟨rfl, rfl⟩
  refine go_exec (rs := []) (by kernel_rfl) 4000 [] (o := .ret (undef) [E4ea3a b_2 (ctlEpoch w_) (ctlGen w_) (ctlBlock w_) (ctlLive w_) (ctlBusy w_), Ef894e g c cl ep sl wd (.nilFunc) w_ 0 fl cm (.iface 46 (vI 20))]) (by kernel_rfl) ?_
  exact ret_ok (post := [Ef894e g c cl ep sl wd (.nilFunc) w_ 0 fl cm (.iface 46 (vI 20))]) [1] (by kernel_rfl) ⟨rfl, (by kernel_rfl)⟩


theorem gLookN (c : Cfg) (g : Nat) (cl ep sl wd sn bk fl cm : Int) (nx er : Value) (w_ : Int) (hw : U64 w_) (hl : ctlLive w_ = true) (he : ctlEpoch w_ = ep) (hb : ctlBlock w_ ≠ 0) :
    Ctr Tryz.prog 137 #[vP g, vU w_] [Ef894e g c cl ep sl wd nx sn bk fl cm er] (Ret (undef) [Ef894e g c cl ep sl wd (.func (.func 141) #[vP g] #[]) w_ (ctlBlock w_) fl cm er]) := by
  refine ctr_of (args := [vP g, vU w_]) (fn := Tryz.f137) (body := B137) (nt := 42) Tryz.func137 (by kernel_rfl) (by kernel_rfl) ?_
  intro F
  refine go_exec (rs := []) (by kernel_rfl) 4000 [.z [0] 1 [0, 1, 5]] (o := .stop [.o [0] 1, .c [1]] [(0, vP g), (1, vU w_), (5, vU w_)] [Ef894e g c cl ep sl wd nx sn bk fl cm er]) (by kernel_rfl) ?_
  refine ok_stop ?_
  refine go_call (some 6) [] Tryz.call140 (ctl_Unpack w_ (by first | assumption | omega | (simp only [InK] at *; omega))) (by kernel_rfl) ?_
  rintro v post ⟨rfl, rfl⟩
  refine go_exec (rs := []) (by kernel_rfl) 4000 [.e 1, .z [0, 1] 0 [0, 1, 4]] (o := .new fun b_2 => .obl (b_2 = b_2) (.stop [.c [0, 1], .c [1, 1]] [(0, vP g), (1, vU w_), (4, vP b_2)] [Ef894e g c cl ep sl wd nx sn bk fl cm er, E4ea3a b_2 (ctlEpoch w_) (ctlGen w_) (ctlBlock w_) (ctlLive w_) (ctlBusy w_)])) (by kernel_rfl) ?_
  refine ok_new fun b_2 => ?_
  refine ok_obl rfl ?_
  refine ok_stop ?_
  refine go_lz (by kernel_rfl) (by kernel_rfl) ?_
  refine lz_node (l' := (mk 17 [0, 1, 2, 3, 4, 5, 6, 7, 8, 9])) (V' := [0, 1, 2, 3, 4, 5, 6, 7, 8, 9]) (T1 := [(0, vP g), (1, vU w_), (4, vP b_2), (7, vP g), (8, vP g), (9, vP g), (10, vU w_), (11, .pointer (some ⟨b_2, 2, none⟩)), (12, vI (ctlBlock w_)), (13, vP g), (14, .func (.func 141) #[vP g] #[]), (15, vP g), (16, .pointer (some ⟨g, 14, none⟩))]) (ps := [b_2 = b_2]) [0, 1, 2, 3, 4, 5, 6, 7, 8, 9] [(0, .h .w), (1, .h .w), (2, .h .w), (3, .h .w), (4, .h .w), (5, .h (.e 1)), (6, .h .w), (7, .h .w), (8, .h .w), (9, .h .w)] [0, 1, 4, 7, 8, 9, 10, 11, 12, 13, 14, 15, 16] [10] (by kernel_rfl) ⟨rfl, trivial⟩ ⟨?_, trivial⟩
  refine lz_op (l' := (mk 17 [0, 1, 2, 3, 4, 5, 6, 7, 8, 9, 10])) (V' := [1, 2, 4, 5, 6, 7]) (so := .obl (g = g) (.ok .skip [Ef894e g c cl ep sl wd nx w_ bk fl cm er, E4ea3a b_2 (ctlEpoch w_) (ctlGen w_) (ctlBlock w_) (ctlLive w_) (ctlBusy w_)])) (dst := none) (.e 0) (by kernel_rfl) ?_
  refine sat_obl rfl ?_
  refine sat_skip ?_
  refine lz_node (l' := (mk 17 [0, 1, 2, 3, 4, 5, 6, 7, 8, 9, 10, 11, 12])) (V' := [1, 2, 4, 5, 6, 7, 11, 12]) (T1 := [(0, vP g), (4, vP b_2), (8, vP g), (9, vP g), (11, .pointer (some ⟨b_2, 2, none⟩)), (12, vI (ctlBlock w_)), (13, vP g), (14, .func (.func 141) #[vP g] #[]), (17, vP g), (18, .pointer (some ⟨g, 15, none⟩))]) (ps := [b_2 = b_2]) [11, 12] [(1, .h .w), (2, .h .w), (4, .h .w), (5, .h (.e 1)), (6, .h .w), (7, .h .w), (11, .h .w), (12, .h .w)] [0, 4, 8, 9, 11, 12, 13, 14, 17, 18] [13] (by kernel_rfl) ⟨rfl, trivial⟩ ⟨?_, trivial⟩
  refine lz_op (l' := (mk 17 [0, 1, 2, 3, 4, 5, 6, 7, 8, 9, 10, 11, 12, 13])) (V' := [2, 6, 7]) (so := .obl (g = g) (.ok .skip [Ef894e g c cl ep sl wd nx w_ (ctlBlock w_) fl cm er, E4ea3a b_2 (ctlEpoch w_) (ctlGen w_) (ctlBlock w_) (ctlLive w_) (ctlBusy w_)])) (dst := none) (.e 0) (by kernel_rfl) ?_
  refine sat_obl rfl ?_
  refine sat_skip ?_
  refine lz_node (l' := (mk 17 [0, 1, 2, 3, 4, 5, 6, 7, 8, 9, 10, 11, 12, 13, 14, 15])) (V' := [2, 6, 7, 14, 15]) (T1 := [(0, vP g), (4, vP b_2), (9, vP g), (13, vP g), (14, .func (.func 141) #[vP g] #[]), (19, vP g), (20, .pointer (some ⟨g, 13, none⟩))]) (ps := []) [14, 15] [(2, .h .w), (6, .h .w), (7, .h .w), (14, .h .w), (15, .h .w)] [0, 4, 9, 13, 14, 19, 20] [16] (by kernel_rfl) trivial ⟨?_, trivial⟩
  refine lz_op (l' := (mk 17 [0, 1, 2, 3, 4, 5, 6, 7, 8, 9, 10, 11, 12, 13, 14, 15, 16])) (V' := []) (so := .obl (g = g) (.ok .skip [Ef894e g c cl ep sl wd (.func (.func 141) #[vP g] #[]) w_ (ctlBlock w_) fl cm er, E4ea3a b_2 (ctlEpoch w_) (ctlGen w_) (ctlBlock w_) (ctlLive w_) (ctlBusy w_)])) (dst := none) (.e 0) (by kernel_rfl) ?_
  refine sat_obl rfl ?_
  refine sat_skip ?_
  refine lz_end (T1 := [(0, vP g), (4, vP b_2)]) (ps := []) [] [] [0, 4] (by kernel_rfl) trivial ?_
  refine go_exec (rs := []) (by kernel_rfl) 4000 [.z [0, 0, 1, 1] 0 [0, 4]] (o := .stop [.c [0, 0, 1, 1], .c [1, 0, 1, 1], .b 0] [(0, vP g), (4, vP b_2)] [Ef894e g c cl ep sl wd (.func (.func 141) #[vP g] #[]) w_ (ctlBlock w_) fl cm er, E4ea3a b_2 (ctlEpoch w_) (ctlGen w_) (ctlBlock w_) (ctlLive w_) (ctlBusy w_)]) (by kernel_rfl) ?_
  refine ok_stop ?_
  refine go_quiet (tm' := [(0, vP g), (4, vP b_2), (21, .bool false)]) (ps := [b_2 = b_2, (!(ctlLive w_)) = false, b_2 = b_2, g = g, ((ctlEpoch w_) != ep) = false]) (cs := []) [(0, .h .w), (1, .h (.e 1)), (2, .h (.t false)), (3, .h .w), (4, .h .w), (5, .h (.e 1)), (6, .h .w), (7, .h .w), (8, .h .w), (9, .h (.e 0)), (10, .h (.t false)), (11, .h .w), (12, .h .w)] [0, 4, 21] (by kernel_rfl) (by kernel_rfl) ⟨rfl, (by simp [hl]), rfl, rfl, (bne_eq_false_iff_eq.2 he), trivial⟩ trivial ?_
  refine go_exec (rs := []) (by kernel_rfl) 4000 [.e 1, .sp [36, 39] [.dead] []] (o := .obl (b_2 = b_2) (.obl (((ctlBlock w_) == 0) = ((ctlBlock w_) == 0)) (.br ((ctlBlock w_) == 0) (.bad) (.ret (undef) [Ef894e g c cl ep sl wd (.func (.func 141) #[vP g] #[]) w_ (ctlBlock w_) fl cm er, E4ea3a b_2 (ctlEpoch w_) (ctlGen w_) (ctlBlock w_) (ctlLive w_) (ctlBusy w_)])))) (by kernel_rfl) ?_
  refine ok_obl rfl ?_
  refine ok_obl rfl ?_
  refine ok_br (fun h => absurd (show ((ctlBlock w_) == 0) = false from (beq_eq_false_iff_ne.2 hb)) (by rw [h]; simp)) (fun _ => ?_)
  exact ret_ok (post := [Ef894e g c cl ep sl wd (.func (.func 141) #[vP g] #[]) w_ (ctlBlock w_) fl cm er]) [0] (by kernel_rfl) ⟨rfl, (by kernel_rfl)⟩

noncomputable def B138 : Code := (Tryz.f138.body).getD .skip

theorem gLoad (c : Cfg) (g ba : Nat) (cl ep sl wd sn bk fl cm : Int) (nx er : Value) (A : Ar) (hn : A.ws.length = A.n) (hs : 0 ≤ A.steps ∧ A.steps ≤ 1000000000) (hwd : 0 ≤ wd ∧ wd < A.n) :
    Ctr Tryz.prog 138 #[vP g, vP ba] [Ef894e g c cl ep sl wd nx sn bk fl cm er, Ebed9f ba A, E632c4 A] (Ret (vU (A.ws.getD wd.toNat 0)) [Ef894e g c cl ep sl wd nx sn bk fl ((A.load wd).steps) er, Ebed9f ba (A.load wd), E632c4 (A.load wd)]) := by
  refine ctr_of (args := [vP g, vP ba]) (fn := Tryz.f138) (body := B138) (nt := 18) Tryz.func138 (by kernel_rfl) (by kernel_rfl) ?_
  intro F
  refine go_exec (rs := [.tmp 4]) (by kernel_rfl) 4000 [.e 0, .z [0, 1] 5 [0, 1, 6, 10]] (o := .obl (g = g) (.stop [.o [0, 1] 5, .c [1, 1]] [(0, vP g), (1, vP ba), (6, vP ba), (10, vI wd)] [Ef894e g c cl ep sl wd nx sn bk fl cm er, Ebed9f ba A, E632c4 A])) (by kernel_rfl) ?_
  refine ok_obl rfl ?_
  refine ok_stop ?_
  refine go_call (some 11) [1, 2] Tryz.call40 (arena_Load ba A wd (by first | assumption | omega | (simp only [InK] at *; omega)) hwd (by first | assumption | omega | (simp only [InK] at *; omega))) (by kernel_rfl) ?_
  rintro v post ⟨rfl, rfl⟩
  refine go_exec (rs := [.tmp 4]) (by kernel_rfl) 4000 [.z [0, 1, 1] 2 [5, 12, 13]] (o := .stop [.o [0, 1, 1] 2, .c [1, 1, 1]] [(5, vU (A.ws.getD wd.toNat 0)), (12, vP g), (13, vP ba)] [Ef894e g c cl ep sl wd nx sn bk fl cm er, Ebed9f ba (A.load wd), E632c4 (A.load wd)]) (by kernel_rfl) ?_
  refine ok_stop ?_
  refine go_call (some 14) [1, 2] Tryz.call33 (arena_Steps ba (A.load wd)) (by kernel_rfl) ?_
  rintro v post ⟨rfl, rfl⟩
  refine go_exec (rs := [.tmp 4]) (by kernel_rfl) 4000 [.e 0] (o := .obl (g = g) (.ret (vU (A.ws.getD wd.toNat 0)) [Ef894e g c cl ep sl wd nx sn bk fl ((A.load wd).steps) er, Ebed9f ba (A.load wd), E632c4 (A.load wd)])) (by kernel_rfl) ?_
  refine ok_obl rfl ?_
  exact ret_ok (post := [Ef894e g c cl ep sl wd nx sn bk fl ((A.load wd).steps) er, Ebed9f ba (A.load wd), E632c4 (A.load wd)]) [0, 1, 2] (by kernel_rfl) ⟨rfl, (by kernel_rfl)⟩

noncomputable def B128 : Code := (Tryz.f128.body).getD .skip

theorem gFirstD (c : Cfg) (g ba : Nat) (cl ep sl wd sn bk fl cm : Int) (nx er : Value) (A : Ar) (hn : A.ws.length = A.n) (hs : 0 ≤ A.steps ∧ A.steps ≤ 1000000000) (hwd : 0 ≤ wd ∧ wd < A.n) (hw : U64 (A.ws.getD wd.toNat 0)) (hl : ctlLive (A.ws.getD wd.toNat 0) = false) :
    Ctr Tryz.prog 128 #[vP g, vP ba] [Ef894e g c cl ep sl wd nx sn bk fl cm er, Ebed9f ba A, E632c4 A] (Ret (undef) [Ef894e g c cl ep sl wd (.nilFunc) (A.ws.getD wd.toNat 0) 0 fl ((A.load wd).steps) (.iface 46 (vI 22)), Ebed9f ba (A.load wd), E632c4 (A.load wd)]) := by
  refine ctr_of (args := [vP g, vP ba]) (fn := Tryz.f128) (body := B128) (nt := 9) Tryz.func128 (by kernel_rfl) (by kernel_rfl) ?_
  intro F
  refine go_exec (rs := []) (by kernel_rfl) 4000 [.z [] 3 [4, 5, 6]] (o := .stop [.o [] 3] [(4, vP g), (5, vP g), (6, vP ba)] [Ef894e g c cl ep sl wd nx sn bk fl cm er, Ebed9f ba A, E632c4 A]) (by kernel_rfl) ?_
  refine ok_stop ?_
  refine go_call (some 7) [0, 1, 2] Tryz.call138 (gLoad c g ba cl ep sl wd sn bk fl cm nx er A (by first | assumption | omega | (simp only [InK] at *; omega)) (by first | assumption | omega | (simp only [InK] at *; omega)) (by first | assumption | omega | (simp only [InK] at *; omega))) (by kernel_rfl) ?_
  rintro v post ⟨rfl, rfl⟩
  refine go_call (some 8) [0] Tryz.call137 (gLookD c g cl ep sl wd sn bk fl ((A.load wd).steps) nx er (A.ws.getD wd.toNat 0) (by first | assumption | omega | (simp only [InK] at *; omega)) (by first | assumption | omega | (simp only [InK] at *; omega))) (by kernel_rfl) ?_
  rintro v post ⟨rfl, rfl⟩
  refine go_exec (rs := []) (by kernel_rfl) 4000 [] (o := .ret (undef) [Ebed9f ba (A.load wd), E632c4 (A.load wd), Ef894e g c cl ep sl wd (.nilFunc) (A.ws.getD wd.toNat 0) 0 fl ((A.load wd).steps) (.iface 46 (vI 22))]) (by kernel_rfl) ?_
  exact ret_ok (post := [Ef894e g c cl ep sl wd (.nilFunc) (A.ws.getD wd.toNat 0) 0 fl ((A.load wd).steps) (.iface 46 (vI 22)), Ebed9f ba (A.load wd), E632c4 (A.load wd)]) [2, 0, 1] (by kernel_rfl) ⟨rfl, (by kernel_rfl)⟩


theorem gFirstP (c : Cfg) (g ba : Nat) (cl ep sl wd sn bk fl cm : Int) (nx er : Value) (A : Ar) (hn : A.ws.length = A.n) (hs : 0 ≤ A.steps ∧ A.steps ≤ 1000000000) (hwd : 0 ≤ wd ∧ wd < A.n) (hw : U64 (A.ws.getD wd.toNat 0)) (hl : ctlLive (A.ws.getD wd.toNat 0) = true) (he : ctlEpoch (A.ws.getD wd.toNat 0) ≠ ep) :
    Ctr Tryz.prog 128 #[vP g, vP ba] [Ef894e g c cl ep sl wd nx sn bk fl cm er, Ebed9f ba A, E632c4 A] (Ret (undef) [Ef894e g c cl ep sl wd (.nilFunc) (A.ws.getD wd.toNat 0) 0 fl ((A.load wd).steps) (.iface 46 (vI 22)), Ebed9f ba (A.load wd), E632c4 (A.load wd)]) := by
  refine ctr_of (args := [vP g, vP ba]) (fn := Tryz.f128) (body := B128) (nt := 9) Tryz.func128 (by kernel_rfl) (by kernel_rfl) ?_
  intro F
  refine go_exec (rs := []) (by kernel_rfl) 4000 [.z [] 3 [4, 5, 6]] (o := .stop [.o [] 3] [(4, vP g), (5, vP g), (6, vP ba)] [Ef894e g c cl ep sl wd nx sn bk fl cm er, Ebed9f ba A, E632c4 A]) (by kernel_rfl) ?_
  refine ok_stop ?_
  refine go_call (some 7) [0, 1, 2] Tryz.call138 (gLoad c g ba cl ep sl wd sn bk fl cm nx er A (by first | assumption | omega | (simp only [InK] at *; omega)) (by first | assumption | omega | (simp only [InK] at *; omega)) (by first | assumption | omega | (simp only [InK] at *; omega))) (by kernel_rfl) ?_
  rintro v post ⟨rfl, rfl⟩
  refine go_call (some 8) [0] Tryz.call137 (gLookP c g cl ep sl wd sn bk fl ((A.load wd).steps) nx er (A.ws.getD wd.toNat 0) (by first | assumption | omega | (simp only [InK] at *; omega)) (by first | assumption | omega | (simp only [InK] at *; omega)) (by first | assumption | omega | (simp only [InK] at *; omega))) (by kernel_rfl) ?_
  rintro v post ⟨rfl, rfl⟩
  refine go_exec (rs := []) (by kernel_rfl) 4000 [] (o := .ret (undef) [Ebed9f ba (A.load wd), E632c4 (A.load wd), Ef894e g c cl ep sl wd (.nilFunc) (A.ws.getD wd.toNat 0) 0 fl ((A.load wd).steps) (.iface 46 (vI 22))]) (by kernel_rfl) ?_
  exact ret_ok (post := [Ef894e g c cl ep sl wd (.nilFunc) (A.ws.getD wd.toNat 0) 0 fl ((A.load wd).steps) (.iface 46 (vI 22)), Ebed9f ba (A.load wd), E632c4 (A.load wd)]) [2, 0, 1] (by kernel_rfl) ⟨rfl, (by kernel_rfl)⟩


theorem gFirstE (c : Cfg) (g ba : Nat) (cl ep sl wd sn bk fl cm : Int) (nx er : Value) (A : Ar) (hn : A.ws.length = A.n) (hs : 0 ≤ A.steps ∧ A.steps ≤ 1000000000) (hwd : 0 ≤ wd ∧ wd < A.n) (hw : U64 (A.ws.getD wd.toNat 0)) (hl : ctlLive (A.ws.getD wd.toNat 0) = true) (he : ctlEpoch (A.ws.getD wd.toNat 0) = ep) (hb : ctlBlock (A.ws.getD wd.toNat 0) = 0) :
    Ctr Tryz.prog 128 #[vP g, vP ba] [Ef894e g c cl ep sl wd nx sn bk fl cm er, Ebed9f ba A, E632c4 A] (Ret (undef) [Ef894e g c cl ep sl wd (.nilFunc) (A.ws.getD wd.toNat 0) 0 fl ((A.load wd).steps) (.iface 46 (vI 20)), Ebed9f ba (A.load wd), E632c4 (A.load wd)]) := by
  refine ctr_of (args := [vP g, vP ba]) (fn := Tryz.f128) (body := B128) (nt := 9) Tryz.func128 (by kernel_rfl) (by kernel_rfl) ?_
  intro F
  refine go_exec (rs := []) (by kernel_rfl) 4000 [.z [] 3 [4, 5, 6]] (o := .stop [.o [] 3] [(4, vP g), (5, vP g), (6, vP ba)] [Ef894e g c cl ep sl wd nx sn bk fl cm er, Ebed9f ba A, E632c4 A]) (by kernel_rfl) ?_
  refine ok_stop ?_
  refine go_call (some 7) [0, 1, 2] Tryz.call138 (gLoad c g ba cl ep sl wd sn bk fl cm nx er A (by first | assumption | omega | (simp only [InK] at *; omega)) (by first | assumption | omega | (simp only [InK] at *; omega)) (by first | assumption | omega | (simp only [InK] at *; omega))) (by kernel_rfl) ?_
  rintro v post ⟨rfl, rfl⟩
  refine go_call (some 8) [0] Tryz.call137 (gLookE c g cl ep sl wd sn bk fl ((A.load wd).steps) nx er (A.ws.getD wd.toNat 0) (by first | assumption | omega | (simp only [InK] at *; omega)) (by first | assumption | omega | (simp only [InK] at *; omega)) (by first | assumption | omega | (simp only [InK] at *; omega)) (by first | assumption | omega | (simp only [InK] at *; omega))) (by kernel_rfl) ?_
  rintro v post ⟨rfl, rfl⟩
  refine go_exec (rs := []) (by kernel_rfl) 4000 [] (o := .ret (undef) [Ebed9f ba (A.load wd), E632c4 (A.load wd), Ef894e g c cl ep sl wd (.nilFunc) (A.ws.getD wd.toNat 0) 0 fl ((A.load wd).steps) (.iface 46 (vI 20))]) (by kernel_rfl) ?_
  exact ret_ok (post := [Ef894e g c cl ep sl wd (.nilFunc) (A.ws.getD wd.toNat 0) 0 fl ((A.load wd).steps) (.iface 46 (vI 20)), Ebed9f ba (A.load wd), E632c4 (A.load wd)]) [2, 0, 1] (by kernel_rfl) ⟨rfl, (by kernel_rfl)⟩


theorem gFirstN (c : Cfg) (g ba : Nat) (cl ep sl wd sn bk fl cm : Int) (nx er : Value) (A : Ar) (hn : A.ws.length = A.n) (hs : 0 ≤ A.steps ∧ A.steps ≤ 1000000000) (hwd : 0 ≤ wd ∧ wd < A.n) (hw : U64 (A.ws.getD wd.toNat 0)) (hl : ctlLive (A.ws.getD wd.toNat 0) = true) (he : ctlEpoch (A.ws.getD wd.toNat 0) = ep) (hb : ctlBlock (A.ws.getD wd.toNat 0) ≠ 0) :
    Ctr Tryz.prog 128 #[vP g, vP ba] [Ef894e g c cl ep sl wd nx sn bk fl cm er, Ebed9f ba A, E632c4 A] (Ret (undef) [Ef894e g c cl ep sl wd (.func (.func 141) #[vP g] #[]) (A.ws.getD wd.toNat 0) (ctlBlock (A.ws.getD wd.toNat 0)) fl ((A.load wd).steps) er, Ebed9f ba (A.load wd), E632c4 (A.load wd)]) := by
  refine ctr_of (args := [vP g, vP ba]) (fn := Tryz.f128) (body := B128) (nt := 9) Tryz.func128 (by kernel_rfl) (by kernel_rfl) ?_
  intro F
  refine go_exec (rs := []) (by kernel_rfl) 4000 [.z [] 3 [4, 5, 6]] (o := .stop [.o [] 3] [(4, vP g), (5, vP g), (6, vP ba)] [Ef894e g c cl ep sl wd nx sn bk fl cm er, Ebed9f ba A, E632c4 A]) (by kernel_rfl) ?_
  refine ok_stop ?_
  refine go_call (some 7) [0, 1, 2] Tryz.call138 (gLoad c g ba cl ep sl wd sn bk fl cm nx er A (by first | assumption | omega | (simp only [InK] at *; omega)) (by first | assumption | omega | (simp only [InK] at *; omega)) (by first | assumption | omega | (simp only [InK] at *; omega))) (by kernel_rfl) ?_
  rintro v post ⟨rfl, rfl⟩
  refine go_call (some 8) [0] Tryz.call137 (gLookN c g cl ep sl wd sn bk fl ((A.load wd).steps) nx er (A.ws.getD wd.toNat 0) (by first | assumption | omega | (simp only [InK] at *; omega)) (by first | assumption | omega | (simp only [InK] at *; omega)) (by first | assumption | omega | (simp only [InK] at *; omega)) (by first | assumption | omega | (simp only [InK] at *; omega))) (by kernel_rfl) ?_
  rintro v post ⟨rfl, rfl⟩
  refine go_exec (rs := []) (by kernel_rfl) 4000 [] (o := .ret (undef) [Ebed9f ba (A.load wd), E632c4 (A.load wd), Ef894e g c cl ep sl wd (.func (.func 141) #[vP g] #[]) (A.ws.getD wd.toNat 0) (ctlBlock (A.ws.getD wd.toNat 0)) fl ((A.load wd).steps) er]) (by kernel_rfl) ?_
  exact ret_ok (post := [Ef894e g c cl ep sl wd (.func (.func 141) #[vP g] #[]) (A.ws.getD wd.toNat 0) (ctlBlock (A.ws.getD wd.toNat 0)) fl ((A.load wd).steps) er, Ebed9f ba (A.load wd), E632c4 (A.load wd)]) [2, 0, 1] (by kernel_rfl) ⟨rfl, (by kernel_rfl)⟩

noncomputable def B141 : Code := (Tryz.f141.body).getD .skip

theorem gSecond (c : Cfg) (g ba : Nat) (cl ep sl wd sn bk fl cm : Int) (nx er : Value) (A : Ar) (hn : A.ws.length = A.n) (hs : 0 ≤ A.steps ∧ A.steps ≤ 1000000000) (hsl : 0 ≤ sl ∧ sl < A.n) (hcl : 0 ≤ cl ∧ cl ≤ 1000) (hbk : 0 ≤ bk ∧ bk ≤ 65535) :
    Ctr Tryz.prog 141 #[vP g, vP ba] [Ef894e g c cl ep sl wd nx sn bk fl cm er, Ebed9f ba A, E632c4 A] (Ret (undef) [Ef894e g c cl ep sl wd (.func (.func 144) #[vP g] #[]) sn bk fl cm er, Ebed9f ba (A.store sl (markW cl bk)), E632c4 (A.store sl (markW cl bk))]) := by
  refine ctr_of (args := [vP g, vP ba]) (fn := Tryz.f141) (body := B141) (nt := 24) Tryz.func141 (by kernel_rfl) (by kernel_rfl) ?_
  intro F
  refine go_exec (rs := []) (by kernel_rfl) 4000 [.z [0] 0 [0, 1]] (o := .stop [.c [0], .c [1]] [(0, vP g), (1, vP ba)] [Ef894e g c cl ep sl wd nx sn bk fl cm er, Ebed9f ba A, E632c4 A]) (by kernel_rfl) ?_
  refine ok_stop ?_
  refine go_tail_call (dst := (some 18)) (ps := [g = g, g = g, g = g]) (cs := [(123, #[vI cl, vI bk], vU (markW cl bk))]) [(0, .h .w), (1, .h .w), (2, .h .w), (3, .h .w), (4, .h (.e 0)), (5, .h .w), (6, .h .w), (7, .h .w), (8, .h (.e 0)), (9, .h .w), (10, .h .w), (11, .h .w), (12, .h (.e 0)), (13, .q (vU (markW cl bk)))] 14 [] [1, 2] [0] (by kernel_rfl) Tryz.call20 (arena_Store ba A sl (markW cl bk) (by first | assumption | omega | (simp only [InK] at *; omega)) hsl (by first | assumption | omega | (simp only [InK] at *; omega))) (by kernel_rfl) ⟨rfl, rfl, rfl, trivial⟩ ⟨⟨Tryz.call123, quiet_of [] (slots_Mark cl bk (by omega) (by omega)) (by kernel_rfl) (by rintro v post ⟨rfl, rfl⟩; exact ⟨rfl, rfl⟩)⟩, trivial⟩ ?_
  rintro v post ⟨rfl, rfl⟩
  refine tail_next (tm' := [(0, vP g)]) (ps2 := []) (by kernel_rfl) trivial ?_
  refine go_exec (rs := []) (by kernel_rfl) 4000 [.e 0] (o := .obl (g = g) (.ret (undef) [Ef894e g c cl ep sl wd (.func (.func 144) #[vP g] #[]) sn bk fl cm er, Ebed9f ba (A.store sl (markW cl bk)), E632c4 (A.store sl (markW cl bk))])) (by kernel_rfl) ?_
  refine ok_obl rfl ?_
  exact ret_ok (post := [Ef894e g c cl ep sl wd (.func (.func 144) #[vP g] #[]) sn bk fl cm er, Ebed9f ba (A.store sl (markW cl bk)), E632c4 (A.store sl (markW cl bk))]) [0, 1, 2] (by kernel_rfl) ⟨rfl, (by kernel_rfl)⟩

noncomputable def B144 : Code := (Tryz.f144.body).getD .skip

theorem gThirdK (c : Cfg) (g ba : Nat) (cl ep sl wd sn bk fl cm : Int) (nx er : Value) (A : Ar) (hn : A.ws.length = A.n) (hs : 0 ≤ A.steps ∧ A.steps ≤ 1000000000) (hwd : 0 ≤ wd ∧ wd < A.n) (hw : U64 (A.ws.getD wd.toNat 0)) (hf0 : 0 ≤ fl ∧ fl ≤ 1000) (hq : (A.ws.getD wd.toNat 0) = sn) :
    Ctr Tryz.prog 144 #[vP g, vP ba] [Ef894e g c cl ep sl wd nx sn bk fl cm er, Ebed9f ba A, E632c4 A] (Ret (undef) [E9f3a0 g c cl ep sl wd (.nilFunc) sn bk fl ((A.load wd).steps), Ebed9f ba (A.load wd), E632c4 (A.load wd)]) := by
  refine ctr_of (args := [vP g, vP ba]) (fn := Tryz.f144) (body := B144) (nt := 38) Tryz.func144 (by kernel_rfl) (by kernel_rfl) ?_
  intro F
  refine go_exec (rs := []) (by kernel_rfl) 4000 [.z [0] 2 [0, 5, 6]] (o := .stop [.o [0] 2, .c [1]] [(0, vP g), (5, vP g), (6, vP ba)] [Ef894e g c cl ep sl wd nx sn bk fl cm er, Ebed9f ba A, E632c4 A]) (by kernel_rfl) ?_
  refine ok_stop ?_
  refine go_call (some 7) [0, 1, 2] Tryz.call138 (gLoad c g ba cl ep sl wd sn bk fl cm nx er A (by first | assumption | omega | (simp only [InK] at *; omega)) (by first | assumption | omega | (simp only [InK] at *; omega)) (by first | assumption | omega | (simp only [InK] at *; omega))) (by kernel_rfl) ?_
  rintro v post ⟨rfl, rfl⟩
  refine go_exec (rs := []) (by kernel_rfl) 4000 [.e 0, .sp [13] [.z [0, 0, 1, 0, 1] 1 [14]] [.dead]] (o := .obl (g = g) (.br ((A.ws.getD wd.toNat 0) == sn) (.stop [.o [0, 0, 1, 0, 1] 1, .c [1, 0, 1, 0, 1], .c [1, 1]] [(14, vP g)] [Ef894e g c cl ep sl wd nx sn bk fl ((A.load wd).steps) er, Ebed9f ba (A.load wd), E632c4 (A.load wd)]) (.bad))) (by kernel_rfl) ?_
  refine ok_obl rfl ?_
  refine ok_br (fun _ => ?_) (fun h => absurd (show ((A.ws.getD wd.toNat 0) == sn) = true from (beq_iff_eq.2 hq)) (by rw [h]; simp))
  refine ok_stop ?_
  refine go_call (some 15) [0] Tryz.call142 (gEnd0 c g cl ep sl wd sn bk fl ((A.load wd).steps) nx er) (by kernel_rfl) ?_
  rintro v post ⟨rfl, rfl⟩
  refine go_exec (rs := []) (by kernel_rfl) 4000 [] (o := .ret (undef) [Ebed9f ba (A.load wd), E632c4 (A.load wd), E9f3a0 g c cl ep sl wd (.nilFunc) sn bk fl ((A.load wd).steps)]) (by kernel_rfl) ?_
  exact ret_ok (post := [E9f3a0 g c cl ep sl wd (.nilFunc) sn bk fl ((A.load wd).steps), Ebed9f ba (A.load wd), E632c4 (A.load wd)]) [2, 0, 1] (by kernel_rfl) ⟨rfl, (by kernel_rfl)⟩


theorem gThirdR (c : Cfg) (g ba : Nat) (cl ep sl wd sn bk fl cm : Int) (nx er : Value) (A : Ar) (hn : A.ws.length = A.n) (hs : 0 ≤ A.steps ∧ A.steps ≤ 1000000000) (hwd : 0 ≤ wd ∧ wd < A.n) (hw : U64 (A.ws.getD wd.toNat 0)) (hf0 : 0 ≤ fl ∧ fl ≤ 1000) (hq : (A.ws.getD wd.toNat 0) ≠ sn) (hr : fl + 1 = c.retry) :
    Ctr Tryz.prog 144 #[vP g, vP ba] [Ef894e g c cl ep sl wd nx sn bk fl cm er, Ebed9f ba A, E632c4 A] (Ret (undef) [Ef894e g c cl ep sl wd (.nilFunc) sn 0 (fl + 1) ((A.load wd).steps) (.iface 46 (vI 17)), Ebed9f ba (A.load wd), E632c4 (A.load wd)]) := by
  refine ctr_of (args := [vP g, vP ba]) (fn := Tryz.f144) (body := B144) (nt := 38) Tryz.func144 (by kernel_rfl) (by kernel_rfl) ?_
  intro F
  refine go_exec (rs := []) (by kernel_rfl) 4000 [.z [0] 2 [0, 5, 6]] (o := .stop [.o [0] 2, .c [1]] [(0, vP g), (5, vP g), (6, vP ba)] [Ef894e g c cl ep sl wd nx sn bk fl cm er, Ebed9f ba A, E632c4 A]) (by kernel_rfl) ?_
  refine ok_stop ?_
  refine go_call (some 7) [0, 1, 2] Tryz.call138 (gLoad c g ba cl ep sl wd sn bk fl cm nx er A (by first | assumption | omega | (simp only [InK] at *; omega)) (by first | assumption | omega | (simp only [InK] at *; omega)) (by first | assumption | omega | (simp only [InK] at *; omega))) (by kernel_rfl) ?_
  rintro v post ⟨rfl, rfl⟩
  refine go_exec (rs := []) (by kernel_rfl) 4000 [.e 0, .sp [13] [.dead] [.e 0, .n, .e 0, .z [0, 0, 1, 1, 1] 0 [0, 4]]] (o := .obl (g = g) (.br ((A.ws.getD wd.toNat 0) == sn) (.bad) (.obl (g = g) (.obl (InK .i64 (fl + 1)) (.obl (g = g) (.stop [.c [0, 0, 1, 1, 1], .c [1, 0, 1, 1, 1], .c [1, 1, 1, 1]] [(0, vP g), (4, vU (A.ws.getD wd.toNat 0))] [Ef894e g c cl ep sl wd nx sn bk (fl + 1) ((A.load wd).steps) er, Ebed9f ba (A.load wd), E632c4 (A.load wd)])))))) (by kernel_rfl) ?_
  refine ok_obl rfl ?_
  refine ok_br (fun h => absurd (show ((A.ws.getD wd.toNat 0) == sn) = false from (beq_eq_false_iff_ne.2 hq)) (by rw [h]; simp)) (fun _ => ?_)
  refine ok_obl rfl ?_
  refine ok_obl (by simp only [InK]; omega) ?_
  refine ok_obl rfl ?_
  refine ok_stop ?_
  refine go_quiet (tm' := [(0, vP g), (4, vU (A.ws.getD wd.toNat 0)), (32, .bool true)]) (ps := [g = g, g = g, ((fl + 1) == c.retry) = true]) (cs := []) [(0, .h .w), (1, .h .w), (2, .h .w), (3, .h (.e 0)), (4, .h .w), (5, .h .w), (6, .h .w), (7, .h .w), (8, .h (.e 0)), (9, .h (.t true))] [0, 4, 32] (by kernel_rfl) (by kernel_rfl) ⟨rfl, rfl, (beq_iff_eq.2 hr), trivial⟩ trivial ?_
  refine go_exec (rs := []) (by kernel_rfl) 4000 [.z q31_1 1 [33]] (o := .stop [.o q31_1 1, .c [1, 0, 1, 0, 1, 1, 1], .c [1, 1, 1, 1]] [(33, vP g)] [Ef894e g c cl ep sl wd nx sn bk (fl + 1) ((A.load wd).steps) er, Ebed9f ba (A.load wd), E632c4 (A.load wd)]) (by kernel_rfl) ?_
  refine ok_stop ?_
  refine go_call (some 34) [0] Tryz.call142 (gEndE c g cl ep sl wd sn bk (fl + 1) ((A.load wd).steps) nx er 17 (by decide)) (by kernel_rfl) ?_
  rintro v post ⟨rfl, rfl⟩
  refine go_exec (rs := []) (by kernel_rfl) 4000 [] (o := .ret (undef) [Ebed9f ba (A.load wd), E632c4 (A.load wd), Ef894e g c cl ep sl wd (.nilFunc) sn 0 (fl + 1) ((A.load wd).steps) (.iface 46 (vI 17))]) (by kernel_rfl) ?_
  exact ret_ok (post := [Ef894e g c cl ep sl wd (.nilFunc) sn 0 (fl + 1) ((A.load wd).steps) (.iface 46 (vI 17)), Ebed9f ba (A.load wd), E632c4 (A.load wd)]) [2, 0, 1] (by kernel_rfl) ⟨rfl, (by kernel_rfl)⟩


theorem gThirdD (c : Cfg) (g ba : Nat) (cl ep sl wd sn bk fl cm : Int) (nx er : Value) (A : Ar) (hn : A.ws.length = A.n) (hs : 0 ≤ A.steps ∧ A.steps ≤ 1000000000) (hwd : 0 ≤ wd ∧ wd < A.n) (hw : U64 (A.ws.getD wd.toNat 0)) (hf0 : 0 ≤ fl ∧ fl ≤ 1000) (hq : (A.ws.getD wd.toNat 0) ≠ sn) (hr : fl + 1 ≠ c.retry) (hl : ctlLive (A.ws.getD wd.toNat 0) = false) :
    Ctr Tryz.prog 144 #[vP g, vP ba] [Ef894e g c cl ep sl wd nx sn bk fl cm er, Ebed9f ba A, E632c4 A] (Ret (undef) [Ef894e g c cl ep sl wd (.nilFunc) (A.ws.getD wd.toNat 0) 0 (fl + 1) ((A.load wd).steps) (.iface 46 (vI 22)), Ebed9f ba (A.load wd), E632c4 (A.load wd)]) := by
  refine ctr_of (args := [vP g, vP ba]) (fn := Tryz.f144) (body := B144) (nt := 38) Tryz.func144 (by kernel_rfl) (by kernel_rfl) ?_
  intro F
  refine go_exec (rs := []) (by kernel_rfl) 4000 [.z [0] 2 [0, 5, 6]] (o := .stop [.o [0] 2, .c [1]] [(0, vP g), (5, vP g), (6, vP ba)] [Ef894e g c cl ep sl wd nx sn bk fl cm er, Ebed9f ba A, E632c4 A]) (by kernel_rfl) ?_
  refine ok_stop ?_
  refine go_call (some 7) [0, 1, 2] Tryz.call138 (gLoad c g ba cl ep sl wd sn bk fl cm nx er A (by first | assumption | omega | (simp only [InK] at *; omega)) (by first | assumption | omega | (simp only [InK] at *; omega)) (by first | assumption | omega | (simp only [InK] at *; omega))) (by kernel_rfl) ?_
  rintro v post ⟨rfl, rfl⟩
  refine go_exec (rs := []) (by kernel_rfl) 4000 [.e 0, .sp [13] [.dead] [.e 0, .n, .e 0, .z [0, 0, 1, 1, 1] 0 [0, 4]]] (o := .obl (g = g) (.br ((A.ws.getD wd.toNat 0) == sn) (.bad) (.obl (g = g) (.obl (InK .i64 (fl + 1)) (.obl (g = g) (.stop [.c [0, 0, 1, 1, 1], .c [1, 0, 1, 1, 1], .c [1, 1, 1, 1]] [(0, vP g), (4, vU (A.ws.getD wd.toNat 0))] [Ef894e g c cl ep sl wd nx sn bk (fl + 1) ((A.load wd).steps) er, Ebed9f ba (A.load wd), E632c4 (A.load wd)])))))) (by kernel_rfl) ?_
  refine ok_obl rfl ?_
  refine ok_br (fun h => absurd (show ((A.ws.getD wd.toNat 0) == sn) = false from (beq_eq_false_iff_ne.2 hq)) (by rw [h]; simp)) (fun _ => ?_)
  refine ok_obl rfl ?_
  refine ok_obl (by simp only [InK]; omega) ?_
  refine ok_obl rfl ?_
  refine ok_stop ?_
  refine go_quiet (tm' := [(0, vP g), (4, vU (A.ws.getD wd.toNat 0)), (32, .bool false)]) (ps := [g = g, g = g, ((fl + 1) == c.retry) = false]) (cs := []) [(0, .h .w), (1, .h .w), (2, .h .w), (3, .h (.e 0)), (4, .h .w), (5, .h .w), (6, .h .w), (7, .h .w), (8, .h (.e 0)), (9, .h (.t false))] [0, 4, 32] (by kernel_rfl) (by kernel_rfl) ⟨rfl, rfl, (beq_eq_false_iff_ne.2 hr), trivial⟩ trivial ?_
  refine go_exec (rs := []) (by kernel_rfl) 4000 [.z [1, 1, 1, 1] 2 [35, 36]] (o := .stop [.o [1, 1, 1, 1] 2] [(35, vP g), (36, vU (A.ws.getD wd.toNat 0))] [Ef894e g c cl ep sl wd nx sn bk (fl + 1) ((A.load wd).steps) er, Ebed9f ba (A.load wd), E632c4 (A.load wd)]) (by kernel_rfl) ?_
  refine ok_stop ?_
  refine go_call (some 37) [0] Tryz.call137 (gLookD c g cl ep sl wd sn bk (fl + 1) ((A.load wd).steps) nx er (A.ws.getD wd.toNat 0) (by first | assumption | omega | (simp only [InK] at *; omega)) (by first | assumption | omega | (simp only [InK] at *; omega))) (by kernel_rfl) ?_
  rintro v post ⟨rfl, rfl⟩
  refine go_exec (rs := []) (by kernel_rfl) 4000 [] (o := .ret (undef) [Ebed9f ba (A.load wd), E632c4 (A.load wd), Ef894e g c cl ep sl wd (.nilFunc) (A.ws.getD wd.toNat 0) 0 (fl + 1) ((A.load wd).steps) (.iface 46 (vI 22))]) (by kernel_rfl) ?_
  exact ret_ok (post := [Ef894e g c cl ep sl wd (.nilFunc) (A.ws.getD wd.toNat 0) 0 (fl + 1) ((A.load wd).steps) (.iface 46 (vI 22)), Ebed9f ba (A.load wd), E632c4 (A.load wd)]) [2, 0, 1] (by kernel_rfl) ⟨rfl, (by kernel_rfl)⟩


theorem gThirdP (c : Cfg) (g ba : Nat) (cl ep sl wd sn bk fl cm : Int) (nx er : Value) (A : Ar) (hn : A.ws.length = A.n) (hs : 0 ≤ A.steps ∧ A.steps ≤ 1000000000) (hwd : 0 ≤ wd ∧ wd < A.n) (hw : U64 (A.ws.getD wd.toNat 0)) (hf0 : 0 ≤ fl ∧ fl ≤ 1000) (hq : (A.ws.getD wd.toNat 0) ≠ sn) (hr : fl + 1 ≠ c.retry) (hl : ctlLive (A.ws.getD wd.toNat 0) = true) (he : ctlEpoch (A.ws.getD wd.toNat 0) ≠ ep) :
    Ctr Tryz.prog 144 #[vP g, vP ba] [Ef894e g c cl ep sl wd nx sn bk fl cm er, Ebed9f ba A, E632c4 A] (Ret (undef) [Ef894e g c cl ep sl wd (.nilFunc) (A.ws.getD wd.toNat 0) 0 (fl + 1) ((A.load wd).steps) (.iface 46 (vI 22)), Ebed9f ba (A.load wd), E632c4 (A.load wd)]) := by
  refine ctr_of (args := [vP g, vP ba]) (fn := Tryz.f144) (body := B144) (nt := 38) Tryz.func144 (by kernel_rfl) (by kernel_rfl) ?_
  intro F
  refine go_exec (rs := []) (by kernel_rfl) 4000 [.z [0] 2 [0, 5, 6]] (o := .stop [.o [0] 2, .c [1]] [(0, vP g), (5, vP g), (6, vP ba)] [Ef894e g c cl ep sl wd nx sn bk fl cm er, Ebed9f ba A, E632c4 A]) (by kernel_rfl) ?_
  refine ok_stop ?_
  refine go_call (some 7) [0, 1, 2] Tryz.call138 (gLoad c g ba cl ep sl wd sn bk fl cm nx er A (by first | assumption | omega | (simp only [InK] at *; omega)) (by first | assumption | omega | (simp only [InK] at *; omega)) (by first | assumption | omega | (simp only [InK] at *; omega))) (by kernel_rfl) ?_
  rintro v post ⟨rfl, rfl⟩
  refine go_exec (rs := []) (by kernel_rfl) 4000 [.e 0, .sp [13] [.dead] [.e 0, .n, .e 0, .z [0, 0, 1, 1, 1] 0 [0, 4]]] (o := .obl (g = g) (.br ((A.ws.getD wd.toNat 0) == sn) (.bad) (.obl (g = g) (.obl (InK .i64 (fl + 1)) (.obl (g = g) (.stop [.c [0, 0, 1, 1, 1], .c [1, 0, 1, 1, 1], .c [1, 1, 1, 1]] [(0, vP g), (4, vU (A.ws.getD wd.toNat 0))] [Ef894e g c cl ep sl wd nx sn bk (fl + 1) ((A.load wd).steps) er, Ebed9f ba (A.load wd), E632c4 (A.load wd)])))))) (by kernel_rfl) ?_
  refine ok_obl rfl ?_
  refine ok_br (fun h => absurd (show ((A.ws.getD wd.toNat 0) == sn) = false from (beq_eq_false_iff_ne.2 hq)) (by rw [h]; simp)) (fun _ => ?_)
  refine ok_obl rfl ?_
  refine ok_obl (by simp only [InK]; omega) ?_
  refine ok_obl rfl ?_
  refine ok_stop ?_
  refine go_quiet (tm' := [(0, vP g), (4, vU (A.ws.getD wd.toNat 0)), (32, .bool false)]) (ps := [g = g, g = g, ((fl + 1) == c.retry) = false]) (cs := []) [(0, .h .w), (1, .h .w), (2, .h .w), (3, .h (.e 0)), (4, .h .w), (5, .h .w), (6, .h .w), (7, .h .w), (8, .h (.e 0)), (9, .h (.t false))] [0, 4, 32] (by kernel_rfl) (by kernel_rfl) ⟨rfl, rfl, (beq_eq_false_iff_ne.2 hr), trivial⟩ trivial ?_
  refine go_exec (rs := []) (by kernel_rfl) 4000 [.z [1, 1, 1, 1] 2 [35, 36]] (o := .stop [.o [1, 1, 1, 1] 2] [(35, vP g), (36, vU (A.ws.getD wd.toNat 0))] [Ef894e g c cl ep sl wd nx sn bk (fl + 1) ((A.load wd).steps) er, Ebed9f ba (A.load wd), E632c4 (A.load wd)]) (by kernel_rfl) ?_
  refine ok_stop ?_
  refine go_call (some 37) [0] Tryz.call137 (gLookP c g cl ep sl wd sn bk (fl + 1) ((A.load wd).steps) nx er (A.ws.getD wd.toNat 0) (by first | assumption | omega | (simp only [InK] at *; omega)) (by first | assumption | omega | (simp only [InK] at *; omega)) (by first | assumption | omega | (simp only [InK] at *; omega))) (by kernel_rfl) ?_
  rintro v post ⟨rfl, rfl⟩
  refine go_exec (rs := []) (by kernel_rfl) 4000 [] (o := .ret (undef) [Ebed9f ba (A.load wd), E632c4 (A.load wd), Ef894e g c cl ep sl wd (.nilFunc) (A.ws.getD wd.toNat 0) 0 (fl + 1) ((A.load wd).steps) (.iface 46 (vI 22))]) (by kernel_rfl) ?_
  exact ret_ok (post := [Ef894e g c cl ep sl wd (.nilFunc) (A.ws.getD wd.toNat 0) 0 (fl + 1) ((A.load wd).steps) (.iface 46 (vI 22)), Ebed9f ba (A.load wd), E632c4 (A.load wd)]) [2, 0, 1] (by kernel_rfl) ⟨rfl, (by kernel_rfl)⟩


theorem gThirdE (c : Cfg) (g ba : Nat) (cl ep sl wd sn bk fl cm : Int) (nx er : Value) (A : Ar) (hn : A.ws.length = A.n) (hs : 0 ≤ A.steps ∧ A.steps ≤ 1000000000) (hwd : 0 ≤ wd ∧ wd < A.n) (hw : U64 (A.ws.getD wd.toNat 0)) (hf0 : 0 ≤ fl ∧ fl ≤ 1000) (hq : (A.ws.getD wd.toNat 0) ≠ sn) (hr : fl + 1 ≠ c.retry) (hl : ctlLive (A.ws.getD wd.toNat 0) = true) (he : ctlEpoch (A.ws.getD wd.toNat 0) = ep) (hb : ctlBlock (A.ws.getD wd.toNat 0) = 0) :
    Ctr Tryz.prog 144 #[vP g, vP ba] [Ef894e g c cl ep sl wd nx sn bk fl cm er, Ebed9f ba A, E632c4 A] (Ret (undef) [Ef894e g c cl ep sl wd (.nilFunc) (A.ws.getD wd.toNat 0) 0 (fl + 1) ((A.load wd).steps) (.iface 46 (vI 20)), Ebed9f ba (A.load wd), E632c4 (A.load wd)]) := by
  refine ctr_of (args := [vP g, vP ba]) (fn := Tryz.f144) (body := B144) (nt := 38) Tryz.func144 (by kernel_rfl) (by kernel_rfl) ?_
  intro F
  refine go_exec (rs := []) (by kernel_rfl) 4000 [.z [0] 2 [0, 5, 6]] (o := .stop [.o [0] 2, .c [1]] [(0, vP g), (5, vP g), (6, vP ba)] [Ef894e g c cl ep sl wd nx sn bk fl cm er, Ebed9f ba A, E632c4 A]) (by kernel_rfl) ?_
  refine ok_stop ?_
  refine go_call (some 7) [0, 1, 2] Tryz.call138 (gLoad c g ba cl ep sl wd sn bk fl cm nx er A (by first | assumption | omega | (simp only [InK] at *; omega)) (by first | assumption | omega | (simp only [InK] at *; omega)) (by first | assumption | omega | (simp only [InK] at *; omega))) (by kernel_rfl) ?_
  rintro v post ⟨rfl, rfl⟩
  refine go_exec (rs := []) (by kernel_rfl) 4000 [.e 0, .sp [13] [.dead] [.e 0, .n, .e 0, .z [0, 0, 1, 1, 1] 0 [0, 4]]] (o := .obl (g = g) (.br ((A.ws.getD wd.toNat 0) == sn) (.bad) (.obl (g = g) (.obl (InK .i64 (fl + 1)) (.obl (g = g) (.stop [.c [0, 0, 1, 1, 1], .c [1, 0, 1, 1, 1], .c [1, 1, 1, 1]] [(0, vP g), (4, vU (A.ws.getD wd.toNat 0))] [Ef894e g c cl ep sl wd nx sn bk (fl + 1) ((A.load wd).steps) er, Ebed9f ba (A.load wd), E632c4 (A.load wd)])))))) (by kernel_rfl) ?_
  refine ok_obl rfl ?_
  refine ok_br (fun h => absurd (show ((A.ws.getD wd.toNat 0) == sn) = false from (beq_eq_false_iff_ne.2 hq)) (by rw [h]; simp)) (fun _ => ?_)
  refine ok_obl rfl ?_
  refine ok_obl (by simp only [InK]; omega) ?_
  refine ok_obl rfl ?_
  refine ok_stop ?_
  refine go_quiet (tm' := [(0, vP g), (4, vU (A.ws.getD wd.toNat 0)), (32, .bool false)]) (ps := [g = g, g = g, ((fl + 1) == c.retry) = false]) (cs := []) [(0, .h .w), (1, .h .w), (2, .h .w), (3, .h (.e 0)), (4, .h .w), (5, .h .w), (6, .h .w), (7, .h .w), (8, .h (.e 0)), (9, .h (.t false))] [0, 4, 32] (by kernel_rfl) (by kernel_rfl) ⟨rfl, rfl, (beq_eq_false_iff_ne.2 hr), trivial⟩ trivial ?_
  refine go_exec (rs := []) (by kernel_rfl) 4000 [.z [1, 1, 1, 1] 2 [35, 36]] (o := .stop [.o [1, 1, 1, 1] 2] [(35, vP g), (36, vU (A.ws.getD wd.toNat 0))] [Ef894e g c cl ep sl wd nx sn bk (fl + 1) ((A.load wd).steps) er, Ebed9f ba (A.load wd), E632c4 (A.load wd)]) (by kernel_rfl) ?_
  refine ok_stop ?_
  refine go_call (some 37) [0] Tryz.call137 (gLookE c g cl ep sl wd sn bk (fl + 1) ((A.load wd).steps) nx er (A.ws.getD wd.toNat 0) (by first | assumption | omega | (simp only [InK] at *; omega)) (by first | assumption | omega | (simp only [InK] at *; omega)) (by first | assumption | omega | (simp only [InK] at *; omega)) (by first | assumption | omega | (simp only [InK] at *; omega))) (by kernel_rfl) ?_
  rintro v post ⟨rfl, rfl⟩
  refine go_exec (rs := []) (by kernel_rfl) 4000 [] (o := .ret (undef) [Ebed9f ba (A.load wd), E632c4 (A.load wd), Ef894e g c cl ep sl wd (.nilFunc) (A.ws.getD wd.toNat 0) 0 (fl + 1) ((A.load wd).steps) (.iface 46 (vI 20))]) (by kernel_rfl) ?_
  exact ret_ok (post := [Ef894e g c cl ep sl wd (.nilFunc) (A.ws.getD wd.toNat 0) 0 (fl + 1) ((A.load wd).steps) (.iface 46 (vI 20)), Ebed9f ba (A.load wd), E632c4 (A.load wd)]) [2, 0, 1] (by kernel_rfl) ⟨rfl, (by kernel_rfl)⟩


theorem gThirdN (c : Cfg) (g ba : Nat) (cl ep sl wd sn bk fl cm : Int) (nx er : Value) (A : Ar) (hn : A.ws.length = A.n) (hs : 0 ≤ A.steps ∧ A.steps ≤ 1000000000) (hwd : 0 ≤ wd ∧ wd < A.n) (hw : U64 (A.ws.getD wd.toNat 0)) (hf0 : 0 ≤ fl ∧ fl ≤ 1000) (hq : (A.ws.getD wd.toNat 0) ≠ sn) (hr : fl + 1 ≠ c.retry) (hl : ctlLive (A.ws.getD wd.toNat 0) = true) (he : ctlEpoch (A.ws.getD wd.toNat 0) = ep) (hb : ctlBlock (A.ws.getD wd.toNat 0) ≠ 0) :
    Ctr Tryz.prog 144 #[vP g, vP ba] [Ef894e g c cl ep sl wd nx sn bk fl cm er, Ebed9f ba A, E632c4 A] (Ret (undef) [Ef894e g c cl ep sl wd (.func (.func 141) #[vP g] #[]) (A.ws.getD wd.toNat 0) (ctlBlock (A.ws.getD wd.toNat 0)) (fl + 1) ((A.load wd).steps) er, Ebed9f ba (A.load wd), E632c4 (A.load wd)]) := by
  refine ctr_of (args := [vP g, vP ba]) (fn := Tryz.f144) (body := B144) (nt := 38) Tryz.func144 (by kernel_rfl) (by kernel_rfl) ?_
  intro F
  refine go_exec (rs := []) (by kernel_rfl) 4000 [.z [0] 2 [0, 5, 6]] (o := .stop [.o [0] 2, .c [1]] [(0, vP g), (5, vP g), (6, vP ba)] [Ef894e g c cl ep sl wd nx sn bk fl cm er, Ebed9f ba A, E632c4 A]) (by kernel_rfl) ?_
  refine ok_stop ?_
  refine go_call (some 7) [0, 1, 2] Tryz.call138 (gLoad c g ba cl ep sl wd sn bk fl cm nx er A (by first | assumption | omega | (simp only [InK] at *; omega)) (by first | assumption | omega | (simp only [InK] at *; omega)) (by first | assumption | omega | (simp only [InK] at *; omega))) (by kernel_rfl) ?_
  rintro v post ⟨rfl, rfl⟩
  refine go_exec (rs := []) (by kernel_rfl) 4000 [.e 0, .sp [13] [.dead] [.e 0, .n, .e 0, .z [0, 0, 1, 1, 1] 0 [0, 4]]] (o := .obl (g = g) (.br ((A.ws.getD wd.toNat 0) == sn) (.bad) (.obl (g = g) (.obl (InK .i64 (fl + 1)) (.obl (g = g) (.stop [.c [0, 0, 1, 1, 1], .c [1, 0, 1, 1, 1], .c [1, 1, 1, 1]] [(0, vP g), (4, vU (A.ws.getD wd.toNat 0))] [Ef894e g c cl ep sl wd nx sn bk (fl + 1) ((A.load wd).steps) er, Ebed9f ba (A.load wd), E632c4 (A.load wd)])))))) (by kernel_rfl) ?_
  refine ok_obl rfl ?_
  refine ok_br (fun h => absurd (show ((A.ws.getD wd.toNat 0) == sn) = false from (beq_eq_false_iff_ne.2 hq)) (by rw [h]; simp)) (fun _ => ?_)
  refine ok_obl rfl ?_
  refine ok_obl (by simp only [InK]; omega) ?_
  refine ok_obl rfl ?_
  refine ok_stop ?_
  refine go_quiet (tm' := [(0, vP g), (4, vU (A.ws.getD wd.toNat 0)), (32, .bool false)]) (ps := [g = g, g = g, ((fl + 1) == c.retry) = false]) (cs := []) [(0, .h .w), (1, .h .w), (2, .h .w), (3, .h (.e 0)), (4, .h .w), (5, .h .w), (6, .h .w), (7, .h .w), (8, .h (.e 0)), (9, .h (.t false))] [0, 4, 32] (by kernel_rfl) (by kernel_rfl) ⟨rfl, rfl, (beq_eq_false_iff_ne.2 hr), trivial⟩ trivial ?_
  refine go_exec (rs := []) (by kernel_rfl) 4000 [.z [1, 1, 1, 1] 2 [35, 36]] (o := .stop [.o [1, 1, 1, 1] 2] [(35, vP g), (36, vU (A.ws.getD wd.toNat 0))] [Ef894e g c cl ep sl wd nx sn bk (fl + 1) ((A.load wd).steps) er, Ebed9f ba (A.load wd), E632c4 (A.load wd)]) (by kernel_rfl) ?_
  refine ok_stop ?_
  refine go_call (some 37) [0] Tryz.call137 (gLookN c g cl ep sl wd sn bk (fl + 1) ((A.load wd).steps) nx er (A.ws.getD wd.toNat 0) (by first | assumption | omega | (simp only [InK] at *; omega)) (by first | assumption | omega | (simp only [InK] at *; omega)) (by first | assumption | omega | (simp only [InK] at *; omega)) (by first | assumption | omega | (simp only [InK] at *; omega))) (by kernel_rfl) ?_
  rintro v post ⟨rfl, rfl⟩
  refine go_exec (rs := []) (by kernel_rfl) 4000 [] (o := .ret (undef) [Ebed9f ba (A.load wd), E632c4 (A.load wd), Ef894e g c cl ep sl wd (.func (.func 141) #[vP g] #[]) (A.ws.getD wd.toNat 0) (ctlBlock (A.ws.getD wd.toNat 0)) (fl + 1) ((A.load wd).steps) er]) (by kernel_rfl) ?_
  exact ret_ok (post := [Ef894e g c cl ep sl wd (.func (.func 141) #[vP g] #[]) (A.ws.getD wd.toNat 0) (ctlBlock (A.ws.getD wd.toNat 0)) (fl + 1) ((A.load wd).steps) er, Ebed9f ba (A.load wd), E632c4 (A.load wd)]) [2, 0, 1] (by kernel_rfl) ⟨rfl, (by kernel_rfl)⟩

noncomputable def B84 : Code := (Tryz.f84.body).getD .skip

theorem gDone0 (c : Cfg) (g : Nat) (cl ep sl wd sn bk fl cm : Int) (er : Value)  :
    Ctr Tryz.prog 84 #[vP g] [Ef894e g c cl ep sl wd (.nilFunc) sn bk fl cm er] (Ret (.bool true) [Ef894e g c cl ep sl wd (.nilFunc) sn bk fl cm er]) := by
  refine ctr_of (args := [vP g]) (fn := Tryz.f84) (body := B84) (nt := 12) Tryz.func84 (by kernel_rfl) (by kernel_rfl) ?_
  intro F
  refine go_exec (rs := [.tmp 2]) (by kernel_rfl) 4000 [.e 0] (o := .obl (g = g) (.ret (.bool true) [Ef894e g c cl ep sl wd (.nilFunc) sn bk fl cm er])) (by kernel_rfl) ?_
  refine ok_obl rfl ?_
  exact ret_ok (post := [Ef894e g c cl ep sl wd (.nilFunc) sn bk fl cm er]) [0] (by kernel_rfl) ⟨rfl, (by kernel_rfl)⟩


theorem gDone1 (c : Cfg) (g : Nat) (cl ep sl wd sn bk fl cm : Int) (er : Value)  :
    Ctr Tryz.prog 84 #[vP g] [Ef894e g c cl ep sl wd (.func (.func 128) #[vP g] #[]) sn bk fl cm er] (Ret (.bool false) [Ef894e g c cl ep sl wd (.func (.func 128) #[vP g] #[]) sn bk fl cm er]) := by
  refine ctr_of (args := [vP g]) (fn := Tryz.f84) (body := B84) (nt := 12) Tryz.func84 (by kernel_rfl) (by kernel_rfl) ?_
  intro F
  refine go_exec (rs := [.tmp 2]) (by kernel_rfl) 4000 [.e 0] (o := .obl (g = g) (.ret (.bool false) [Ef894e g c cl ep sl wd (.func (.func 128) #[vP g] #[]) sn bk fl cm er])) (by kernel_rfl) ?_
  refine ok_obl rfl ?_
  exact ret_ok (post := [Ef894e g c cl ep sl wd (.func (.func 128) #[vP g] #[]) sn bk fl cm er]) [0] (by kernel_rfl) ⟨rfl, (by kernel_rfl)⟩


theorem gDone2 (c : Cfg) (g : Nat) (cl ep sl wd sn bk fl cm : Int) (er : Value)  :
    Ctr Tryz.prog 84 #[vP g] [Ef894e g c cl ep sl wd (.func (.func 141) #[vP g] #[]) sn bk fl cm er] (Ret (.bool false) [Ef894e g c cl ep sl wd (.func (.func 141) #[vP g] #[]) sn bk fl cm er]) := by
  refine ctr_of (args := [vP g]) (fn := Tryz.f84) (body := B84) (nt := 12) Tryz.func84 (by kernel_rfl) (by kernel_rfl) ?_
  intro F
  refine go_exec (rs := [.tmp 2]) (by kernel_rfl) 4000 [.e 0] (o := .obl (g = g) (.ret (.bool false) [Ef894e g c cl ep sl wd (.func (.func 141) #[vP g] #[]) sn bk fl cm er])) (by kernel_rfl) ?_
  refine ok_obl rfl ?_
  exact ret_ok (post := [Ef894e g c cl ep sl wd (.func (.func 141) #[vP g] #[]) sn bk fl cm er]) [0] (by kernel_rfl) ⟨rfl, (by kernel_rfl)⟩


theorem gDone3 (c : Cfg) (g : Nat) (cl ep sl wd sn bk fl cm : Int) (er : Value)  :
    Ctr Tryz.prog 84 #[vP g] [Ef894e g c cl ep sl wd (.func (.func 144) #[vP g] #[]) sn bk fl cm er] (Ret (.bool false) [Ef894e g c cl ep sl wd (.func (.func 144) #[vP g] #[]) sn bk fl cm er]) := by
  refine ctr_of (args := [vP g]) (fn := Tryz.f84) (body := B84) (nt := 12) Tryz.func84 (by kernel_rfl) (by kernel_rfl) ?_
  intro F
  refine go_exec (rs := [.tmp 2]) (by kernel_rfl) 4000 [.e 0] (o := .obl (g = g) (.ret (.bool false) [Ef894e g c cl ep sl wd (.func (.func 144) #[vP g] #[]) sn bk fl cm er])) (by kernel_rfl) ?_
  refine ok_obl rfl ?_
  exact ret_ok (post := [Ef894e g c cl ep sl wd (.func (.func 144) #[vP g] #[]) sn bk fl cm er]) [0] (by kernel_rfl) ⟨rfl, (by kernel_rfl)⟩


theorem gDone_nil   :
    Ctr Tryz.prog 84 #[.pointer none] [] (Ret (.bool true) []) := by
  refine ctr_of (args := [.pointer none]) (fn := Tryz.f84) (body := B84) (nt := 12) Tryz.func84 (by kernel_rfl) (by kernel_rfl) ?_
  intro F
  refine go_exec (rs := [.tmp 2]) (by kernel_rfl) 4000 [] (o := .ret (.bool true) []) (by kernel_rfl) ?_
  exact ret_ok (post := []) [] (by kernel_rfl) ⟨rfl, (by kernel_rfl)⟩

noncomputable def B124 : Code := (Tryz.f124.body).getD .skip

theorem gStep0 (c : Cfg) (g ba : Nat) (cl ep sl wd sn bk fl cm : Int) (er : Value) (A : Ar)  :
    Ctr Tryz.prog 124 #[vP g, vP ba] [Ef894e g c cl ep sl wd (.nilFunc) sn bk fl cm er, Ebed9f ba A, E632c4 A] (Ret (.bool true) [Ef894e g c cl ep sl wd (.nilFunc) sn bk fl cm er, Ebed9f ba A, E632c4 A]) := by
  refine ctr_of (args := [vP g, vP ba]) (fn := Tryz.f124) (body := B124) (nt := 16) Tryz.func124 (by kernel_rfl) (by kernel_rfl) ?_
  intro F
  refine go_exec (rs := [.tmp 4]) (by kernel_rfl) 4000 [.z [0, 0, 1] 1 [0, 1, 5]] (o := .stop [.o [0, 0, 1] 1, .c [1, 0, 1], .c [1, 1]] [(0, vP g), (1, vP ba), (5, vP g)] [Ef894e g c cl ep sl wd (.nilFunc) sn bk fl cm er, Ebed9f ba A, E632c4 A]) (by kernel_rfl) ?_
  refine ok_stop ?_
  refine go_call (some 6) [0] Tryz.call84 (gDone0 c g cl ep sl wd sn bk fl cm er) (by kernel_rfl) ?_
  rintro v post ⟨rfl, rfl⟩
  refine go_exec (rs := [.tmp 4]) (by kernel_rfl) 4000 [.z [0, 1, 1] 1 [14]] (o := .stop [.o [0, 1, 1] 1, .c [1, 1, 1]] [(14, vP g)] [Ebed9f ba A, E632c4 A, Ef894e g c cl ep sl wd (.nilFunc) sn bk fl cm er]) (by kernel_rfl) ?_
  refine ok_stop ?_
  refine go_call (some 15) [2] Tryz.call84 (gDone0 c g cl ep sl wd sn bk fl cm er) (by kernel_rfl) ?_
  rintro v post ⟨rfl, rfl⟩
  refine go_exec (rs := [.tmp 4]) (by kernel_rfl) 4000 [] (o := .ret (.bool true) [Ebed9f ba A, E632c4 A, Ef894e g c cl ep sl wd (.nilFunc) sn bk fl cm er]) (by kernel_rfl) ?_
  exact ret_ok (post := [Ef894e g c cl ep sl wd (.nilFunc) sn bk fl cm er, Ebed9f ba A, E632c4 A]) [2, 0, 1] (by kernel_rfl) ⟨rfl, (by kernel_rfl)⟩


theorem gStep1D (c : Cfg) (g ba : Nat) (cl ep sl wd sn bk fl cm : Int) (er : Value) (A : Ar) (hn : A.ws.length = A.n) (hs : 0 ≤ A.steps ∧ A.steps ≤ 1000000000) (hwd : 0 ≤ wd ∧ wd < A.n) (hw : U64 (A.ws.getD wd.toNat 0)) (hl : ctlLive (A.ws.getD wd.toNat 0) = false) :
    Ctr Tryz.prog 124 #[vP g, vP ba] [Ef894e g c cl ep sl wd (.func (.func 128) #[vP g] #[]) sn bk fl cm er, Ebed9f ba A, E632c4 A] (Ret (.bool true) [Ef894e g c cl ep sl wd (.nilFunc) (A.ws.getD wd.toNat 0) 0 fl ((A.load wd).steps) (.iface 46 (vI 22)), Ebed9f ba (A.load wd), E632c4 (A.load wd)]) := by
  refine ctr_of (args := [vP g, vP ba]) (fn := Tryz.f124) (body := B124) (nt := 16) Tryz.func124 (by kernel_rfl) (by kernel_rfl) ?_
  intro F
  refine go_exec (rs := [.tmp 4]) (by kernel_rfl) 4000 [.z [0, 0, 1] 1 [0, 1, 5]] (o := .stop [.o [0, 0, 1] 1, .c [1, 0, 1], .c [1, 1]] [(0, vP g), (1, vP ba), (5, vP g)] [Ef894e g c cl ep sl wd (.func (.func 128) #[vP g] #[]) sn bk fl cm er, Ebed9f ba A, E632c4 A]) (by kernel_rfl) ?_
  refine ok_stop ?_
  refine go_call (some 6) [0] Tryz.call84 (gDone1 c g cl ep sl wd sn bk fl cm er) (by kernel_rfl) ?_
  rintro v post ⟨rfl, rfl⟩
  refine go_exec (rs := [.tmp 4]) (by kernel_rfl) 4000 [.e 2, .z [0, 1, 0, 1] 5 [0, 11, 12]] (o := .obl (g = g) (.stop [.o [0, 1, 0, 1] 5, .c [1, 1]] [(0, vP g), (11, .func (.func 128) #[vP g] #[]), (12, vP ba)] [Ebed9f ba A, E632c4 A, Ef894e g c cl ep sl wd (.func (.func 128) #[vP g] #[]) sn bk fl cm er])) (by kernel_rfl) ?_
  refine ok_obl rfl ?_
  refine ok_stop ?_
  refine go_call (some 13) [2, 0, 1] Tryz.call128 (gFirstD c g ba cl ep sl wd sn bk fl cm (.func (.func 128) #[vP g] #[]) er A (by first | assumption | omega | (simp only [InK] at *; omega)) (by first | assumption | omega | (simp only [InK] at *; omega)) (by first | assumption | omega | (simp only [InK] at *; omega)) (by first | assumption | omega | (simp only [InK] at *; omega)) (by first | assumption | omega | (simp only [InK] at *; omega))) (by kernel_rfl) ?_
  rintro v post ⟨rfl, rfl⟩
  refine go_exec (rs := [.tmp 4]) (by kernel_rfl) 4000 [.z [0, 1, 1] 1 [14]] (o := .stop [.o [0, 1, 1] 1, .c [1, 1, 1]] [(14, vP g)] [Ef894e g c cl ep sl wd (.nilFunc) (A.ws.getD wd.toNat 0) 0 fl ((A.load wd).steps) (.iface 46 (vI 22)), Ebed9f ba (A.load wd), E632c4 (A.load wd)]) (by kernel_rfl) ?_
  refine ok_stop ?_
  refine go_call (some 15) [0] Tryz.call84 (gDone0 c g cl ep sl wd (A.ws.getD wd.toNat 0) 0 fl ((A.load wd).steps) (.iface 46 (vI 22))) (by kernel_rfl) ?_
  rintro v post ⟨rfl, rfl⟩
  refine go_exec (rs := [.tmp 4]) (by kernel_rfl) 4000 [] (o := .ret (.bool true) [Ebed9f ba (A.load wd), E632c4 (A.load wd), Ef894e g c cl ep sl wd (.nilFunc) (A.ws.getD wd.toNat 0) 0 fl ((A.load wd).steps) (.iface 46 (vI 22))]) (by kernel_rfl) ?_
  exact ret_ok (post := [Ef894e g c cl ep sl wd (.nilFunc) (A.ws.getD wd.toNat 0) 0 fl ((A.load wd).steps) (.iface 46 (vI 22)), Ebed9f ba (A.load wd), E632c4 (A.load wd)]) [2, 0, 1] (by kernel_rfl) ⟨rfl, (by kernel_rfl)⟩


theorem gStep1P (c : Cfg) (g ba : Nat) (cl ep sl wd sn bk fl cm : Int) (er : Value) (A : Ar) (hn : A.ws.length = A.n) (hs : 0 ≤ A.steps ∧ A.steps ≤ 1000000000) (hwd : 0 ≤ wd ∧ wd < A.n) (hw : U64 (A.ws.getD wd.toNat 0)) (hl : ctlLive (A.ws.getD wd.toNat 0) = true) (he : ctlEpoch (A.ws.getD wd.toNat 0) ≠ ep) :
    Ctr Tryz.prog 124 #[vP g, vP ba] [Ef894e g c cl ep sl wd (.func (.func 128) #[vP g] #[]) sn bk fl cm er, Ebed9f ba A, E632c4 A] (Ret (.bool true) [Ef894e g c cl ep sl wd (.nilFunc) (A.ws.getD wd.toNat 0) 0 fl ((A.load wd).steps) (.iface 46 (vI 22)), Ebed9f ba (A.load wd), E632c4 (A.load wd)]) := by
  refine ctr_of (args := [vP g, vP ba]) (fn := Tryz.f124) (body := B124) (nt := 16) Tryz.func124 (by kernel_rfl) (by kernel_rfl) ?_
  intro F
  refine go_exec (rs := [.tmp 4]) (by kernel_rfl) 4000 [.z [0, 0, 1] 1 [0, 1, 5]] (o := .stop [.o [0, 0, 1] 1, .c [1, 0, 1], .c [1, 1]] [(0, vP g), (1, vP ba), (5, vP g)] [Ef894e g c cl ep sl wd (.func (.func 128) #[vP g] #[]) sn bk fl cm er, Ebed9f ba A, E632c4 A]) (by kernel_rfl) ?_
  refine ok_stop ?_
  refine go_call (some 6) [0] Tryz.call84 (gDone1 c g cl ep sl wd sn bk fl cm er) (by kernel_rfl) ?_
  rintro v post ⟨rfl, rfl⟩
  refine go_exec (rs := [.tmp 4]) (by kernel_rfl) 4000 [.e 2, .z [0, 1, 0, 1] 5 [0, 11, 12]] (o := .obl (g = g) (.stop [.o [0, 1, 0, 1] 5, .c [1, 1]] [(0, vP g), (11, .func (.func 128) #[vP g] #[]), (12, vP ba)] [Ebed9f ba A, E632c4 A, Ef894e g c cl ep sl wd (.func (.func 128) #[vP g] #[]) sn bk fl cm er])) (by kernel_rfl) ?_
  refine ok_obl rfl ?_
  refine ok_stop ?_
  refine go_call (some 13) [2, 0, 1] Tryz.call128 (gFirstP c g ba cl ep sl wd sn bk fl cm (.func (.func 128) #[vP g] #[]) er A (by first | assumption | omega | (simp only [InK] at *; omega)) (by first | assumption | omega | (simp only [InK] at *; omega)) (by first | assumption | omega | (simp only [InK] at *; omega)) (by first | assumption | omega | (simp only [InK] at *; omega)) (by first | assumption | omega | (simp only [InK] at *; omega)) (by first | assumption | omega | (simp only [InK] at *; omega))) (by kernel_rfl) ?_
  rintro v post ⟨rfl, rfl⟩
  refine go_exec (rs := [.tmp 4]) (by kernel_rfl) 4000 [.z [0, 1, 1] 1 [14]] (o := .stop [.o [0, 1, 1] 1, .c [1, 1, 1]] [(14, vP g)] [Ef894e g c cl ep sl wd (.nilFunc) (A.ws.getD wd.toNat 0) 0 fl ((A.load wd).steps) (.iface 46 (vI 22)), Ebed9f ba (A.load wd), E632c4 (A.load wd)]) (by kernel_rfl) ?_
  refine ok_stop ?_
  refine go_call (some 15) [0] Tryz.call84 (gDone0 c g cl ep sl wd (A.ws.getD wd.toNat 0) 0 fl ((A.load wd).steps) (.iface 46 (vI 22))) (by kernel_rfl) ?_
  rintro v post ⟨rfl, rfl⟩
  refine go_exec (rs := [.tmp 4]) (by kernel_rfl) 4000 [] (o := .ret (.bool true) [Ebed9f ba (A.load wd), E632c4 (A.load wd), Ef894e g c cl ep sl wd (.nilFunc) (A.ws.getD wd.toNat 0) 0 fl ((A.load wd).steps) (.iface 46 (vI 22))]) (by kernel_rfl) ?_
  exact ret_ok (post := [Ef894e g c cl ep sl wd (.nilFunc) (A.ws.getD wd.toNat 0) 0 fl ((A.load wd).steps) (.iface 46 (vI 22)), Ebed9f ba (A.load wd), E632c4 (A.load wd)]) [2, 0, 1] (by kernel_rfl) ⟨rfl, (by kernel_rfl)⟩


theorem gStep1E (c : Cfg) (g ba : Nat) (cl ep sl wd sn bk fl cm : Int) (er : Value) (A : Ar) (hn : A.ws.length = A.n) (hs : 0 ≤ A.steps ∧ A.steps ≤ 1000000000) (hwd : 0 ≤ wd ∧ wd < A.n) (hw : U64 (A.ws.getD wd.toNat 0)) (hl : ctlLive (A.ws.getD wd.toNat 0) = true) (he : ctlEpoch (A.ws.getD wd.toNat 0) = ep) (hb : ctlBlock (A.ws.getD wd.toNat 0) = 0) :
    Ctr Tryz.prog 124 #[vP g, vP ba] [Ef894e g c cl ep sl wd (.func (.func 128) #[vP g] #[]) sn bk fl cm er, Ebed9f ba A, E632c4 A] (Ret (.bool true) [Ef894e g c cl ep sl wd (.nilFunc) (A.ws.getD wd.toNat 0) 0 fl ((A.load wd).steps) (.iface 46 (vI 20)), Ebed9f ba (A.load wd), E632c4 (A.load wd)]) := by
  refine ctr_of (args := [vP g, vP ba]) (fn := Tryz.f124) (body := B124) (nt := 16) Tryz.func124 (by kernel_rfl) (by kernel_rfl) ?_
  intro F
  refine go_exec (rs := [.tmp 4]) (by kernel_rfl) 4000 [.z [0, 0, 1] 1 [0, 1, 5]] (o := .stop [.o [0, 0, 1] 1, .c [1, 0, 1], .c [1, 1]] [(0, vP g), (1, vP ba), (5, vP g)] [Ef894e g c cl ep sl wd (.func (.func 128) #[vP g] #[]) sn bk fl cm er, Ebed9f ba A, E632c4 A]) (by kernel_rfl) ?_
  refine ok_stop ?_
  refine go_call (some 6) [0] Tryz.call84 (gDone1 c g cl ep sl wd sn bk fl cm er) (by kernel_rfl) ?_
  rintro v post ⟨rfl, rfl⟩
  refine go_exec (rs := [.tmp 4]) (by kernel_rfl) 4000 [.e 2, .z [0, 1, 0, 1] 5 [0, 11, 12]] (o := .obl (g = g) (.stop [.o [0, 1, 0, 1] 5, .c [1, 1]] [(0, vP g), (11, .func (.func 128) #[vP g] #[]), (12, vP ba)] [Ebed9f ba A, E632c4 A, Ef894e g c cl ep sl wd (.func (.func 128) #[vP g] #[]) sn bk fl cm er])) (by kernel_rfl) ?_
  refine ok_obl rfl ?_
  refine ok_stop ?_
  refine go_call (some 13) [2, 0, 1] Tryz.call128 (gFirstE c g ba cl ep sl wd sn bk fl cm (.func (.func 128) #[vP g] #[]) er A (by first | assumption | omega | (simp only [InK] at *; omega)) (by first | assumption | omega | (simp only [InK] at *; omega)) (by first | assumption | omega | (simp only [InK] at *; omega)) (by first | assumption | omega | (simp only [InK] at *; omega)) (by first | assumption | omega | (simp only [InK] at *; omega)) (by first | assumption | omega | (simp only [InK] at *; omega)) (by first | assumption | omega | (simp only [InK] at *; omega))) (by kernel_rfl) ?_
  rintro v post ⟨rfl, rfl⟩
  refine go_exec (rs := [.tmp 4]) (by kernel_rfl) 4000 [.z [0, 1, 1] 1 [14]] (o := .stop [.o [0, 1, 1] 1, .c [1, 1, 1]] [(14, vP g)] [Ef894e g c cl ep sl wd (.nilFunc) (A.ws.getD wd.toNat 0) 0 fl ((A.load wd).steps) (.iface 46 (vI 20)), Ebed9f ba (A.load wd), E632c4 (A.load wd)]) (by kernel_rfl) ?_
  refine ok_stop ?_
  refine go_call (some 15) [0] Tryz.call84 (gDone0 c g cl ep sl wd (A.ws.getD wd.toNat 0) 0 fl ((A.load wd).steps) (.iface 46 (vI 20))) (by kernel_rfl) ?_
  rintro v post ⟨rfl, rfl⟩
  refine go_exec (rs := [.tmp 4]) (by kernel_rfl) 4000 [] (o := .ret (.bool true) [Ebed9f ba (A.load wd), E632c4 (A.load wd), Ef894e g c cl ep sl wd (.nilFunc) (A.ws.getD wd.toNat 0) 0 fl ((A.load wd).steps) (.iface 46 (vI 20))]) (by kernel_rfl) ?_
  exact ret_ok (post := [Ef894e g c cl ep sl wd (.nilFunc) (A.ws.getD wd.toNat 0) 0 fl ((A.load wd).steps) (.iface 46 (vI 20)), Ebed9f ba (A.load wd), E632c4 (A.load wd)]) [2, 0, 1] (by kernel_rfl) ⟨rfl, (by kernel_rfl)⟩


theorem gStep1N (c : Cfg) (g ba : Nat) (cl ep sl wd sn bk fl cm : Int) (er : Value) (A : Ar) (hn : A.ws.length = A.n) (hs : 0 ≤ A.steps ∧ A.steps ≤ 1000000000) (hwd : 0 ≤ wd ∧ wd < A.n) (hw : U64 (A.ws.getD wd.toNat 0)) (hl : ctlLive (A.ws.getD wd.toNat 0) = true) (he : ctlEpoch (A.ws.getD wd.toNat 0) = ep) (hb : ctlBlock (A.ws.getD wd.toNat 0) ≠ 0) :
    Ctr Tryz.prog 124 #[vP g, vP ba] [Ef894e g c cl ep sl wd (.func (.func 128) #[vP g] #[]) sn bk fl cm er, Ebed9f ba A, E632c4 A] (Ret (.bool false) [Ef894e g c cl ep sl wd (.func (.func 141) #[vP g] #[]) (A.ws.getD wd.toNat 0) (ctlBlock (A.ws.getD wd.toNat 0)) fl ((A.load wd).steps) er, Ebed9f ba (A.load wd), E632c4 (A.load wd)]) := by
  refine ctr_of (args := [vP g, vP ba]) (fn := Tryz.f124) (body := B124) (nt := 16) Tryz.func124 (by kernel_rfl) (by kernel_rfl) ?_
  intro F
  refine go_exec (rs := [.tmp 4]) (by kernel_rfl) 4000 [.z [0, 0, 1] 1 [0, 1, 5]] (o := .stop [.o [0, 0, 1] 1, .c [1, 0, 1], .c [1, 1]] [(0, vP g), (1, vP ba), (5, vP g)] [Ef894e g c cl ep sl wd (.func (.func 128) #[vP g] #[]) sn bk fl cm er, Ebed9f ba A, E632c4 A]) (by kernel_rfl) ?_
  refine ok_stop ?_
  refine go_call (some 6) [0] Tryz.call84 (gDone1 c g cl ep sl wd sn bk fl cm er) (by kernel_rfl) ?_
  rintro v post ⟨rfl, rfl⟩
  refine go_exec (rs := [.tmp 4]) (by kernel_rfl) 4000 [.e 2, .z [0, 1, 0, 1] 5 [0, 11, 12]] (o := .obl (g = g) (.stop [.o [0, 1, 0, 1] 5, .c [1, 1]] [(0, vP g), (11, .func (.func 128) #[vP g] #[]), (12, vP ba)] [Ebed9f ba A, E632c4 A, Ef894e g c cl ep sl wd (.func (.func 128) #[vP g] #[]) sn bk fl cm er])) (by kernel_rfl) ?_
  refine ok_obl rfl ?_
  refine ok_stop ?_
  refine go_call (some 13) [2, 0, 1] Tryz.call128 (gFirstN c g ba cl ep sl wd sn bk fl cm (.func (.func 128) #[vP g] #[]) er A (by first | assumption | omega | (simp only [InK] at *; omega)) (by first | assumption | omega | (simp only [InK] at *; omega)) (by first | assumption | omega | (simp only [InK] at *; omega)) (by first | assumption | omega | (simp only [InK] at *; omega)) (by first | assumption | omega | (simp only [InK] at *; omega)) (by first | assumption | omega | (simp only [InK] at *; omega)) (by first | assumption | omega | (simp only [InK] at *; omega))) (by kernel_rfl) ?_
  rintro v post ⟨rfl, rfl⟩
  refine go_exec (rs := [.tmp 4]) (by kernel_rfl) 4000 [.z [0, 1, 1] 1 [14]] (o := .stop [.o [0, 1, 1] 1, .c [1, 1, 1]] [(14, vP g)] [Ef894e g c cl ep sl wd (.func (.func 141) #[vP g] #[]) (A.ws.getD wd.toNat 0) (ctlBlock (A.ws.getD wd.toNat 0)) fl ((A.load wd).steps) er, Ebed9f ba (A.load wd), E632c4 (A.load wd)]) (by kernel_rfl) ?_
  refine ok_stop ?_
  refine go_call (some 15) [0] Tryz.call84 (gDone2 c g cl ep sl wd (A.ws.getD wd.toNat 0) (ctlBlock (A.ws.getD wd.toNat 0)) fl ((A.load wd).steps) er) (by kernel_rfl) ?_
  rintro v post ⟨rfl, rfl⟩
  refine go_exec (rs := [.tmp 4]) (by kernel_rfl) 4000 [] (o := .ret (.bool false) [Ebed9f ba (A.load wd), E632c4 (A.load wd), Ef894e g c cl ep sl wd (.func (.func 141) #[vP g] #[]) (A.ws.getD wd.toNat 0) (ctlBlock (A.ws.getD wd.toNat 0)) fl ((A.load wd).steps) er]) (by kernel_rfl) ?_
  exact ret_ok (post := [Ef894e g c cl ep sl wd (.func (.func 141) #[vP g] #[]) (A.ws.getD wd.toNat 0) (ctlBlock (A.ws.getD wd.toNat 0)) fl ((A.load wd).steps) er, Ebed9f ba (A.load wd), E632c4 (A.load wd)]) [2, 0, 1] (by kernel_rfl) ⟨rfl, (by kernel_rfl)⟩


theorem gStep2 (c : Cfg) (g ba : Nat) (cl ep sl wd sn bk fl cm : Int) (er : Value) (A : Ar) (hn : A.ws.length = A.n) (hs : 0 ≤ A.steps ∧ A.steps ≤ 1000000000) (hsl : 0 ≤ sl ∧ sl < A.n) (hcl : 0 ≤ cl ∧ cl ≤ 1000) (hbk : 0 ≤ bk ∧ bk ≤ 65535) :
    Ctr Tryz.prog 124 #[vP g, vP ba] [Ef894e g c cl ep sl wd (.func (.func 141) #[vP g] #[]) sn bk fl cm er, Ebed9f ba A, E632c4 A] (Ret (.bool false) [Ef894e g c cl ep sl wd (.func (.func 144) #[vP g] #[]) sn bk fl cm er, Ebed9f ba (A.store sl (markW cl bk)), E632c4 (A.store sl (markW cl bk))]) := by
  refine ctr_of (args := [vP g, vP ba]) (fn := Tryz.f124) (body := B124) (nt := 16) Tryz.func124 (by kernel_rfl) (by kernel_rfl) ?_
  intro F
  refine go_exec (rs := [.tmp 4]) (by kernel_rfl) 4000 [.z [0, 0, 1] 1 [0, 1, 5]] (o := .stop [.o [0, 0, 1] 1, .c [1, 0, 1], .c [1, 1]] [(0, vP g), (1, vP ba), (5, vP g)] [Ef894e g c cl ep sl wd (.func (.func 141) #[vP g] #[]) sn bk fl cm er, Ebed9f ba A, E632c4 A]) (by kernel_rfl) ?_
  refine ok_stop ?_
  refine go_call (some 6) [0] Tryz.call84 (gDone2 c g cl ep sl wd sn bk fl cm er) (by kernel_rfl) ?_
  rintro v post ⟨rfl, rfl⟩
  refine go_exec (rs := [.tmp 4]) (by kernel_rfl) 4000 [.e 2, .z [0, 1, 0, 1] 5 [0, 11, 12]] (o := .obl (g = g) (.stop [.o [0, 1, 0, 1] 5, .c [1, 1]] [(0, vP g), (11, .func (.func 141) #[vP g] #[]), (12, vP ba)] [Ebed9f ba A, E632c4 A, Ef894e g c cl ep sl wd (.func (.func 141) #[vP g] #[]) sn bk fl cm er])) (by kernel_rfl) ?_
  refine ok_obl rfl ?_
  refine ok_stop ?_
  refine go_call (some 13) [2, 0, 1] Tryz.call141 (gSecond c g ba cl ep sl wd sn bk fl cm (.func (.func 141) #[vP g] #[]) er A (by first | assumption | omega | (simp only [InK] at *; omega)) (by first | assumption | omega | (simp only [InK] at *; omega)) (by first | assumption | omega | (simp only [InK] at *; omega)) (by first | assumption | omega | (simp only [InK] at *; omega)) (by first | assumption | omega | (simp only [InK] at *; omega))) (by kernel_rfl) ?_
  rintro v post ⟨rfl, rfl⟩
  refine go_exec (rs := [.tmp 4]) (by kernel_rfl) 4000 [.z [0, 1, 1] 1 [14]] (o := .stop [.o [0, 1, 1] 1, .c [1, 1, 1]] [(14, vP g)] [Ef894e g c cl ep sl wd (.func (.func 144) #[vP g] #[]) sn bk fl cm er, Ebed9f ba (A.store sl (markW cl bk)), E632c4 (A.store sl (markW cl bk))]) (by kernel_rfl) ?_
  refine ok_stop ?_
  refine go_call (some 15) [0] Tryz.call84 (gDone3 c g cl ep sl wd sn bk fl cm er) (by kernel_rfl) ?_
  rintro v post ⟨rfl, rfl⟩
  refine go_exec (rs := [.tmp 4]) (by kernel_rfl) 4000 [] (o := .ret (.bool false) [Ebed9f ba (A.store sl (markW cl bk)), E632c4 (A.store sl (markW cl bk)), Ef894e g c cl ep sl wd (.func (.func 144) #[vP g] #[]) sn bk fl cm er]) (by kernel_rfl) ?_
  exact ret_ok (post := [Ef894e g c cl ep sl wd (.func (.func 144) #[vP g] #[]) sn bk fl cm er, Ebed9f ba (A.store sl (markW cl bk)), E632c4 (A.store sl (markW cl bk))]) [2, 0, 1] (by kernel_rfl) ⟨rfl, (by kernel_rfl)⟩


theorem gStep3K (c : Cfg) (g ba : Nat) (cl ep sl wd sn bk fl cm : Int) (er : Value) (A : Ar) (hn : A.ws.length = A.n) (hs : 0 ≤ A.steps ∧ A.steps ≤ 1000000000) (hwd : 0 ≤ wd ∧ wd < A.n) (hw : U64 (A.ws.getD wd.toNat 0)) (hf0 : 0 ≤ fl ∧ fl ≤ 1000) (hq : (A.ws.getD wd.toNat 0) = sn) :
    Ctr Tryz.prog 124 #[vP g, vP ba] [Ef894e g c cl ep sl wd (.func (.func 144) #[vP g] #[]) sn bk fl cm er, Ebed9f ba A, E632c4 A] (Ret (.bool true) [E9f3a0 g c cl ep sl wd (.nilFunc) sn bk fl ((A.load wd).steps), Ebed9f ba (A.load wd), E632c4 (A.load wd)]) := by
  refine ctr_of (args := [vP g, vP ba]) (fn := Tryz.f124) (body := B124) (nt := 16) Tryz.func124 (by kernel_rfl) (by kernel_rfl) ?_
  intro F
  refine go_exec (rs := [.tmp 4]) (by kernel_rfl) 4000 [.z [0, 0, 1] 1 [0, 1, 5]] (o := .stop [.o [0, 0, 1] 1, .c [1, 0, 1], .c [1, 1]] [(0, vP g), (1, vP ba), (5, vP g)] [Ef894e g c cl ep sl wd (.func (.func 144) #[vP g] #[]) sn bk fl cm er, Ebed9f ba A, E632c4 A]) (by kernel_rfl) ?_
  refine ok_stop ?_
  refine go_call (some 6) [0] Tryz.call84 (gDone3 c g cl ep sl wd sn bk fl cm er) (by kernel_rfl) ?_
  rintro v post ⟨rfl, rfl⟩
  refine go_exec (rs := [.tmp 4]) (by kernel_rfl) 4000 [.e 2, .z [0, 1, 0, 1] 5 [0, 11, 12]] (o := .obl (g = g) (.stop [.o [0, 1, 0, 1] 5, .c [1, 1]] [(0, vP g), (11, .func (.func 144) #[vP g] #[]), (12, vP ba)] [Ebed9f ba A, E632c4 A, Ef894e g c cl ep sl wd (.func (.func 144) #[vP g] #[]) sn bk fl cm er])) (by kernel_rfl) ?_
  refine ok_obl rfl ?_
  refine ok_stop ?_
  refine go_call (some 13) [2, 0, 1] Tryz.call144 (gThirdK c g ba cl ep sl wd sn bk fl cm (.func (.func 144) #[vP g] #[]) er A (by first | assumption | omega | (simp only [InK] at *; omega)) (by first | assumption | omega | (simp only [InK] at *; omega)) (by first | assumption | omega | (simp only [InK] at *; omega)) (by first | assumption | omega | (simp only [InK] at *; omega)) (by first | assumption | omega | (simp only [InK] at *; omega)) (by first | assumption | omega | (simp only [InK] at *; omega))) (by kernel_rfl) ?_
  rintro v post ⟨rfl, rfl⟩
  refine go_exec (rs := [.tmp 4]) (by kernel_rfl) 4000 [.z [0, 1, 1] 1 [14]] (o := .stop [.o [0, 1, 1] 1, .c [1, 1, 1]] [(14, vP g)] [E9f3a0 g c cl ep sl wd (.nilFunc) sn bk fl ((A.load wd).steps), Ebed9f ba (A.load wd), E632c4 (A.load wd)]) (by kernel_rfl) ?_
  refine ok_stop ?_
  refine go_call (some 15) [0] Tryz.call84 (gDone0 c g cl ep sl wd sn bk fl ((A.load wd).steps) (.nilIface)) (by kernel_rfl) ?_
  rintro v post ⟨rfl, rfl⟩
  refine go_exec (rs := [.tmp 4]) (by kernel_rfl) 4000 [] (o := .ret (.bool true) [Ebed9f ba (A.load wd), E632c4 (A.load wd), E9f3a0 g c cl ep sl wd (.nilFunc) sn bk fl ((A.load wd).steps)]) (by kernel_rfl) ?_
  exact ret_ok (post := [E9f3a0 g c cl ep sl wd (.nilFunc) sn bk fl ((A.load wd).steps), Ebed9f ba (A.load wd), E632c4 (A.load wd)]) [2, 0, 1] (by kernel_rfl) ⟨rfl, (by kernel_rfl)⟩


theorem gStep3R (c : Cfg) (g ba : Nat) (cl ep sl wd sn bk fl cm : Int) (er : Value) (A : Ar) (hn : A.ws.length = A.n) (hs : 0 ≤ A.steps ∧ A.steps ≤ 1000000000) (hwd : 0 ≤ wd ∧ wd < A.n) (hw : U64 (A.ws.getD wd.toNat 0)) (hf0 : 0 ≤ fl ∧ fl ≤ 1000) (hq : (A.ws.getD wd.toNat 0) ≠ sn) (hr : fl + 1 = c.retry) :
    Ctr Tryz.prog 124 #[vP g, vP ba] [Ef894e g c cl ep sl wd (.func (.func 144) #[vP g] #[]) sn bk fl cm er, Ebed9f ba A, E632c4 A] (Ret (.bool true) [Ef894e g c cl ep sl wd (.nilFunc) sn 0 (fl + 1) ((A.load wd).steps) (.iface 46 (vI 17)), Ebed9f ba (A.load wd), E632c4 (A.load wd)]) := by
  refine ctr_of (args := [vP g, vP ba]) (fn := Tryz.f124) (body := B124) (nt := 16) Tryz.func124 (by kernel_rfl) (by kernel_rfl) ?_
  intro F
  refine go_exec (rs := [.tmp 4]) (by kernel_rfl) 4000 [.z [0, 0, 1] 1 [0, 1, 5]] (o := .stop [.o [0, 0, 1] 1, .c [1, 0, 1], .c [1, 1]] [(0, vP g), (1, vP ba), (5, vP g)] [Ef894e g c cl ep sl wd (.func (.func 144) #[vP g] #[]) sn bk fl cm er, Ebed9f ba A, E632c4 A]) (by kernel_rfl) ?_
  refine ok_stop ?_
  refine go_call (some 6) [0] Tryz.call84 (gDone3 c g cl ep sl wd sn bk fl cm er) (by kernel_rfl) ?_
  rintro v post ⟨rfl, rfl⟩
  refine go_exec (rs := [.tmp 4]) (by kernel_rfl) 4000 [.e 2, .z [0, 1, 0, 1] 5 [0, 11, 12]] (o := .obl (g = g) (.stop [.o [0, 1, 0, 1] 5, .c [1, 1]] [(0, vP g), (11, .func (.func 144) #[vP g] #[]), (12, vP ba)] [Ebed9f ba A, E632c4 A, Ef894e g c cl ep sl wd (.func (.func 144) #[vP g] #[]) sn bk fl cm er])) (by kernel_rfl) ?_
  refine ok_obl rfl ?_
  refine ok_stop ?_
  refine go_call (some 13) [2, 0, 1] Tryz.call144 (gThirdR c g ba cl ep sl wd sn bk fl cm (.func (.func 144) #[vP g] #[]) er A (by first | assumption | omega | (simp only [InK] at *; omega)) (by first | assumption | omega | (simp only [InK] at *; omega)) (by first | assumption | omega | (simp only [InK] at *; omega)) (by first | assumption | omega | (simp only [InK] at *; omega)) (by first | assumption | omega | (simp only [InK] at *; omega)) (by first | assumption | omega | (simp only [InK] at *; omega)) (by first | assumption | omega | (simp only [InK] at *; omega))) (by kernel_rfl) ?_
  rintro v post ⟨rfl, rfl⟩
  refine go_exec (rs := [.tmp 4]) (by kernel_rfl) 4000 [.z [0, 1, 1] 1 [14]] (o := .stop [.o [0, 1, 1] 1, .c [1, 1, 1]] [(14, vP g)] [Ef894e g c cl ep sl wd (.nilFunc) sn 0 (fl + 1) ((A.load wd).steps) (.iface 46 (vI 17)), Ebed9f ba (A.load wd), E632c4 (A.load wd)]) (by kernel_rfl) ?_
  refine ok_stop ?_
  refine go_call (some 15) [0] Tryz.call84 (gDone0 c g cl ep sl wd sn 0 (fl + 1) ((A.load wd).steps) (.iface 46 (vI 17))) (by kernel_rfl) ?_
  rintro v post ⟨rfl, rfl⟩
  refine go_exec (rs := [.tmp 4]) (by kernel_rfl) 4000 [] (o := .ret (.bool true) [Ebed9f ba (A.load wd), E632c4 (A.load wd), Ef894e g c cl ep sl wd (.nilFunc) sn 0 (fl + 1) ((A.load wd).steps) (.iface 46 (vI 17))]) (by kernel_rfl) ?_
  exact ret_ok (post := [Ef894e g c cl ep sl wd (.nilFunc) sn 0 (fl + 1) ((A.load wd).steps) (.iface 46 (vI 17)), Ebed9f ba (A.load wd), E632c4 (A.load wd)]) [2, 0, 1] (by kernel_rfl) ⟨rfl, (by kernel_rfl)⟩


theorem gStep3D (c : Cfg) (g ba : Nat) (cl ep sl wd sn bk fl cm : Int) (er : Value) (A : Ar) (hn : A.ws.length = A.n) (hs : 0 ≤ A.steps ∧ A.steps ≤ 1000000000) (hwd : 0 ≤ wd ∧ wd < A.n) (hw : U64 (A.ws.getD wd.toNat 0)) (hf0 : 0 ≤ fl ∧ fl ≤ 1000) (hq : (A.ws.getD wd.toNat 0) ≠ sn) (hr : fl + 1 ≠ c.retry) (hl : ctlLive (A.ws.getD wd.toNat 0) = false) :
    Ctr Tryz.prog 124 #[vP g, vP ba] [Ef894e g c cl ep sl wd (.func (.func 144) #[vP g] #[]) sn bk fl cm er, Ebed9f ba A, E632c4 A] (Ret (.bool true) [Ef894e g c cl ep sl wd (.nilFunc) (A.ws.getD wd.toNat 0) 0 (fl + 1) ((A.load wd).steps) (.iface 46 (vI 22)), Ebed9f ba (A.load wd), E632c4 (A.load wd)]) := by
  refine ctr_of (args := [vP g, vP ba]) (fn := Tryz.f124) (body := B124) (nt := 16) Tryz.func124 (by kernel_rfl) (by kernel_rfl) ?_
  intro F
  refine go_exec (rs := [.tmp 4]) (by kernel_rfl) 4000 [.z [0, 0, 1] 1 [0, 1, 5]] (o := .stop [.o [0, 0, 1] 1, .c [1, 0, 1], .c [1, 1]] [(0, vP g), (1, vP ba), (5, vP g)] [Ef894e g c cl ep sl wd (.func (.func 144) #[vP g] #[]) sn bk fl cm er, Ebed9f ba A, E632c4 A]) (by kernel_rfl) ?_
  refine ok_stop ?_
  refine go_call (some 6) [0] Tryz.call84 (gDone3 c g cl ep sl wd sn bk fl cm er) (by kernel_rfl) ?_
  rintro v post ⟨rfl, rfl⟩
  refine go_exec (rs := [.tmp 4]) (by kernel_rfl) 4000 [.e 2, .z [0, 1, 0, 1] 5 [0, 11, 12]] (o := .obl (g = g) (.stop [.o [0, 1, 0, 1] 5, .c [1, 1]] [(0, vP g), (11, .func (.func 144) #[vP g] #[]), (12, vP ba)] [Ebed9f ba A, E632c4 A, Ef894e g c cl ep sl wd (.func (.func 144) #[vP g] #[]) sn bk fl cm er])) (by kernel_rfl) ?_
  refine ok_obl rfl ?_
  refine ok_stop ?_
  refine go_call (some 13) [2, 0, 1] Tryz.call144 (gThirdD c g ba cl ep sl wd sn bk fl cm (.func (.func 144) #[vP g] #[]) er A (by first | assumption | omega | (simp only [InK] at *; omega)) (by first | assumption | omega | (simp only [InK] at *; omega)) (by first | assumption | omega | (simp only [InK] at *; omega)) (by first | assumption | omega | (simp only [InK] at *; omega)) (by first | assumption | omega | (simp only [InK] at *; omega)) (by first | assumption | omega | (simp only [InK] at *; omega)) (by first | assumption | omega | (simp only [InK] at *; omega)) (by first | assumption | omega | (simp only [InK] at *; omega))) (by kernel_rfl) ?_
  rintro v post ⟨rfl, rfl⟩
  refine go_exec (rs := [.tmp 4]) (by kernel_rfl) 4000 [.z [0, 1, 1] 1 [14]] (o := .stop [.o [0, 1, 1] 1, .c [1, 1, 1]] [(14, vP g)] [Ef894e g c cl ep sl wd (.nilFunc) (A.ws.getD wd.toNat 0) 0 (fl + 1) ((A.load wd).steps) (.iface 46 (vI 22)), Ebed9f ba (A.load wd), E632c4 (A.load wd)]) (by kernel_rfl) ?_
  refine ok_stop ?_
  refine go_call (some 15) [0] Tryz.call84 (gDone0 c g cl ep sl wd (A.ws.getD wd.toNat 0) 0 (fl + 1) ((A.load wd).steps) (.iface 46 (vI 22))) (by kernel_rfl) ?_
  rintro v post ⟨rfl, rfl⟩
  refine go_exec (rs := [.tmp 4]) (by kernel_rfl) 4000 [] (o := .ret (.bool true) [Ebed9f ba (A.load wd), E632c4 (A.load wd), Ef894e g c cl ep sl wd (.nilFunc) (A.ws.getD wd.toNat 0) 0 (fl + 1) ((A.load wd).steps) (.iface 46 (vI 22))]) (by kernel_rfl) ?_
  exact ret_ok (post := [Ef894e g c cl ep sl wd (.nilFunc) (A.ws.getD wd.toNat 0) 0 (fl + 1) ((A.load wd).steps) (.iface 46 (vI 22)), Ebed9f ba (A.load wd), E632c4 (A.load wd)]) [2, 0, 1] (by kernel_rfl) ⟨rfl, (by kernel_rfl)⟩


theorem gStep3P (c : Cfg) (g ba : Nat) (cl ep sl wd sn bk fl cm : Int) (er : Value) (A : Ar) (hn : A.ws.length = A.n) (hs : 0 ≤ A.steps ∧ A.steps ≤ 1000000000) (hwd : 0 ≤ wd ∧ wd < A.n) (hw : U64 (A.ws.getD wd.toNat 0)) (hf0 : 0 ≤ fl ∧ fl ≤ 1000) (hq : (A.ws.getD wd.toNat 0) ≠ sn) (hr : fl + 1 ≠ c.retry) (hl : ctlLive (A.ws.getD wd.toNat 0) = true) (he : ctlEpoch (A.ws.getD wd.toNat 0) ≠ ep) :
    Ctr Tryz.prog 124 #[vP g, vP ba] [Ef894e g c cl ep sl wd (.func (.func 144) #[vP g] #[]) sn bk fl cm er, Ebed9f ba A, E632c4 A] (Ret (.bool true) [Ef894e g c cl ep sl wd (.nilFunc) (A.ws.getD wd.toNat 0) 0 (fl + 1) ((A.load wd).steps) (.iface 46 (vI 22)), Ebed9f ba (A.load wd), E632c4 (A.load wd)]) := by
  refine ctr_of (args := [vP g, vP ba]) (fn := Tryz.f124) (body := B124) (nt := 16) Tryz.func124 (by kernel_rfl) (by kernel_rfl) ?_
  intro F
  refine go_exec (rs := [.tmp 4]) (by kernel_rfl) 4000 [.z [0, 0, 1] 1 [0, 1, 5]] (o := .stop [.o [0, 0, 1] 1, .c [1, 0, 1], .c [1, 1]] [(0, vP g), (1, vP ba), (5, vP g)] [Ef894e g c cl ep sl wd (.func (.func 144) #[vP g] #[]) sn bk fl cm er, Ebed9f ba A, E632c4 A]) (by kernel_rfl) ?_
  refine ok_stop ?_
  refine go_call (some 6) [0] Tryz.call84 (gDone3 c g cl ep sl wd sn bk fl cm er) (by kernel_rfl) ?_
  rintro v post ⟨rfl, rfl⟩
  refine go_exec (rs := [.tmp 4]) (by kernel_rfl) 4000 [.e 2, .z [0, 1, 0, 1] 5 [0, 11, 12]] (o := .obl (g = g) (.stop [.o [0, 1, 0, 1] 5, .c [1, 1]] [(0, vP g), (11, .func (.func 144) #[vP g] #[]), (12, vP ba)] [Ebed9f ba A, E632c4 A, Ef894e g c cl ep sl wd (.func (.func 144) #[vP g] #[]) sn bk fl cm er])) (by kernel_rfl) ?_
  refine ok_obl rfl ?_
  refine ok_stop ?_
  refine go_call (some 13) [2, 0, 1] Tryz.call144 (gThirdP c g ba cl ep sl wd sn bk fl cm (.func (.func 144) #[vP g] #[]) er A (by first | assumption | omega | (simp only [InK] at *; omega)) (by first | assumption | omega | (simp only [InK] at *; omega)) (by first | assumption | omega | (simp only [InK] at *; omega)) (by first | assumption | omega | (simp only [InK] at *; omega)) (by first | assumption | omega | (simp only [InK] at *; omega)) (by first | assumption | omega | (simp only [InK] at *; omega)) (by first | assumption | omega | (simp only [InK] at *; omega)) (by first | assumption | omega | (simp only [InK] at *; omega)) (by first | assumption | omega | (simp only [InK] at *; omega))) (by kernel_rfl) ?_
  rintro v post ⟨rfl, rfl⟩
  refine go_exec (rs := [.tmp 4]) (by kernel_rfl) 4000 [.z [0, 1, 1] 1 [14]] (o := .stop [.o [0, 1, 1] 1, .c [1, 1, 1]] [(14, vP g)] [Ef894e g c cl ep sl wd (.nilFunc) (A.ws.getD wd.toNat 0) 0 (fl + 1) ((A.load wd).steps) (.iface 46 (vI 22)), Ebed9f ba (A.load wd), E632c4 (A.load wd)]) (by kernel_rfl) ?_
  refine ok_stop ?_
  refine go_call (some 15) [0] Tryz.call84 (gDone0 c g cl ep sl wd (A.ws.getD wd.toNat 0) 0 (fl + 1) ((A.load wd).steps) (.iface 46 (vI 22))) (by kernel_rfl) ?_
  rintro v post ⟨rfl, rfl⟩
  refine go_exec (rs := [.tmp 4]) (by kernel_rfl) 4000 [] (o := .ret (.bool true) [Ebed9f ba (A.load wd), E632c4 (A.load wd), Ef894e g c cl ep sl wd (.nilFunc) (A.ws.getD wd.toNat 0) 0 (fl + 1) ((A.load wd).steps) (.iface 46 (vI 22))]) (by kernel_rfl) ?_
  exact ret_ok (post := [Ef894e g c cl ep sl wd (.nilFunc) (A.ws.getD wd.toNat 0) 0 (fl + 1) ((A.load wd).steps) (.iface 46 (vI 22)), Ebed9f ba (A.load wd), E632c4 (A.load wd)]) [2, 0, 1] (by kernel_rfl) ⟨rfl, (by kernel_rfl)⟩


theorem gStep3E (c : Cfg) (g ba : Nat) (cl ep sl wd sn bk fl cm : Int) (er : Value) (A : Ar) (hn : A.ws.length = A.n) (hs : 0 ≤ A.steps ∧ A.steps ≤ 1000000000) (hwd : 0 ≤ wd ∧ wd < A.n) (hw : U64 (A.ws.getD wd.toNat 0)) (hf0 : 0 ≤ fl ∧ fl ≤ 1000) (hq : (A.ws.getD wd.toNat 0) ≠ sn) (hr : fl + 1 ≠ c.retry) (hl : ctlLive (A.ws.getD wd.toNat 0) = true) (he : ctlEpoch (A.ws.getD wd.toNat 0) = ep) (hb : ctlBlock (A.ws.getD wd.toNat 0) = 0) :
    Ctr Tryz.prog 124 #[vP g, vP ba] [Ef894e g c cl ep sl wd (.func (.func 144) #[vP g] #[]) sn bk fl cm er, Ebed9f ba A, E632c4 A] (Ret (.bool true) [Ef894e g c cl ep sl wd (.nilFunc) (A.ws.getD wd.toNat 0) 0 (fl + 1) ((A.load wd).steps) (.iface 46 (vI 20)), Ebed9f ba (A.load wd), E632c4 (A.load wd)]) := by
  refine ctr_of (args := [vP g, vP ba]) (fn := Tryz.f124) (body := B124) (nt := 16) Tryz.func124 (by kernel_rfl) (by kernel_rfl) ?_
  intro F
  refine go_exec (rs := [.tmp 4]) (by kernel_rfl) 4000 [.z [0, 0, 1] 1 [0, 1, 5]] (o := .stop [.o [0, 0, 1] 1, .c [1, 0, 1], .c [1, 1]] [(0, vP g), (1, vP ba), (5, vP g)] [Ef894e g c cl ep sl wd (.func (.func 144) #[vP g] #[]) sn bk fl cm er, Ebed9f ba A, E632c4 A]) (by kernel_rfl) ?_
  refine ok_stop ?_
  refine go_call (some 6) [0] Tryz.call84 (gDone3 c g cl ep sl wd sn bk fl cm er) (by kernel_rfl) ?_
  rintro v post ⟨rfl, rfl⟩
  refine go_exec (rs := [.tmp 4]) (by kernel_rfl) 4000 [.e 2, .z [0, 1, 0, 1] 5 [0, 11, 12]] (o := .obl (g = g) (.stop [.o [0, 1, 0, 1] 5, .c [1, 1]] [(0, vP g), (11, .func (.func 144) #[vP g] #[]), (12, vP ba)] [Ebed9f ba A, E632c4 A, Ef894e g c cl ep sl wd (.func (.func 144) #[vP g] #[]) sn bk fl cm er])) (by kernel_rfl) ?_
  refine ok_obl rfl ?_
  refine ok_stop ?_
  refine go_call (some 13) [2, 0, 1] Tryz.call144 (gThirdE c g ba cl ep sl wd sn bk fl cm (.func (.func 144) #[vP g] #[]) er A (by first | assumption | omega | (simp only [InK] at *; omega)) (by first | assumption | omega | (simp only [InK] at *; omega)) (by first | assumption | omega | (simp only [InK] at *; omega)) (by first | assumption | omega | (simp only [InK] at *; omega)) (by first | assumption | omega | (simp only [InK] at *; omega)) (by first | assumption | omega | (simp only [InK] at *; omega)) (by first | assumption | omega | (simp only [InK] at *; omega)) (by first | assumption | omega | (simp only [InK] at *; omega)) (by first | assumption | omega | (simp only [InK] at *; omega)) (by first | assumption | omega | (simp only [InK] at *; omega))) (by kernel_rfl) ?_
  rintro v post ⟨rfl, rfl⟩
  refine go_exec (rs := [.tmp 4]) (by kernel_rfl) 4000 [.z [0, 1, 1] 1 [14]] (o := .stop [.o [0, 1, 1] 1, .c [1, 1, 1]] [(14, vP g)] [Ef894e g c cl ep sl wd (.nilFunc) (A.ws.getD wd.toNat 0) 0 (fl + 1) ((A.load wd).steps) (.iface 46 (vI 20)), Ebed9f ba (A.load wd), E632c4 (A.load wd)]) (by kernel_rfl) ?_
  refine ok_stop ?_
  refine go_call (some 15) [0] Tryz.call84 (gDone0 c g cl ep sl wd (A.ws.getD wd.toNat 0) 0 (fl + 1) ((A.load wd).steps) (.iface 46 (vI 20))) (by kernel_rfl) ?_
  rintro v post ⟨rfl, rfl⟩
  refine go_exec (rs := [.tmp 4]) (by kernel_rfl) 4000 [] (o := .ret (.bool true) [Ebed9f ba (A.load wd), E632c4 (A.load wd), Ef894e g c cl ep sl wd (.nilFunc) (A.ws.getD wd.toNat 0) 0 (fl + 1) ((A.load wd).steps) (.iface 46 (vI 20))]) (by kernel_rfl) ?_
  exact ret_ok (post := [Ef894e g c cl ep sl wd (.nilFunc) (A.ws.getD wd.toNat 0) 0 (fl + 1) ((A.load wd).steps) (.iface 46 (vI 20)), Ebed9f ba (A.load wd), E632c4 (A.load wd)]) [2, 0, 1] (by kernel_rfl) ⟨rfl, (by kernel_rfl)⟩


theorem gStep3N (c : Cfg) (g ba : Nat) (cl ep sl wd sn bk fl cm : Int) (er : Value) (A : Ar) (hn : A.ws.length = A.n) (hs : 0 ≤ A.steps ∧ A.steps ≤ 1000000000) (hwd : 0 ≤ wd ∧ wd < A.n) (hw : U64 (A.ws.getD wd.toNat 0)) (hf0 : 0 ≤ fl ∧ fl ≤ 1000) (hq : (A.ws.getD wd.toNat 0) ≠ sn) (hr : fl + 1 ≠ c.retry) (hl : ctlLive (A.ws.getD wd.toNat 0) = true) (he : ctlEpoch (A.ws.getD wd.toNat 0) = ep) (hb : ctlBlock (A.ws.getD wd.toNat 0) ≠ 0) :
    Ctr Tryz.prog 124 #[vP g, vP ba] [Ef894e g c cl ep sl wd (.func (.func 144) #[vP g] #[]) sn bk fl cm er, Ebed9f ba A, E632c4 A] (Ret (.bool false) [Ef894e g c cl ep sl wd (.func (.func 141) #[vP g] #[]) (A.ws.getD wd.toNat 0) (ctlBlock (A.ws.getD wd.toNat 0)) (fl + 1) ((A.load wd).steps) er, Ebed9f ba (A.load wd), E632c4 (A.load wd)]) := by
  refine ctr_of (args := [vP g, vP ba]) (fn := Tryz.f124) (body := B124) (nt := 16) Tryz.func124 (by kernel_rfl) (by kernel_rfl) ?_
  intro F
  refine go_exec (rs := [.tmp 4]) (by kernel_rfl) 4000 [.z [0, 0, 1] 1 [0, 1, 5]] (o := .stop [.o [0, 0, 1] 1, .c [1, 0, 1], .c [1, 1]] [(0, vP g), (1, vP ba), (5, vP g)] [Ef894e g c cl ep sl wd (.func (.func 144) #[vP g] #[]) sn bk fl cm er, Ebed9f ba A, E632c4 A]) (by kernel_rfl) ?_
  refine ok_stop ?_
  refine go_call (some 6) [0] Tryz.call84 (gDone3 c g cl ep sl wd sn bk fl cm er) (by kernel_rfl) ?_
  rintro v post ⟨rfl, rfl⟩
  refine go_exec (rs := [.tmp 4]) (by kernel_rfl) 4000 [.e 2, .z [0, 1, 0, 1] 5 [0, 11, 12]] (o := .obl (g = g) (.stop [.o [0, 1, 0, 1] 5, .c [1, 1]] [(0, vP g), (11, .func (.func 144) #[vP g] #[]), (12, vP ba)] [Ebed9f ba A, E632c4 A, Ef894e g c cl ep sl wd (.func (.func 144) #[vP g] #[]) sn bk fl cm er])) (by kernel_rfl) ?_
  refine ok_obl rfl ?_
  refine ok_stop ?_
  refine go_call (some 13) [2, 0, 1] Tryz.call144 (gThirdN c g ba cl ep sl wd sn bk fl cm (.func (.func 144) #[vP g] #[]) er A (by first | assumption | omega | (simp only [InK] at *; omega)) (by first | assumption | omega | (simp only [InK] at *; omega)) (by first | assumption | omega | (simp only [InK] at *; omega)) (by first | assumption | omega | (simp only [InK] at *; omega)) (by first | assumption | omega | (simp only [InK] at *; omega)) (by first | assumption | omega | (simp only [InK] at *; omega)) (by first | assumption | omega | (simp only [InK] at *; omega)) (by first | assumption | omega | (simp only [InK] at *; omega)) (by first | assumption | omega | (simp only [InK] at *; omega)) (by first | assumption | omega | (simp only [InK] at *; omega))) (by kernel_rfl) ?_
  rintro v post ⟨rfl, rfl⟩
  refine go_exec (rs := [.tmp 4]) (by kernel_rfl) 4000 [.z [0, 1, 1] 1 [14]] (o := .stop [.o [0, 1, 1] 1, .c [1, 1, 1]] [(14, vP g)] [Ef894e g c cl ep sl wd (.func (.func 141) #[vP g] #[]) (A.ws.getD wd.toNat 0) (ctlBlock (A.ws.getD wd.toNat 0)) (fl + 1) ((A.load wd).steps) er, Ebed9f ba (A.load wd), E632c4 (A.load wd)]) (by kernel_rfl) ?_
  refine ok_stop ?_
  refine go_call (some 15) [0] Tryz.call84 (gDone2 c g cl ep sl wd (A.ws.getD wd.toNat 0) (ctlBlock (A.ws.getD wd.toNat 0)) (fl + 1) ((A.load wd).steps) er) (by kernel_rfl) ?_
  rintro v post ⟨rfl, rfl⟩
  refine go_exec (rs := [.tmp 4]) (by kernel_rfl) 4000 [] (o := .ret (.bool false) [Ebed9f ba (A.load wd), E632c4 (A.load wd), Ef894e g c cl ep sl wd (.func (.func 141) #[vP g] #[]) (A.ws.getD wd.toNat 0) (ctlBlock (A.ws.getD wd.toNat 0)) (fl + 1) ((A.load wd).steps) er]) (by kernel_rfl) ?_
  exact ret_ok (post := [Ef894e g c cl ep sl wd (.func (.func 141) #[vP g] #[]) (A.ws.getD wd.toNat 0) (ctlBlock (A.ws.getD wd.toNat 0)) (fl + 1) ((A.load wd).steps) er, Ebed9f ba (A.load wd), E632c4 (A.load wd)]) [2, 0, 1] (by kernel_rfl) ⟨rfl, (by kernel_rfl)⟩

end Go.Proofs.YtiiepkjckmdmkaaGreatDoor


namespace Go.Proofs.YtiiepkjckmdmkaaGreatDoor
open Go.Sx
noncomputable abbrev E6f719 (x0 : Nat) (c1 : Cfg) (g2 : Gu) (x3 : Nat) : Ent := .pts x0 [.int .i64 c1.topics, .int .i64 c1.small, .int .i64 c1.slots, .int .i64 c1.clients, .int .i64 c1.s0, .int .i64 c1.n0, .int .i64 c1.s1, .int .i64 c1.n1, .int .i64 c1.retry, .int .i64 g2.client, .int .i64 g2.epoch, .int .i64 g2.slot, .int .i64 g2.word, (nxG x3 g2.ph), .int .u64 g2.seen, .int .i64 g2.block, .int .i64 g2.failed, .int .i64 g2.commit, (errV g2.code)] 153
abbrev q32_0 : List Nat := [0, 0, 1, 1, 1, 0, 0, 1]
abbrev q32_1 : List Nat := [1, 0, 1, 1, 1, 0, 0, 1]

theorem guard_Step (c : Cfg) (g ba : Nat) (G : Gu) (A : Ar) (hc : c.Ok) (hn : A.ws.length = A.n) (hs : 0 ≤ A.steps ∧ A.steps ≤ 1000000000) (hR : RngW A.ws) (hG : Gu.Ok c A.n G) :
    Ctr Tryz.prog 124 #[vP g, vP ba] [E6f719 g c G g, Ebed9f ba A, E632c4 A] (Ret (.bool ((G.step c.retry A).1.ph == 0)) [E6f719 g c ((G.step c.retry A).1) g, Ebed9f ba ((G.step c.retry A).2), E632c4 ((G.step c.retry A).2)]) := by
  obtain ⟨cl, ep, sl, wd, sn, bk, fl, cm, cd, ph⟩ := G
  obtain ⟨hph, hsl, hwd, hcl, hbk, hf0, _⟩ := hG
  simp only at hph hsl hwd hcl hbk hf0
  have hc' := hc
  simp only [Cfg.Ok] at hc'
  have hw : U64 (A.ws.getD wd.toNat 0) := hR _
  match ph, hph with
  | 0, _ => exact gStep0 c g ba cl ep sl wd sn bk fl cm (errV cd) A
  | 1, _ =>
    by_cases hl : ctlLive (A.ws.getD wd.toNat 0) = true
    · by_cases he : ctlEpoch (A.ws.getD wd.toNat 0) = ep
      · by_cases hb : ctlBlock (A.ws.getD wd.toNat 0) = 0
        · have e : Gu.step c.retry (⟨cl, ep, sl, wd, sn, bk, fl, cm, cd, 1⟩ : Gu) A = ((⟨cl, ep, sl, wd, (A.ws.getD wd.toNat 0), 0, fl, (A.load wd).steps, 20, 0⟩ : Gu), A.load wd) := by
            show (Gu.look _ _, _) = _
            rw [Gu.look_E _ hl he hb]
          rw [e]; exact gStep1E c g ba cl ep sl wd sn bk fl cm (errV cd) A hn hs hwd hw hl he hb
        · have e : Gu.step c.retry (⟨cl, ep, sl, wd, sn, bk, fl, cm, cd, 1⟩ : Gu) A = ((⟨cl, ep, sl, wd, (A.ws.getD wd.toNat 0), (ctlBlock (A.ws.getD wd.toNat 0)), fl, (A.load wd).steps, cd, 2⟩ : Gu), A.load wd) := by
            show (Gu.look _ _, _) = _
            rw [Gu.look_N _ hl he hb]
          rw [e]; exact gStep1N c g ba cl ep sl wd sn bk fl cm (errV cd) A hn hs hwd hw hl he hb
      · have e : Gu.step c.retry (⟨cl, ep, sl, wd, sn, bk, fl, cm, cd, 1⟩ : Gu) A = ((⟨cl, ep, sl, wd, (A.ws.getD wd.toNat 0), 0, fl, (A.load wd).steps, 22, 0⟩ : Gu), A.load wd) := by
          show (Gu.look _ _, _) = _
          rw [Gu.look_P _ he]
        rw [e]; exact gStep1P c g ba cl ep sl wd sn bk fl cm (errV cd) A hn hs hwd hw hl he
    · have hl := (Bool.not_eq_true _).mp hl
      have e : Gu.step c.retry (⟨cl, ep, sl, wd, sn, bk, fl, cm, cd, 1⟩ : Gu) A = ((⟨cl, ep, sl, wd, (A.ws.getD wd.toNat 0), 0, fl, (A.load wd).steps, 22, 0⟩ : Gu), A.load wd) := by
        show (Gu.look _ _, _) = _
        rw [Gu.look_D _ hl]
      rw [e]; exact gStep1D c g ba cl ep sl wd sn bk fl cm (errV cd) A hn hs hwd hw hl
  | 2, _ => exact gStep2 c g ba cl ep sl wd sn bk fl cm (errV cd) A hn hs hsl (by omega) hbk
  | 3, _ =>
    by_cases hq : (A.ws.getD wd.toNat 0) = sn
    · have e : Gu.step c.retry (⟨cl, ep, sl, wd, sn, bk, fl, cm, cd, 3⟩ : Gu) A = ((⟨cl, ep, sl, wd, sn, bk, fl, (A.load wd).steps, 0, 0⟩ : Gu), A.load wd) := by
        show (if _ then _ else _) = _
        rw [if_pos hq]
      rw [e]; exact gStep3K c g ba cl ep sl wd sn bk fl cm (errV cd) A hn hs hwd hw hf0 hq
    · by_cases hr : fl + 1 = c.retry
      · have e : Gu.step c.retry (⟨cl, ep, sl, wd, sn, bk, fl, cm, cd, 3⟩ : Gu) A = ((⟨cl, ep, sl, wd, sn, 0, (fl + 1), (A.load wd).steps, 17, 0⟩ : Gu), A.load wd) := by
          show (if _ then _ else _) = _
          rw [if_neg hq, if_pos hr]
        rw [e]; exact gStep3R c g ba cl ep sl wd sn bk fl cm (errV cd) A hn hs hwd hw hf0 hq hr
      · by_cases hl : ctlLive (A.ws.getD wd.toNat 0) = true
        · by_cases he : ctlEpoch (A.ws.getD wd.toNat 0) = ep
          · by_cases hb : ctlBlock (A.ws.getD wd.toNat 0) = 0
            · have e : Gu.step c.retry (⟨cl, ep, sl, wd, sn, bk, fl, cm, cd, 3⟩ : Gu) A = ((⟨cl, ep, sl, wd, (A.ws.getD wd.toNat 0), 0, (fl + 1), (A.load wd).steps, 20, 0⟩ : Gu), A.load wd) := by
                show (if _ then _ else _) = _
                rw [if_neg hq, if_neg hr, Gu.look_E _ hl he hb]
              rw [e]; exact gStep3E c g ba cl ep sl wd sn bk fl cm (errV cd) A hn hs hwd hw hf0 hq hr hl he hb
            · have e : Gu.step c.retry (⟨cl, ep, sl, wd, sn, bk, fl, cm, cd, 3⟩ : Gu) A = ((⟨cl, ep, sl, wd, (A.ws.getD wd.toNat 0), (ctlBlock (A.ws.getD wd.toNat 0)), (fl + 1), (A.load wd).steps, cd, 2⟩ : Gu), A.load wd) := by
                show (if _ then _ else _) = _
                rw [if_neg hq, if_neg hr, Gu.look_N _ hl he hb]
              rw [e]; exact gStep3N c g ba cl ep sl wd sn bk fl cm (errV cd) A hn hs hwd hw hf0 hq hr hl he hb
          · have e : Gu.step c.retry (⟨cl, ep, sl, wd, sn, bk, fl, cm, cd, 3⟩ : Gu) A = ((⟨cl, ep, sl, wd, (A.ws.getD wd.toNat 0), 0, (fl + 1), (A.load wd).steps, 22, 0⟩ : Gu), A.load wd) := by
              show (if _ then _ else _) = _
              rw [if_neg hq, if_neg hr, Gu.look_P _ he]
            rw [e]; exact gStep3P c g ba cl ep sl wd sn bk fl cm (errV cd) A hn hs hwd hw hf0 hq hr hl he
        · have hl := (Bool.not_eq_true _).mp hl
          have e : Gu.step c.retry (⟨cl, ep, sl, wd, sn, bk, fl, cm, cd, 3⟩ : Gu) A = ((⟨cl, ep, sl, wd, (A.ws.getD wd.toNat 0), 0, (fl + 1), (A.load wd).steps, 22, 0⟩ : Gu), A.load wd) := by
            show (if _ then _ else _) = _
            rw [if_neg hq, if_neg hr, Gu.look_D _ hl]
          rw [e]; exact gStep3D c g ba cl ep sl wd sn bk fl cm (errV cd) A hn hs hwd hw hf0 hq hr hl
  | n + 4, h => omega


theorem guard_Done (c : Cfg) (g : Nat) (G : Gu) (hph : G.ph ≤ 3) :
    Ctr Tryz.prog 84 #[vP g] [E6f719 g c G g] (Ret (.bool (G.ph == 0)) [E6f719 g c G g]) := by
  obtain ⟨cl, ep, sl, wd, sn, bk, fl, cm, cd, ph⟩ := G
  simp only at hph
  match ph, hph with
  | 0, _ => exact gDone0 c g cl ep sl wd sn bk fl cm (errV cd)
  | 1, _ => exact gDone1 c g cl ep sl wd sn bk fl cm (errV cd)
  | 2, _ => exact gDone2 c g cl ep sl wd sn bk fl cm (errV cd)
  | 3, _ => exact gDone3 c g cl ep sl wd sn bk fl cm (errV cd)
  | n + 4, h => omega

noncomputable def B125 : Code := (Tryz.f125.body).getD .skip

theorem gTold0 (c : Cfg) (g : Nat) (cl ep sl wd sn bk fl cm : Int) (er : Value)  :
    Ctr Tryz.prog 125 #[vP g] [Ef894e g c cl ep sl wd (.nilFunc) sn bk fl cm er] (Ret (.tuple #[vI bk, er]) [Ef894e g c cl ep sl wd (.nilFunc) sn bk fl cm er]) := by
  refine ctr_of (args := [vP g]) (fn := Tryz.f125) (body := B125) (nt := 21) Tryz.func125 (by kernel_rfl) (by kernel_rfl) ?_
  intro F
  refine go_exec (rs := [.tmp 2, .tmp 3]) (by kernel_rfl) 4000 [.z [0, 1, 1, 0, 0, 1] 1 [0, 9]] (o := .stop [.o [0, 1, 1, 0, 0, 1] 1, .c [1, 1, 1, 0, 0, 1], .b 0, .c [1, 1]] [(0, vP g), (9, vP g)] [Ef894e g c cl ep sl wd (.nilFunc) sn bk fl cm er]) (by kernel_rfl) ?_
  refine ok_stop ?_
  refine go_call (some 10) [0] Tryz.call84 (gDone0 c g cl ep sl wd sn bk fl cm er) (by kernel_rfl) ?_
  rintro v post ⟨rfl, rfl⟩
  refine go_exec (rs := [.tmp 2, .tmp 3]) (by kernel_rfl) 4000 [.z [0, 1, 1] 0 [0]] (o := .stop [.c [0, 1, 1], .c [1, 1, 1]] [(0, vP g)] [Ef894e g c cl ep sl wd (.nilFunc) sn bk fl cm er]) (by kernel_rfl) ?_
  refine ok_stop ?_
  refine go_quiet (tm' := [(2, vI bk), (3, er)]) (ps := [g = g, g = g]) (cs := []) [(0, .h .w), (1, .h .w), (2, .h .w), (3, .h (.e 0)), (4, .h .w), (5, .h .w), (6, .h .w), (7, .h (.e 0)), (8, .h .w), (9, .h .w)] [2, 3] (by kernel_rfl) (by kernel_rfl) ⟨rfl, rfl, trivial⟩ trivial ?_
  refine go_exec (rs := [.tmp 2, .tmp 3]) (by kernel_rfl) 4000 [] (o := .ret (.tuple #[vI bk, er]) [Ef894e g c cl ep sl wd (.nilFunc) sn bk fl cm er]) (by kernel_rfl) ?_
  exact ret_ok (post := [Ef894e g c cl ep sl wd (.nilFunc) sn bk fl cm er]) [0] (by kernel_rfl) ⟨rfl, (by kernel_rfl)⟩


theorem gTold1 (c : Cfg) (g : Nat) (cl ep sl wd sn bk fl cm : Int) (er : Value)  :
    Ctr Tryz.prog 125 #[vP g] [Ef894e g c cl ep sl wd (.func (.func 128) #[vP g] #[]) sn bk fl cm er] (Ret (.tuple #[vI 0, .iface 46 (vI 13)]) [Ef894e g c cl ep sl wd (.func (.func 128) #[vP g] #[]) sn bk fl cm er]) := by
  refine ctr_of (args := [vP g]) (fn := Tryz.f125) (body := B125) (nt := 21) Tryz.func125 (by kernel_rfl) (by kernel_rfl) ?_
  intro F
  refine go_exec (rs := [.tmp 2, .tmp 3]) (by kernel_rfl) 4000 [.z [0, 1, 1, 0, 0, 1] 1 [0, 9]] (o := .stop [.o [0, 1, 1, 0, 0, 1] 1, .c [1, 1, 1, 0, 0, 1], .b 0, .c [1, 1]] [(0, vP g), (9, vP g)] [Ef894e g c cl ep sl wd (.func (.func 128) #[vP g] #[]) sn bk fl cm er]) (by kernel_rfl) ?_
  refine ok_stop ?_
  refine go_call (some 10) [0] Tryz.call84 (gDone1 c g cl ep sl wd sn bk fl cm er) (by kernel_rfl) ?_
  rintro v post ⟨rfl, rfl⟩
  refine go_exec (rs := [.tmp 2, .tmp 3]) (by kernel_rfl) 4000 [.z q32_0 0 []] (o := .stop [.o q32_0 0, .c q32_1, .b 0, .c [1, 1]] [] [Ef894e g c cl ep sl wd (.func (.func 128) #[vP g] #[]) sn bk fl cm er]) (by kernel_rfl) ?_
  refine ok_stop ?_
  refine go_call (some 12) [] Tryz.call36 (cause_NewE 13 (by decide)) (by kernel_rfl) ?_
  rintro v post ⟨rfl, rfl⟩
  refine go_exec (rs := [.tmp 2, .tmp 3]) (by kernel_rfl) 4000 [] (o := .ret (.tuple #[vI 0, .iface 46 (vI 13)]) [Ef894e g c cl ep sl wd (.func (.func 128) #[vP g] #[]) sn bk fl cm er]) (by kernel_rfl) ?_
  exact ret_ok (post := [Ef894e g c cl ep sl wd (.func (.func 128) #[vP g] #[]) sn bk fl cm er]) [0] (by kernel_rfl) ⟨rfl, (by kernel_rfl)⟩


theorem gTold2 (c : Cfg) (g : Nat) (cl ep sl wd sn bk fl cm : Int) (er : Value)  :
    Ctr Tryz.prog 125 #[vP g] [Ef894e g c cl ep sl wd (.func (.func 141) #[vP g] #[]) sn bk fl cm er] (Ret (.tuple #[vI 0, .iface 46 (vI 13)]) [Ef894e g c cl ep sl wd (.func (.func 141) #[vP g] #[]) sn bk fl cm er]) := by
  refine ctr_of (args := [vP g]) (fn := Tryz.f125) (body := B125) (nt := 21) Tryz.func125 (by kernel_rfl) (by kernel_rfl) ?_
  intro F
  refine go_exec (rs := [.tmp 2, .tmp 3]) (by kernel_rfl) 4000 [.z [0, 1, 1, 0, 0, 1] 1 [0, 9]] (o := .stop [.o [0, 1, 1, 0, 0, 1] 1, .c [1, 1, 1, 0, 0, 1], .b 0, .c [1, 1]] [(0, vP g), (9, vP g)] [Ef894e g c cl ep sl wd (.func (.func 141) #[vP g] #[]) sn bk fl cm er]) (by kernel_rfl) ?_
  refine ok_stop ?_
  refine go_call (some 10) [0] Tryz.call84 (gDone2 c g cl ep sl wd sn bk fl cm er) (by kernel_rfl) ?_
  rintro v post ⟨rfl, rfl⟩
  refine go_exec (rs := [.tmp 2, .tmp 3]) (by kernel_rfl) 4000 [.z q32_0 0 []] (o := .stop [.o q32_0 0, .c q32_1, .b 0, .c [1, 1]] [] [Ef894e g c cl ep sl wd (.func (.func 141) #[vP g] #[]) sn bk fl cm er]) (by kernel_rfl) ?_
  refine ok_stop ?_
  refine go_call (some 12) [] Tryz.call36 (cause_NewE 13 (by decide)) (by kernel_rfl) ?_
  rintro v post ⟨rfl, rfl⟩
  refine go_exec (rs := [.tmp 2, .tmp 3]) (by kernel_rfl) 4000 [] (o := .ret (.tuple #[vI 0, .iface 46 (vI 13)]) [Ef894e g c cl ep sl wd (.func (.func 141) #[vP g] #[]) sn bk fl cm er]) (by kernel_rfl) ?_
  exact ret_ok (post := [Ef894e g c cl ep sl wd (.func (.func 141) #[vP g] #[]) sn bk fl cm er]) [0] (by kernel_rfl) ⟨rfl, (by kernel_rfl)⟩


theorem gTold3 (c : Cfg) (g : Nat) (cl ep sl wd sn bk fl cm : Int) (er : Value)  :
    Ctr Tryz.prog 125 #[vP g] [Ef894e g c cl ep sl wd (.func (.func 144) #[vP g] #[]) sn bk fl cm er] (Ret (.tuple #[vI 0, .iface 46 (vI 13)]) [Ef894e g c cl ep sl wd (.func (.func 144) #[vP g] #[]) sn bk fl cm er]) := by
  refine ctr_of (args := [vP g]) (fn := Tryz.f125) (body := B125) (nt := 21) Tryz.func125 (by kernel_rfl) (by kernel_rfl) ?_
  intro F
  refine go_exec (rs := [.tmp 2, .tmp 3]) (by kernel_rfl) 4000 [.z [0, 1, 1, 0, 0, 1] 1 [0, 9]] (o := .stop [.o [0, 1, 1, 0, 0, 1] 1, .c [1, 1, 1, 0, 0, 1], .b 0, .c [1, 1]] [(0, vP g), (9, vP g)] [Ef894e g c cl ep sl wd (.func (.func 144) #[vP g] #[]) sn bk fl cm er]) (by kernel_rfl) ?_
  refine ok_stop ?_
  refine go_call (some 10) [0] Tryz.call84 (gDone3 c g cl ep sl wd sn bk fl cm er) (by kernel_rfl) ?_
  rintro v post ⟨rfl, rfl⟩
  refine go_exec (rs := [.tmp 2, .tmp 3]) (by kernel_rfl) 4000 [.z q32_0 0 []] (o := .stop [.o q32_0 0, .c q32_1, .b 0, .c [1, 1]] [] [Ef894e g c cl ep sl wd (.func (.func 144) #[vP g] #[]) sn bk fl cm er]) (by kernel_rfl) ?_
  refine ok_stop ?_
  refine go_call (some 12) [] Tryz.call36 (cause_NewE 13 (by decide)) (by kernel_rfl) ?_
  rintro v post ⟨rfl, rfl⟩
  refine go_exec (rs := [.tmp 2, .tmp 3]) (by kernel_rfl) 4000 [] (o := .ret (.tuple #[vI 0, .iface 46 (vI 13)]) [Ef894e g c cl ep sl wd (.func (.func 144) #[vP g] #[]) sn bk fl cm er]) (by kernel_rfl) ?_
  exact ret_ok (post := [Ef894e g c cl ep sl wd (.func (.func 144) #[vP g] #[]) sn bk fl cm er]) [0] (by kernel_rfl) ⟨rfl, (by kernel_rfl)⟩


theorem gTold_nil   :
    Ctr Tryz.prog 125 #[.pointer none] [] (Ret (.tuple #[vI 0, .iface 46 (vI 1)]) []) := by
  refine ctr_of (args := [.pointer none]) (fn := Tryz.f125) (body := B125) (nt := 21) Tryz.func125 (by kernel_rfl) (by kernel_rfl) ?_
  intro F
  refine go_exec (rs := [.tmp 2, .tmp 3]) (by kernel_rfl) 4000 [.z [0, 0, 1, 0, 0, 1] 0 []] (o := .stop [.o [0, 0, 1, 0, 0, 1] 0, .c [1, 0, 1, 0, 0, 1], .b 0, .c [1, 1]] [] []) (by kernel_rfl) ?_
  refine ok_stop ?_
  refine go_call (some 7) [] Tryz.call36 (cause_NewE 1 (by decide)) (by kernel_rfl) ?_
  rintro v post ⟨rfl, rfl⟩
  refine go_exec (rs := [.tmp 2, .tmp 3]) (by kernel_rfl) 4000 [] (o := .ret (.tuple #[vI 0, .iface 46 (vI 1)]) []) (by kernel_rfl) ?_
  exact ret_ok (post := []) [] (by kernel_rfl) ⟨rfl, (by kernel_rfl)⟩


theorem guard_Told (c : Cfg) (g : Nat) (G : Gu) (hph : G.ph ≤ 3) :
    Ctr Tryz.prog 125 #[vP g] [E6f719 g c G g] (Ret (.tuple #[vI ((Gu.told G).1), (errV (Gu.told G).2)]) [E6f719 g c G g]) := by
  obtain ⟨cl, ep, sl, wd, sn, bk, fl, cm, cd, ph⟩ := G
  simp only at hph
  match ph, hph with
  | 0, _ => exact gTold0 c g cl ep sl wd sn bk fl cm (errV cd)
  | 1, _ => exact gTold1 c g cl ep sl wd sn bk fl cm (errV cd)
  | 2, _ => exact gTold2 c g cl ep sl wd sn bk fl cm (errV cd)
  | 3, _ => exact gTold3 c g cl ep sl wd sn bk fl cm (errV cd)
  | n + 4, h => omega

noncomputable def B39 : Code := (Tryz.f39.body).getD .skip

theorem gCommit0 (c : Cfg) (g : Nat) (cl ep sl wd sn bk fl cm : Int) (er : Value)  :
    Ctr Tryz.prog 39 #[vP g] [Ef894e g c cl ep sl wd (.nilFunc) sn bk fl cm er] (Ret (vI cm) [Ef894e g c cl ep sl wd (.nilFunc) sn bk fl cm er]) := by
  refine ctr_of (args := [vP g]) (fn := Tryz.f39) (body := B39) (nt := 14) Tryz.func39 (by kernel_rfl) (by kernel_rfl) ?_
  intro F
  refine go_exec (rs := [.tmp 2]) (by kernel_rfl) 4000 [.z [0, 0, 1] 4 [0, 5, 6]] (o := .stop [.o [0, 0, 1] 4, .c [1, 0, 1], .c [1, 1]] [(0, vP g), (5, .bool false), (6, vP g)] [Ef894e g c cl ep sl wd (.nilFunc) sn bk fl cm er]) (by kernel_rfl) ?_
  refine ok_stop ?_
  refine go_call (some 7) [0] Tryz.call84 (gDone0 c g cl ep sl wd sn bk fl cm er) (by kernel_rfl) ?_
  rintro v post ⟨rfl, rfl⟩
  refine go_exec (rs := [.tmp 2]) (by kernel_rfl) 4000 [.e 0] (o := .obl (g = g) (.ret (vI cm) [Ef894e g c cl ep sl wd (.nilFunc) sn bk fl cm er])) (by kernel_rfl) ?_
  refine ok_obl rfl ?_
  exact ret_ok (post := [Ef894e g c cl ep sl wd (.nilFunc) sn bk fl cm er]) [0] (by kernel_rfl) ⟨rfl, (by kernel_rfl)⟩


theorem gCommit1 (c : Cfg) (g : Nat) (cl ep sl wd sn bk fl cm : Int) (er : Value)  :
    Ctr Tryz.prog 39 #[vP g] [Ef894e g c cl ep sl wd (.func (.func 128) #[vP g] #[]) sn bk fl cm er] (Ret (vI 0) [Ef894e g c cl ep sl wd (.func (.func 128) #[vP g] #[]) sn bk fl cm er]) := by
  refine ctr_of (args := [vP g]) (fn := Tryz.f39) (body := B39) (nt := 14) Tryz.func39 (by kernel_rfl) (by kernel_rfl) ?_
  intro F
  refine go_exec (rs := [.tmp 2]) (by kernel_rfl) 4000 [.z [0, 0, 1] 4 [0, 5, 6]] (o := .stop [.o [0, 0, 1] 4, .c [1, 0, 1], .c [1, 1]] [(0, vP g), (5, .bool false), (6, vP g)] [Ef894e g c cl ep sl wd (.func (.func 128) #[vP g] #[]) sn bk fl cm er]) (by kernel_rfl) ?_
  refine ok_stop ?_
  refine go_call (some 7) [0] Tryz.call84 (gDone1 c g cl ep sl wd sn bk fl cm er) (by kernel_rfl) ?_
  rintro v post ⟨rfl, rfl⟩
  refine go_exec (rs := [.tmp 2]) (by kernel_rfl) 4000 [] (o := .ret (vI 0) [Ef894e g c cl ep sl wd (.func (.func 128) #[vP g] #[]) sn bk fl cm er]) (by kernel_rfl) ?_
  exact ret_ok (post := [Ef894e g c cl ep sl wd (.func (.func 128) #[vP g] #[]) sn bk fl cm er]) [0] (by kernel_rfl) ⟨rfl, (by kernel_rfl)⟩


theorem gCommit2 (c : Cfg) (g : Nat) (cl ep sl wd sn bk fl cm : Int) (er : Value)  :
    Ctr Tryz.prog 39 #[vP g] [Ef894e g c cl ep sl wd (.func (.func 141) #[vP g] #[]) sn bk fl cm er] (Ret (vI 0) [Ef894e g c cl ep sl wd (.func (.func 141) #[vP g] #[]) sn bk fl cm er]) := by
  refine ctr_of (args := [vP g]) (fn := Tryz.f39) (body := B39) (nt := 14) Tryz.func39 (by kernel_rfl) (by kernel_rfl) ?_
  intro F
  refine go_exec (rs := [.tmp 2]) (by kernel_rfl) 4000 [.z [0, 0, 1] 4 [0, 5, 6]] (o := .stop [.o [0, 0, 1] 4, .c [1, 0, 1], .c [1, 1]] [(0, vP g), (5, .bool false), (6, vP g)] [Ef894e g c cl ep sl wd (.func (.func 141) #[vP g] #[]) sn bk fl cm er]) (by kernel_rfl) ?_
  refine ok_stop ?_
  refine go_call (some 7) [0] Tryz.call84 (gDone2 c g cl ep sl wd sn bk fl cm er) (by kernel_rfl) ?_
  rintro v post ⟨rfl, rfl⟩
  refine go_exec (rs := [.tmp 2]) (by kernel_rfl) 4000 [] (o := .ret (vI 0) [Ef894e g c cl ep sl wd (.func (.func 141) #[vP g] #[]) sn bk fl cm er]) (by kernel_rfl) ?_
  exact ret_ok (post := [Ef894e g c cl ep sl wd (.func (.func 141) #[vP g] #[]) sn bk fl cm er]) [0] (by kernel_rfl) ⟨rfl, (by kernel_rfl)⟩


theorem gCommit3 (c : Cfg) (g : Nat) (cl ep sl wd sn bk fl cm : Int) (er : Value)  :
    Ctr Tryz.prog 39 #[vP g] [Ef894e g c cl ep sl wd (.func (.func 144) #[vP g] #[]) sn bk fl cm er] (Ret (vI 0) [Ef894e g c cl ep sl wd (.func (.func 144) #[vP g] #[]) sn bk fl cm er]) := by
  refine ctr_of (args := [vP g]) (fn := Tryz.f39) (body := B39) (nt := 14) Tryz.func39 (by kernel_rfl) (by kernel_rfl) ?_
  intro F
  refine go_exec (rs := [.tmp 2]) (by kernel_rfl) 4000 [.z [0, 0, 1] 4 [0, 5, 6]] (o := .stop [.o [0, 0, 1] 4, .c [1, 0, 1], .c [1, 1]] [(0, vP g), (5, .bool false), (6, vP g)] [Ef894e g c cl ep sl wd (.func (.func 144) #[vP g] #[]) sn bk fl cm er]) (by kernel_rfl) ?_
  refine ok_stop ?_
  refine go_call (some 7) [0] Tryz.call84 (gDone3 c g cl ep sl wd sn bk fl cm er) (by kernel_rfl) ?_
  rintro v post ⟨rfl, rfl⟩
  refine go_exec (rs := [.tmp 2]) (by kernel_rfl) 4000 [] (o := .ret (vI 0) [Ef894e g c cl ep sl wd (.func (.func 144) #[vP g] #[]) sn bk fl cm er]) (by kernel_rfl) ?_
  exact ret_ok (post := [Ef894e g c cl ep sl wd (.func (.func 144) #[vP g] #[]) sn bk fl cm er]) [0] (by kernel_rfl) ⟨rfl, (by kernel_rfl)⟩


theorem gCommit_nil   :
    Ctr Tryz.prog 39 #[.pointer none] [] (Ret (vI 0) []) := by
  refine ctr_of (args := [.pointer none]) (fn := Tryz.f39) (body := B39) (nt := 14) Tryz.func39 (by kernel_rfl) (by kernel_rfl) ?_
  intro F
  refine go_exec (rs := [.tmp 2]) (by kernel_rfl) 4000 [] (o := .ret (vI 0) []) (by kernel_rfl) ?_
  exact ret_ok (post := []) [] (by kernel_rfl) ⟨rfl, (by kernel_rfl)⟩


theorem guard_Commit (c : Cfg) (g : Nat) (G : Gu) (hph : G.ph ≤ 3) :
    Ctr Tryz.prog 39 #[vP g] [E6f719 g c G g] (Ret (vI (Gu.comm G)) [E6f719 g c G g]) := by
  obtain ⟨cl, ep, sl, wd, sn, bk, fl, cm, cd, ph⟩ := G
  simp only at hph
  match ph, hph with
  | 0, _ => exact gCommit0 c g cl ep sl wd sn bk fl cm (errV cd)
  | 1, _ => exact gCommit1 c g cl ep sl wd sn bk fl cm (errV cd)
  | 2, _ => exact gCommit2 c g cl ep sl wd sn bk fl cm (errV cd)
  | 3, _ => exact gCommit3 c g cl ep sl wd sn bk fl cm (errV cd)
  | n + 4, h => omega

noncomputable def B94 : Code := (Tryz.f94.body).getD .skip

theorem guard_New (c : Cfg) (cl sl tp ep : Int) (hc : c.Ok) (hcl : 0 ≤ cl ∧ cl < c.clients) (hsl : 0 ≤ sl ∧ sl < c.slots) (htp : 0 ≤ tp ∧ tp < c.topics) :
    Ctr Tryz.prog 94 #[cfgV c, vI cl, vI sl, vI tp, vI ep] [] (fun v L => ∃ (g : Nat), v = vP g ∧ L = [E6f719 g c (newGu c cl sl tp ep) g]) := by
  refine ctr_of (args := [cfgV c, vI cl, vI sl, vI tp, vI ep]) (fn := Tryz.f94) (body := B94) (nt := 46) Tryz.func94 (by kernel_rfl) (by kernel_rfl) ?_
  intro F
  refine go_exec (rs := [.tmp 10]) (by kernel_rfl) 4000 [.z [0, 1] 0 [1, 2, 3, 4, 5]] (o := .new fun b_1 => .stop [.c [0, 1], .c [1, 1]] [(1, vI cl), (2, vI sl), (3, vI tp), (4, vI ep), (5, vP b_1)] [Efdc04 b_1 c]) (by kernel_rfl) ?_
  refine ok_new fun b_1 => ?_
  refine ok_stop ?_
  refine go_tail_op (so := .new fun b_2 => .ok (.value (vP b_2)) [Efdc04 b_1 c, E9f3a0 b_2 c cl ep (slotAt c sl) (ctlAt c tp) (.nilFunc) 0 0 0 0]) (dst := (some 22)) (ps := [b_1 = b_1, b_1 = b_1, b_1 = b_1]) (cs := [(24, #[cfgV c, vI sl], vI (slotAt c sl)), (21, #[cfgV c, vI tp], vI (ctlAt c tp))]) [(0, .h (.e 0)), (1, .h .w), (2, .h .w), (3, .h (.e 0)), (4, .h .w), (5, .q (vI (slotAt c sl))), (6, .h (.e 0)), (7, .h .w), (8, .q (vI (ctlAt c tp))), (9, .h .w)] 10 [(11, .h .w)] .w [1, 5, 11] (by kernel_rfl) (by kernel_rfl) ⟨rfl, rfl, rfl, trivial⟩ ⟨⟨Tryz.call24, quiet_of [] (plan_Slot c sl (by first | assumption | omega | (simp only [InK] at *; omega))) (by kernel_rfl) (by rintro v post ⟨rfl, rfl⟩; exact ⟨rfl, rfl⟩)⟩, ⟨Tryz.call21, quiet_of [] (plan_Control c tp (by first | assumption | omega | (simp only [InK] at *; omega))) (by kernel_rfl) (by rintro v post ⟨rfl, rfl⟩; exact ⟨rfl, rfl⟩)⟩, trivial⟩ ?_
  refine sat_new fun b_2 => ?_
  refine sat_value ?_
  refine tail_next (tm' := [(1, vI cl), (5, vP b_1), (11, vP b_2)]) (ps2 := []) (by kernel_rfl) trivial ?_
  refine go_exec (rs := [.tmp 10]) (by kernel_rfl) 4000 [.z [0, 0, 1, 1] 0 [1, 5, 11]] (o := .stop [.c [0, 0, 1, 1], .c [1, 0, 1, 1], .c [1, 1, 1]] [(1, vI cl), (5, vP b_1), (11, vP b_2)] [Efdc04 b_1 c, E9f3a0 b_2 c cl ep (slotAt c sl) (ctlAt c tp) (.nilFunc) 0 0 0 0]) (by kernel_rfl) ?_
  refine ok_stop ?_
  refine go_quiet (tm' := [(11, vP b_2), (39, .bool false)]) (ps := [b_2 = b_2, b_2 = b_2, (decide ((bMin (bMin (slotAt c sl) (ctlAt c tp)) cl) < 0)) = false, b_1 = b_1, (decide (cl ≥ c.clients)) = false]) (cs := []) [(0, .h .w), (1, .h .w), (2, .h .w), (3, .h (.e 1)), (4, .h .w), (5, .h .w), (6, .h .w), (7, .h (.e 1)), (8, .h .w), (9, .h .w), (10, .h (.t false)), (11, .h .w), (12, .h .w), (13, .h .w), (14, .h (.e 0)), (15, .h (.t false)), (16, .h .w)] [11, 39] (by kernel_rfl) (by kernel_rfl) ⟨rfl, rfl, (decide_eq_false (by have h1 := ctlAt_pos hc htp; have h2 := slotAt_ok hc hsl; unfold bMin; (repeat' split) <;> omega)), rfl, (decide_eq_false (by omega)), trivial⟩ trivial ?_
  refine go_exec (rs := [.tmp 10]) (by kernel_rfl) 4000 [.e 1] (o := .obl (b_2 = b_2) (.ret (vP b_2) [Efdc04 b_1 c, E9f3a0 b_2 c cl ep (slotAt c sl) (ctlAt c tp) (.func (.func 128) #[vP b_2] #[]) 0 0 0 0])) (by kernel_rfl) ?_
  refine ok_obl rfl ?_
  exact ret_ok (post := [E9f3a0 b_2 c cl ep (slotAt c sl) (ctlAt c tp) (.func (.func 128) #[vP b_2] #[]) 0 0 0 0]) [1] (by kernel_rfl) ⟨b_2, rfl, (by kernel_rfl)⟩

end Go.Proofs.YtiiepkjckmdmkaaGreatDoor


namespace Go.Proofs.YtiiepkjckmdmkaaGreatDoor
open Go.Sx
abbrev E33322 (x0 : Nat) (c1 : Cfg) (x2 : Int) (x3 : Int) (x4 : Int) : Ent := .pts x0 [.int .i64 c1.topics, .int .i64 c1.small, .int .i64 c1.slots, .int .i64 c1.clients, .int .i64 c1.s0, .int .i64 c1.n0, .int .i64 c1.s1, .int .i64 c1.n1, .int .i64 c1.retry, .int .i64 x2, .int .i64 x3, .int .i64 x4] 160
abbrev E85b39 (x0 : Nat) (c1 : Cfg) (c2 : Cl) : Ent := .pts x0 [.int .i64 c1.topics, .int .i64 c1.small, .int .i64 c1.slots, .int .i64 c1.clients, .int .i64 c1.s0, .int .i64 c1.n0, .int .i64 c1.s1, .int .i64 c1.n1, .int .i64 c1.retry, .int .i64 c2.client, .int .i64 c2.at_, .int .i64 c2.slot] 160
abbrev q50_0 : List Nat := [0, 0, 0, 1, 1, 1, 1]
abbrev q50_1 : List Nat := [1, 0, 0, 1, 1, 1, 1]
abbrev q50_2 : List Nat := [0, 1, 1, 0, 0, 1, 1, 1, 1]
abbrev q50_3 : List Nat := [1, 1, 1, 0, 0, 1, 1, 1, 1]
noncomputable def B121 : Code := (Tryz.f121.body).getD .skip

theorem claim_Done (c : Cfg) (k : Nat) (cl at_ sl : Int)  :
    Ctr Tryz.prog 121 #[vP k] [E33322 k c cl at_ sl] (Ret (.bool (at_ == -1)) [E33322 k c cl at_ sl]) := by
  refine ctr_of (args := [vP k]) (fn := Tryz.f121) (body := B121) (nt := 12) Tryz.func121 (by kernel_rfl) (by kernel_rfl) ?_
  intro F
  refine go_exec (rs := [.tmp 2]) (by kernel_rfl) 4000 [.e 0] (o := .obl (k = k) (.ret (.bool (at_ == (-1))) [E33322 k c cl at_ sl])) (by kernel_rfl) ?_
  refine ok_obl rfl ?_
  exact ret_ok (post := [E33322 k c cl at_ sl]) [0] (by kernel_rfl) ⟨(congrArg Value.bool (by first | rfl | (simp; done) | (simp; omega))), (by kernel_rfl)⟩

noncomputable def B92 : Code := (Tryz.f92.body).getD .skip

theorem claim_Slot (c : Cfg) (k : Nat) (K : Cl) (hd : K.at_ = -1) :
    Ctr Tryz.prog 92 #[vP k] [E85b39 k c K] (Ret (vI K.slot) [E85b39 k c K]) := by
  refine ctr_of (args := [vP k]) (fn := Tryz.f92) (body := B92) (nt := 14) Tryz.func92 (by kernel_rfl) (by kernel_rfl) ?_
  intro F
  refine go_exec (rs := [.tmp 2]) (by kernel_rfl) 4000 [.z [0, 0, 1] 4 [0, 5, 6]] (o := .stop [.o [0, 0, 1] 4, .c [1, 0, 1], .c [1, 1]] [(0, vP k), (5, .bool false), (6, vP k)] [E85b39 k c K]) (by kernel_rfl) ?_
  refine ok_stop ?_
  refine go_call (some 7) [0] Tryz.call121 (claim_Done c k K.client K.at_ K.slot) (by kernel_rfl) ?_
  rintro v post ⟨rfl, rfl⟩
  refine go_exec (rs := [.tmp 2]) (by kernel_rfl) 4000 [.sp [9, 8] [.dead] [.e 0]] (o := .obl ((!(K.at_ == -1)) = (!(K.at_ == -1))) (.br (!(K.at_ == -1)) (.bad) (.obl (k = k) (.ret (vI K.slot) [E85b39 k c K])))) (by kernel_rfl) ?_
  refine ok_obl rfl ?_
  refine ok_br (fun h => absurd (show (!(K.at_ == -1)) = false from (by simp [hd])) (by rw [h]; simp)) (fun _ => ?_)
  refine ok_obl rfl ?_
  exact ret_ok (post := [E85b39 k c K]) [0] (by kernel_rfl) ⟨rfl, (by kernel_rfl)⟩

noncomputable def B91 : Code := (Tryz.f91.body).getD .skip

theorem kStepD (c : Cfg) (k ba : Nat) (cl at_ sl : Int) (A : Ar) (hc : c.Ok) (hn : A.ws.length = A.n) (hs : 0 ≤ A.steps ∧ A.steps ≤ 1000000000) (hcl : 0 ≤ cl ∧ cl ≤ 1000) (ha : at_ = -1) :
    Ctr Tryz.prog 91 #[vP k, vP ba] [E33322 k c cl at_ sl, Ebed9f ba A, E632c4 A] (Ret (.bool true) [E33322 k c cl at_ sl, Ebed9f ba A, E632c4 A]) := by
  refine ctr_of (args := [vP k, vP ba]) (fn := Tryz.f91) (body := B91) (nt := 56) Tryz.func91 (by kernel_rfl) (by kernel_rfl) ?_
  intro F
  refine go_exec (rs := [.tmp 4]) (by kernel_rfl) 4000 [.z [0, 0, 1] 1 [0, 1, 6]] (o := .stop [.o [0, 0, 1] 1, .c [1, 0, 1], .c [1, 1]] [(0, vP k), (1, vP ba), (6, vP k)] [E33322 k c cl at_ sl, Ebed9f ba A, E632c4 A]) (by kernel_rfl) ?_
  refine ok_stop ?_
  refine go_call (some 7) [0] Tryz.call121 (claim_Done c k cl at_ sl) (by kernel_rfl) ?_
  rintro v post ⟨rfl, rfl⟩
  refine go_exec (rs := [.tmp 4]) (by kernel_rfl) 4000 [.sp [7] [] [.dead]] (o := .br (at_ == -1) (.ret (.bool true) [Ebed9f ba A, E632c4 A, E33322 k c cl at_ sl]) (.bad)) (by kernel_rfl) ?_
  refine ok_br (fun _ => ?_) (fun h => absurd (show (at_ == -1) = true from (by simp [ha])) (by rw [h]; simp))
  exact ret_ok (post := [E33322 k c cl at_ sl, Ebed9f ba A, E632c4 A]) [2, 0, 1] (by kernel_rfl) ⟨rfl, (by kernel_rfl)⟩


theorem kStepT (c : Cfg) (k ba : Nat) (cl at_ sl : Int) (A : Ar) (hc : c.Ok) (hn : A.ws.length = A.n) (hs : 0 ≤ A.steps ∧ A.steps ≤ 1000000000) (hcl : 0 ≤ cl ∧ cl ≤ 1000) (ha : 0 ≤ at_ ∧ at_ < c.slots) (hi : 0 ≤ slotAt c at_ ∧ slotAt c at_ < A.n) (hw : (A.ws.getD (slotAt c at_).toNat 0) = 0) :
    Ctr Tryz.prog 91 #[vP k, vP ba] [E33322 k c cl at_ sl, Ebed9f ba A, E632c4 A] (Ret (.bool true) [E33322 k c cl (-1) at_, Ebed9f ba (A.swapT (slotAt c at_) (markW cl 0)), E632c4 (A.swapT (slotAt c at_) (markW cl 0))]) := by
  refine ctr_of (args := [vP k, vP ba]) (fn := Tryz.f91) (body := B91) (nt := 56) Tryz.func91 (by kernel_rfl) (by kernel_rfl) ?_
  intro F
  refine go_exec (rs := [.tmp 4]) (by kernel_rfl) 4000 [.z [0, 0, 1] 1 [0, 1, 6]] (o := .stop [.o [0, 0, 1] 1, .c [1, 0, 1], .c [1, 1]] [(0, vP k), (1, vP ba), (6, vP k)] [E33322 k c cl at_ sl, Ebed9f ba A, E632c4 A]) (by kernel_rfl) ?_
  refine ok_stop ?_
  refine go_call (some 7) [0] Tryz.call121 (claim_Done c k cl at_ sl) (by kernel_rfl) ?_
  rintro v post ⟨rfl, rfl⟩
  refine go_exec (rs := [.tmp 4]) (by kernel_rfl) 4000 [.sp [7] [.dead] [.e 2, .e 2, .n, .e 2, .z q50_0 0 [0, 1, 5]]] (o := .br (at_ == -1) (.bad) (.obl (k = k) (.obl (k = k) (.obl (InK .i64 (at_ + 1)) (.obl (k = k) (.stop [.c q50_0, .c q50_1, .b 0, .c [1, 1, 1, 1, 1]] [(0, vP k), (1, vP ba), (5, vI at_)] [Ebed9f ba A, E632c4 A, E33322 k c cl (at_ + 1) sl])))))) (by kernel_rfl) ?_
  refine ok_br (fun h => absurd (show (at_ == -1) = false from (by simp; omega)) (by rw [h]; simp)) (fun _ => ?_)
  refine ok_obl rfl ?_
  refine ok_obl rfl ?_
  refine ok_obl (by simp only [Cfg.Ok, InK] at *; omega) ?_
  refine ok_obl rfl ?_
  refine ok_stop ?_
  refine go_tail_call (dst := (some 32)) (ps := [k = k, k = k]) (cs := [(24, #[cfgV c, vI at_], vI (slotAt c at_)), (123, #[vI cl, vI 0], vU (markW cl 0))]) [(0, .h .w), (1, .h .w), (2, .h .w), (3, .h .w), (4, .h (.e 2)), (5, .h .w), (6, .q (vI (slotAt c at_))), (7, .h .w), (8, .h .w), (9, .h .w), (10, .h (.e 2)), (11, .q (vU (markW cl 0)))] 12 [(13, .h .w)] [0, 1] [0, 5, 19] (by kernel_rfl) Tryz.call122 (arena_SwapT ba A (slotAt c at_) 0 (markW cl 0) (by first | assumption | omega | (simp only [InK] at *; omega)) hi (by first | assumption | omega | (simp only [InK] at *; omega)) hw) (by kernel_rfl) ⟨rfl, rfl, trivial⟩ ⟨⟨Tryz.call24, quiet_of [] (plan_Slot c at_ hc) (by kernel_rfl) (by rintro v post ⟨rfl, rfl⟩; exact ⟨rfl, rfl⟩)⟩, ⟨Tryz.call123, quiet_of [] (slots_Mark cl 0 (by omega) (by decide)) (by kernel_rfl) (by rintro v post ⟨rfl, rfl⟩; exact ⟨rfl, rfl⟩)⟩, trivial⟩ ?_
  rintro v post ⟨rfl, rfl⟩
  refine tail_next (tm' := [(0, vP k), (5, vI at_), (19, .bool true)]) (ps2 := []) (by kernel_rfl) trivial ?_
  refine go_exec (rs := [.tmp 4]) (by kernel_rfl) 4000 [.e 0, .e 0, .z [0, 1, 1, 1, 1, 1] 1 [54]] (o := .obl (k = k) (.obl (k = k) (.stop [.o [0, 1, 1, 1, 1, 1] 1, .c [1, 1, 1, 1, 1, 1]] [(54, vP k)] [E33322 k c cl (-1) at_, Ebed9f ba (A.swapT (slotAt c at_) (markW cl 0)), E632c4 (A.swapT (slotAt c at_) (markW cl 0))]))) (by kernel_rfl) ?_
  refine ok_obl rfl ?_
  refine ok_obl rfl ?_
  refine ok_stop ?_
  refine go_call (some 55) [0] Tryz.call121 (claim_Done c k cl (-1) at_) (by kernel_rfl) ?_
  rintro v post ⟨rfl, rfl⟩
  refine go_exec (rs := [.tmp 4]) (by kernel_rfl) 4000 [] (o := .ret (.bool ((-1) == -1)) [Ebed9f ba (A.swapT (slotAt c at_) (markW cl 0)), E632c4 (A.swapT (slotAt c at_) (markW cl 0)), E33322 k c cl (-1) at_]) (by kernel_rfl) ?_
  exact ret_ok (post := [E33322 k c cl (-1) at_, Ebed9f ba (A.swapT (slotAt c at_) (markW cl 0)), E632c4 (A.swapT (slotAt c at_) (markW cl 0))]) [2, 0, 1] (by kernel_rfl) ⟨(congrArg Value.bool (by first | rfl | (simp; done) | (simp; omega))), (by kernel_rfl)⟩


theorem kStepL (c : Cfg) (k ba : Nat) (cl at_ sl : Int) (A : Ar) (hc : c.Ok) (hn : A.ws.length = A.n) (hs : 0 ≤ A.steps ∧ A.steps ≤ 1000000000) (hcl : 0 ≤ cl ∧ cl ≤ 1000) (ha : 0 ≤ at_ ∧ at_ < c.slots) (hi : 0 ≤ slotAt c at_ ∧ slotAt c at_ < A.n) (hw : (A.ws.getD (slotAt c at_).toNat 0) ≠ 0) (hl : at_ + 1 = c.slots) :
    Ctr Tryz.prog 91 #[vP k, vP ba] [E33322 k c cl at_ sl, Ebed9f ba A, E632c4 A] (Ret (.bool true) [E33322 k c cl (-1) sl, Ebed9f ba (A.swapF (slotAt c at_)), E632c4 (A.swapF (slotAt c at_))]) := by
  refine ctr_of (args := [vP k, vP ba]) (fn := Tryz.f91) (body := B91) (nt := 56) Tryz.func91 (by kernel_rfl) (by kernel_rfl) ?_
  intro F
  refine go_exec (rs := [.tmp 4]) (by kernel_rfl) 4000 [.z [0, 0, 1] 1 [0, 1, 6]] (o := .stop [.o [0, 0, 1] 1, .c [1, 0, 1], .c [1, 1]] [(0, vP k), (1, vP ba), (6, vP k)] [E33322 k c cl at_ sl, Ebed9f ba A, E632c4 A]) (by kernel_rfl) ?_
  refine ok_stop ?_
  refine go_call (some 7) [0] Tryz.call121 (claim_Done c k cl at_ sl) (by kernel_rfl) ?_
  rintro v post ⟨rfl, rfl⟩
  refine go_exec (rs := [.tmp 4]) (by kernel_rfl) 4000 [.sp [7] [.dead] [.e 2, .e 2, .n, .e 2, .z q50_0 0 [0, 1, 5]]] (o := .br (at_ == -1) (.bad) (.obl (k = k) (.obl (k = k) (.obl (InK .i64 (at_ + 1)) (.obl (k = k) (.stop [.c q50_0, .c q50_1, .b 0, .c [1, 1, 1, 1, 1]] [(0, vP k), (1, vP ba), (5, vI at_)] [Ebed9f ba A, E632c4 A, E33322 k c cl (at_ + 1) sl])))))) (by kernel_rfl) ?_
  refine ok_br (fun h => absurd (show (at_ == -1) = false from (by simp; omega)) (by rw [h]; simp)) (fun _ => ?_)
  refine ok_obl rfl ?_
  refine ok_obl rfl ?_
  refine ok_obl (by simp only [Cfg.Ok, InK] at *; omega) ?_
  refine ok_obl rfl ?_
  refine ok_stop ?_
  refine go_tail_call (dst := (some 32)) (ps := [k = k, k = k]) (cs := [(24, #[cfgV c, vI at_], vI (slotAt c at_)), (123, #[vI cl, vI 0], vU (markW cl 0))]) [(0, .h .w), (1, .h .w), (2, .h .w), (3, .h .w), (4, .h (.e 2)), (5, .h .w), (6, .q (vI (slotAt c at_))), (7, .h .w), (8, .h .w), (9, .h .w), (10, .h (.e 2)), (11, .q (vU (markW cl 0)))] 12 [(13, .h .w)] [0, 1] [0, 5, 19] (by kernel_rfl) Tryz.call122 (arena_SwapF ba A (slotAt c at_) 0 (markW cl 0) (by first | assumption | omega | (simp only [InK] at *; omega)) hi (by first | assumption | omega | (simp only [InK] at *; omega)) hw) (by kernel_rfl) ⟨rfl, rfl, trivial⟩ ⟨⟨Tryz.call24, quiet_of [] (plan_Slot c at_ hc) (by kernel_rfl) (by rintro v post ⟨rfl, rfl⟩; exact ⟨rfl, rfl⟩)⟩, ⟨Tryz.call123, quiet_of [] (slots_Mark cl 0 (by omega) (by decide)) (by kernel_rfl) (by rintro v post ⟨rfl, rfl⟩; exact ⟨rfl, rfl⟩)⟩, trivial⟩ ?_
  rintro v post ⟨rfl, rfl⟩
  refine tail_next (tm' := [(0, vP k), (5, vI at_), (19, .bool false)]) (ps2 := []) (by kernel_rfl) trivial ?_
  refine go_exec (rs := [.tmp 4]) (by kernel_rfl) 4000 [.z q50_2 0 [0]] (o := .stop [.c q50_2, .c q50_3, .b 0, .c [1, 1, 1, 1, 1]] [(0, vP k)] [E33322 k c cl (at_ + 1) sl, Ebed9f ba (A.swapF (slotAt c at_)), E632c4 (A.swapF (slotAt c at_))]) (by kernel_rfl) ?_
  refine ok_stop ?_
  refine go_quiet (tm' := [(0, vP k), (40, .bool true)]) (ps := [k = k, k = k, ((at_ + 1) == c.slots) = true]) (cs := []) [(0, .h .w), (1, .h .w), (2, .h .w), (3, .h (.e 0)), (4, .h .w), (5, .h .w), (6, .h .w), (7, .h .w), (8, .h (.e 0)), (9, .h (.t true)), (10, .h .w)] [0, 40] (by kernel_rfl) (by kernel_rfl) ⟨rfl, rfl, (beq_iff_eq.2 hl), trivial⟩ trivial ?_
  refine go_exec (rs := [.tmp 4]) (by kernel_rfl) 4000 [.e 0, .z [0, 1, 1, 1, 1, 1] 1 [54]] (o := .obl (k = k) (.stop [.o [0, 1, 1, 1, 1, 1] 1, .c [1, 1, 1, 1, 1, 1]] [(54, vP k)] [E33322 k c cl (-1) sl, Ebed9f ba (A.swapF (slotAt c at_)), E632c4 (A.swapF (slotAt c at_))])) (by kernel_rfl) ?_
  refine ok_obl rfl ?_
  refine ok_stop ?_
  refine go_call (some 55) [0] Tryz.call121 (claim_Done c k cl (-1) sl) (by kernel_rfl) ?_
  rintro v post ⟨rfl, rfl⟩
  refine go_exec (rs := [.tmp 4]) (by kernel_rfl) 4000 [] (o := .ret (.bool ((-1) == -1)) [Ebed9f ba (A.swapF (slotAt c at_)), E632c4 (A.swapF (slotAt c at_)), E33322 k c cl (-1) sl]) (by kernel_rfl) ?_
  exact ret_ok (post := [E33322 k c cl (-1) sl, Ebed9f ba (A.swapF (slotAt c at_)), E632c4 (A.swapF (slotAt c at_))]) [2, 0, 1] (by kernel_rfl) ⟨(congrArg Value.bool (by first | rfl | (simp; done) | (simp; omega))), (by kernel_rfl)⟩


theorem kStepN (c : Cfg) (k ba : Nat) (cl at_ sl : Int) (A : Ar) (hc : c.Ok) (hn : A.ws.length = A.n) (hs : 0 ≤ A.steps ∧ A.steps ≤ 1000000000) (hcl : 0 ≤ cl ∧ cl ≤ 1000) (ha : 0 ≤ at_ ∧ at_ < c.slots) (hi : 0 ≤ slotAt c at_ ∧ slotAt c at_ < A.n) (hw : (A.ws.getD (slotAt c at_).toNat 0) ≠ 0) (hl : at_ + 1 ≠ c.slots) :
    Ctr Tryz.prog 91 #[vP k, vP ba] [E33322 k c cl at_ sl, Ebed9f ba A, E632c4 A] (Ret (.bool false) [E33322 k c cl (at_ + 1) sl, Ebed9f ba (A.swapF (slotAt c at_)), E632c4 (A.swapF (slotAt c at_))]) := by
  refine ctr_of (args := [vP k, vP ba]) (fn := Tryz.f91) (body := B91) (nt := 56) Tryz.func91 (by kernel_rfl) (by kernel_rfl) ?_
  intro F
  refine go_exec (rs := [.tmp 4]) (by kernel_rfl) 4000 [.z [0, 0, 1] 1 [0, 1, 6]] (o := .stop [.o [0, 0, 1] 1, .c [1, 0, 1], .c [1, 1]] [(0, vP k), (1, vP ba), (6, vP k)] [E33322 k c cl at_ sl, Ebed9f ba A, E632c4 A]) (by kernel_rfl) ?_
  refine ok_stop ?_
  refine go_call (some 7) [0] Tryz.call121 (claim_Done c k cl at_ sl) (by kernel_rfl) ?_
  rintro v post ⟨rfl, rfl⟩
  refine go_exec (rs := [.tmp 4]) (by kernel_rfl) 4000 [.sp [7] [.dead] [.e 2, .e 2, .n, .e 2, .z q50_0 0 [0, 1, 5]]] (o := .br (at_ == -1) (.bad) (.obl (k = k) (.obl (k = k) (.obl (InK .i64 (at_ + 1)) (.obl (k = k) (.stop [.c q50_0, .c q50_1, .b 0, .c [1, 1, 1, 1, 1]] [(0, vP k), (1, vP ba), (5, vI at_)] [Ebed9f ba A, E632c4 A, E33322 k c cl (at_ + 1) sl])))))) (by kernel_rfl) ?_
  refine ok_br (fun h => absurd (show (at_ == -1) = false from (by simp; omega)) (by rw [h]; simp)) (fun _ => ?_)
  refine ok_obl rfl ?_
  refine ok_obl rfl ?_
  refine ok_obl (by simp only [Cfg.Ok, InK] at *; omega) ?_
  refine ok_obl rfl ?_
  refine ok_stop ?_
  refine go_tail_call (dst := (some 32)) (ps := [k = k, k = k]) (cs := [(24, #[cfgV c, vI at_], vI (slotAt c at_)), (123, #[vI cl, vI 0], vU (markW cl 0))]) [(0, .h .w), (1, .h .w), (2, .h .w), (3, .h .w), (4, .h (.e 2)), (5, .h .w), (6, .q (vI (slotAt c at_))), (7, .h .w), (8, .h .w), (9, .h .w), (10, .h (.e 2)), (11, .q (vU (markW cl 0)))] 12 [(13, .h .w)] [0, 1] [0, 5, 19] (by kernel_rfl) Tryz.call122 (arena_SwapF ba A (slotAt c at_) 0 (markW cl 0) (by first | assumption | omega | (simp only [InK] at *; omega)) hi (by first | assumption | omega | (simp only [InK] at *; omega)) hw) (by kernel_rfl) ⟨rfl, rfl, trivial⟩ ⟨⟨Tryz.call24, quiet_of [] (plan_Slot c at_ hc) (by kernel_rfl) (by rintro v post ⟨rfl, rfl⟩; exact ⟨rfl, rfl⟩)⟩, ⟨Tryz.call123, quiet_of [] (slots_Mark cl 0 (by omega) (by decide)) (by kernel_rfl) (by rintro v post ⟨rfl, rfl⟩; exact ⟨rfl, rfl⟩)⟩, trivial⟩ ?_
  rintro v post ⟨rfl, rfl⟩
  refine tail_next (tm' := [(0, vP k), (5, vI at_), (19, .bool false)]) (ps2 := []) (by kernel_rfl) trivial ?_
  refine go_exec (rs := [.tmp 4]) (by kernel_rfl) 4000 [.z q50_2 0 [0]] (o := .stop [.c q50_2, .c q50_3, .b 0, .c [1, 1, 1, 1, 1]] [(0, vP k)] [E33322 k c cl (at_ + 1) sl, Ebed9f ba (A.swapF (slotAt c at_)), E632c4 (A.swapF (slotAt c at_))]) (by kernel_rfl) ?_
  refine ok_stop ?_
  refine go_quiet (tm' := [(0, vP k), (40, .bool false)]) (ps := [k = k, k = k, ((at_ + 1) == c.slots) = false]) (cs := []) [(0, .h .w), (1, .h .w), (2, .h .w), (3, .h (.e 0)), (4, .h .w), (5, .h .w), (6, .h .w), (7, .h .w), (8, .h (.e 0)), (9, .h (.t false)), (10, .h .w)] [0, 40] (by kernel_rfl) (by kernel_rfl) ⟨rfl, rfl, (beq_eq_false_iff_ne.2 hl), trivial⟩ trivial ?_
  refine go_exec (rs := [.tmp 4]) (by kernel_rfl) 4000 [.z [0, 1, 1, 1, 1, 1] 1 [54]] (o := .stop [.o [0, 1, 1, 1, 1, 1] 1, .c [1, 1, 1, 1, 1, 1]] [(54, vP k)] [E33322 k c cl (at_ + 1) sl, Ebed9f ba (A.swapF (slotAt c at_)), E632c4 (A.swapF (slotAt c at_))]) (by kernel_rfl) ?_
  refine ok_stop ?_
  refine go_call (some 55) [0] Tryz.call121 (claim_Done c k cl (at_ + 1) sl) (by kernel_rfl) ?_
  rintro v post ⟨rfl, rfl⟩
  refine go_exec (rs := [.tmp 4]) (by kernel_rfl) 4000 [] (o := .ret (.bool ((at_ + 1) == -1)) [Ebed9f ba (A.swapF (slotAt c at_)), E632c4 (A.swapF (slotAt c at_)), E33322 k c cl (at_ + 1) sl]) (by kernel_rfl) ?_
  exact ret_ok (post := [E33322 k c cl (at_ + 1) sl, Ebed9f ba (A.swapF (slotAt c at_)), E632c4 (A.swapF (slotAt c at_))]) [2, 0, 1] (by kernel_rfl) ⟨(congrArg Value.bool (by first | rfl | (simp; done) | (simp; omega))), (by kernel_rfl)⟩


theorem claim_Step (c : Cfg) (k ba : Nat) (K : Cl) (A : Ar) (hc : c.Ok) (hn : A.ws.length = A.n) (hs : 0 ≤ A.steps ∧ A.steps ≤ 1000000000) (hz : (A.n : Int) = sizeOfC c) (hK : Cl.Ok c K) :
    Ctr Tryz.prog 91 #[vP k, vP ba] [E85b39 k c K, Ebed9f ba A, E632c4 A] (Ret (.bool ((K.step c A).1.at_ == -1)) [E85b39 k c ((K.step c A).1), Ebed9f ba ((K.step c A).2), E632c4 ((K.step c A).2)]) := by
  obtain ⟨cl, at_, sl⟩ := K
  obtain ⟨h1, h2, h3, h4⟩ := hK
  simp only at h1 h2 h3 h4
  have hc' := hc
  simp only [Cfg.Ok] at hc'
  by_cases ha : at_ = -1
  · have e : Cl.step c ⟨cl, at_, sl⟩ A = (⟨cl, at_, sl⟩, A) := by show (if _ then _ else _) = _; rw [if_pos ha]
    rw [e, show (at_ == -1) = true from beq_iff_eq.2 ha]
    exact kStepD c k ba cl at_ sl A hc hn hs (by omega) ha
  · have hat := h2.resolve_left ha
    have hso := slotAt_ok hc hat
    by_cases hw : A.ws.getD (slotAt c at_).toNat 0 = 0
    · have e : Cl.step c ⟨cl, at_, sl⟩ A = (⟨cl, -1, at_⟩, A.swapT (slotAt c at_) (markW cl 0)) := by show (if _ then _ else _) = _; rw [if_neg ha, if_pos hw]
      rw [e]; exact kStepT c k ba cl at_ sl A hc hn hs (by omega) hat (by omega) hw
    · by_cases hl : at_ + 1 = c.slots
      · have e : Cl.step c ⟨cl, at_, sl⟩ A = (⟨cl, -1, sl⟩, A.swapF (slotAt c at_)) := by show (if _ then _ else _) = _; rw [if_neg ha, if_neg hw, if_pos hl]
        rw [e]; exact kStepL c k ba cl at_ sl A hc hn hs (by omega) hat (by omega) hw hl
      · have e : Cl.step c ⟨cl, at_, sl⟩ A = (⟨cl, at_ + 1, sl⟩, A.swapF (slotAt c at_)) := by show (if _ then _ else _) = _; rw [if_neg ha, if_neg hw, if_neg hl]
        rw [e, show (at_ + 1 == -1) = false from beq_eq_false_iff_ne.2 (by omega)]
        exact kStepN c k ba cl at_ sl A hc hn hs (by omega) hat (by omega) hw hl

noncomputable def B46 : Code := (Tryz.f46.body).getD .skip

theorem new_Claim (c : Cfg) (cl : Int) (hc : c.Ok) (hcl : 0 ≤ cl ∧ cl < c.clients) :
    Ctr Tryz.prog 46 #[cfgV c, vI cl] [] (fun v L => ∃ (k : Nat), v = vP k ∧ L = [E33322 k c cl 0 (-1)]) := by
  refine ctr_of (args := [cfgV c, vI cl]) (fn := Tryz.f46) (body := B46) (nt := 22) Tryz.func46 (by kernel_rfl) (by kernel_rfl) ?_
  intro F
  refine go_exec (rs := [.tmp 4]) (by kernel_rfl) 4000 [.e 0, .z [0, 0, 1] 1 [1, 2, 5]] (o := .new fun b_1 => .obl (b_1 = b_1) (.stop [.o [0, 0, 1] 1, .c [1, 0, 1], .c [1, 1]] [(1, vI cl), (2, vP b_1), (5, cfgV c)] [Efdc04 b_1 c])) (by kernel_rfl) ?_
  refine ok_new fun b_1 => ?_
  refine ok_obl rfl ?_
  refine ok_stop ?_
  refine go_call (some 6) [] Tryz.call50 (plan_Check c (by first | assumption | omega | (simp only [InK] at *; omega))) (by kernel_rfl) ?_
  rintro v post ⟨rfl, rfl⟩
  refine go_exec (rs := [.tmp 4]) (by kernel_rfl) 4000 [.sp [12, 10, 11] [.dead] [.e 0, .sp [17, 16] [.dead] [.e 0]]] (o := .obl ((decide (cl < 0)) = (decide (cl < 0))) (.obl ((decide (cl < 0)) = (decide (cl < 0))) (.br (decide (cl < 0)) (.bad) (.obl (b_1 = b_1) (.obl ((decide (cl ≥ c.clients)) = (decide (cl ≥ c.clients))) (.br (decide (cl ≥ c.clients)) (.bad) (.obl (b_1 = b_1) (.new fun b_2 => .ret (vP b_2) [Efdc04 b_1 c, E33322 b_2 c cl 0 (-1)])))))))) (by kernel_rfl) ?_
  refine ok_obl rfl ?_
  refine ok_obl rfl ?_
  refine ok_br (fun h => absurd (show (decide (cl < 0)) = false from (by first | (simp; done) | (simp; omega))) (by rw [h]; simp)) (fun _ => ?_)
  refine ok_obl rfl ?_
  refine ok_obl rfl ?_
  refine ok_br (fun h => absurd (show (decide (cl ≥ c.clients)) = false from (by first | (simp; done) | (simp; omega))) (by rw [h]; simp)) (fun _ => ?_)
  refine ok_obl rfl ?_
  refine ok_new fun b_2 => ?_
  exact ret_ok (post := [E33322 b_2 c cl 0 (-1)]) [1] (by kernel_rfl) ⟨b_2, rfl, (by kernel_rfl)⟩


theorem new_ClaimBadA (c : Cfg) (cl : Int) (hc : c.Ok) (hb : cl < 0) :
    Ctr Tryz.prog 46 #[cfgV c, vI cl] [] (Ret (.pointer none) []) := by
  refine ctr_of (args := [cfgV c, vI cl]) (fn := Tryz.f46) (body := B46) (nt := 22) Tryz.func46 (by kernel_rfl) (by kernel_rfl) ?_
  intro F
  refine go_exec (rs := [.tmp 4]) (by kernel_rfl) 4000 [.e 0, .z [0, 0, 1] 1 [1, 2, 5]] (o := .new fun b_1 => .obl (b_1 = b_1) (.stop [.o [0, 0, 1] 1, .c [1, 0, 1], .c [1, 1]] [(1, vI cl), (2, vP b_1), (5, cfgV c)] [Efdc04 b_1 c])) (by kernel_rfl) ?_
  refine ok_new fun b_1 => ?_
  refine ok_obl rfl ?_
  refine ok_stop ?_
  refine go_call (some 6) [] Tryz.call50 (plan_Check c (by first | assumption | omega | (simp only [InK] at *; omega))) (by kernel_rfl) ?_
  rintro v post ⟨rfl, rfl⟩
  refine go_exec (rs := [.tmp 4]) (by kernel_rfl) 4000 [.sp [12, 10, 11] [] [.dead]] (o := .obl ((decide (cl < 0)) = (decide (cl < 0))) (.obl ((decide (cl < 0)) = (decide (cl < 0))) (.br (decide (cl < 0)) (.ret (.pointer none) [Efdc04 b_1 c]) (.bad)))) (by kernel_rfl) ?_
  refine ok_obl rfl ?_
  refine ok_obl rfl ?_
  refine ok_br (fun _ => ?_) (fun h => absurd (show (decide (cl < 0)) = true from (decide_eq_true hb)) (by rw [h]; simp))
  exact ret_ok (post := []) [] (by kernel_rfl) ⟨rfl, (by kernel_rfl)⟩


theorem new_ClaimBadB (c : Cfg) (cl : Int) (hc : c.Ok) (hb : ¬ cl < 0) (hb2 : cl ≥ c.clients) :
    Ctr Tryz.prog 46 #[cfgV c, vI cl] [] (Ret (.pointer none) []) := by
  refine ctr_of (args := [cfgV c, vI cl]) (fn := Tryz.f46) (body := B46) (nt := 22) Tryz.func46 (by kernel_rfl) (by kernel_rfl) ?_
  intro F
  refine go_exec (rs := [.tmp 4]) (by kernel_rfl) 4000 [.e 0, .z [0, 0, 1] 1 [1, 2, 5]] (o := .new fun b_1 => .obl (b_1 = b_1) (.stop [.o [0, 0, 1] 1, .c [1, 0, 1], .c [1, 1]] [(1, vI cl), (2, vP b_1), (5, cfgV c)] [Efdc04 b_1 c])) (by kernel_rfl) ?_
  refine ok_new fun b_1 => ?_
  refine ok_obl rfl ?_
  refine ok_stop ?_
  refine go_call (some 6) [] Tryz.call50 (plan_Check c (by first | assumption | omega | (simp only [InK] at *; omega))) (by kernel_rfl) ?_
  rintro v post ⟨rfl, rfl⟩
  refine go_exec (rs := [.tmp 4]) (by kernel_rfl) 4000 [.sp [12, 10, 11] [.dead] [.e 0, .sp [17, 16] [] [.dead]]] (o := .obl ((decide (cl < 0)) = (decide (cl < 0))) (.obl ((decide (cl < 0)) = (decide (cl < 0))) (.br (decide (cl < 0)) (.bad) (.obl (b_1 = b_1) (.obl ((decide (cl ≥ c.clients)) = (decide (cl ≥ c.clients))) (.br (decide (cl ≥ c.clients)) (.ret (.pointer none) [Efdc04 b_1 c]) (.bad))))))) (by kernel_rfl) ?_
  refine ok_obl rfl ?_
  refine ok_obl rfl ?_
  refine ok_br (fun h => absurd (show (decide (cl < 0)) = false from (decide_eq_false hb)) (by rw [h]; simp)) (fun _ => ?_)
  refine ok_obl rfl ?_
  refine ok_obl rfl ?_
  refine ok_br (fun _ => ?_) (fun h => absurd (show (decide (cl ≥ c.clients)) = true from (decide_eq_true hb2)) (by rw [h]; simp))
  exact ret_ok (post := []) [] (by kernel_rfl) ⟨rfl, (by kernel_rfl)⟩


theorem new_Claim0 (cl : Int)  :
    Ctr Tryz.prog 46 #[.agg #[vI 0, vI 0, vI 0, vI 0, vI 0, vI 0, vI 0, vI 0, vI 0], vI cl] [] (Ret (.pointer none) []) := by
  refine ctr_of (args := [.agg #[vI 0, vI 0, vI 0, vI 0, vI 0, vI 0, vI 0, vI 0, vI 0], vI cl]) (fn := Tryz.f46) (body := B46) (nt := 22) Tryz.func46 (by kernel_rfl) (by kernel_rfl) ?_
  intro F
  refine go_exec (rs := [.tmp 4]) (by kernel_rfl) 4000 [.e 0, .z [0, 0, 1] 1 [1, 2, 5]] (o := .new fun b_1 => .obl (b_1 = b_1) (.stop [.o [0, 0, 1] 1, .c [1, 0, 1], .c [1, 1]] [(1, vI cl), (2, vP b_1), (5, .agg #[vI 0, vI 0, vI 0, vI 0, vI 0, vI 0, vI 0, vI 0, vI 0])] [Ed975e b_1 0 0 0 0 0 0 0 0 0])) (by kernel_rfl) ?_
  refine ok_new fun b_1 => ?_
  refine ok_obl rfl ?_
  refine ok_stop ?_
  refine go_call (some 6) [] Tryz.call50 (plan_Check0) (by kernel_rfl) ?_
  rintro v post ⟨rfl, rfl⟩
  refine go_exec (rs := [.tmp 4]) (by kernel_rfl) 4000 [] (o := .ret (.pointer none) [Ed975e b_1 0 0 0 0 0 0 0 0 0]) (by kernel_rfl) ?_
  exact ret_ok (post := []) [] (by kernel_rfl) ⟨rfl, (by kernel_rfl)⟩

noncomputable def B126 : Code := (Tryz.f126.body).getD .skip

theorem new_Release (c : Cfg) (sl : Int) (hc : c.Ok) (hsl : 0 ≤ sl ∧ sl < c.slots) :
    Ctr Tryz.prog 126 #[cfgV c, vI sl] [] (fun v L => ∃ (r : Nat), v = vP r ∧ L = [.pts r [vI (slotAt c sl), .bool false] 214]) := by
  refine ctr_of (args := [cfgV c, vI sl]) (fn := Tryz.f126) (body := B126) (nt := 14) Tryz.func126 (by kernel_rfl) (by kernel_rfl) ?_
  intro F
  refine go_exec (rs := [.tmp 4]) (by kernel_rfl) 4000 [.e 0, .z [0, 1] 2 [6, 7]] (o := .new fun b_1 => .obl (b_1 = b_1) (.stop [.o [0, 1] 2, .c [1, 1]] [(6, cfgV c), (7, vI sl)] [Efdc04 b_1 c])) (by kernel_rfl) ?_
  refine ok_new fun b_1 => ?_
  refine ok_obl rfl ?_
  refine ok_stop ?_
  refine go_call (some 8) [] Tryz.call24 (plan_Slot c sl (by first | assumption | omega | (simp only [InK] at *; omega))) (by kernel_rfl) ?_
  rintro v post ⟨rfl, rfl⟩
  refine go_exec (rs := [.tmp 4]) (by kernel_rfl) 4000 [.sp [10] [.dead] []] (o := .br ((slotAt c sl) == (-1)) (.bad) (.new fun b_2 => .ret (vP b_2) [Efdc04 b_1 c, .pts b_2 [vI (slotAt c sl), .bool false] 214])) (by kernel_rfl) ?_
  refine ok_br (fun h => absurd (show ((slotAt c sl) == (-1)) = false from (beq_eq_false_iff_ne.2 (by have := slotAt_ok hc hsl; omega))) (by rw [h]; simp)) (fun _ => ?_)
  refine ok_new fun b_2 => ?_
  exact ret_ok (post := [.pts b_2 [vI (slotAt c sl), .bool false] 214]) [1] (by kernel_rfl) ⟨b_2, rfl, (by kernel_rfl)⟩

noncomputable def B139 : Code := (Tryz.f139.body).getD .skip

theorem release_DoneT (r : Nat) (a : Int)  :
    Ctr Tryz.prog 139 #[vP r] [.pts r [vI a, .bool true] 214] (Ret (.bool true) [.pts r [vI a, .bool true] 214]) := by
  refine ctr_of (args := [vP r]) (fn := Tryz.f139) (body := B139) (nt := 11) Tryz.func139 (by kernel_rfl) (by kernel_rfl) ?_
  intro F
  refine go_exec (rs := [.tmp 2]) (by kernel_rfl) 4000 [.e 0] (o := .obl (r = r) (.ret (.bool true) [.pts r [vI a, .bool true] 214])) (by kernel_rfl) ?_
  refine ok_obl rfl ?_
  exact ret_ok (post := [.pts r [vI a, .bool true] 214]) [0] (by kernel_rfl) ⟨rfl, (by kernel_rfl)⟩


theorem release_DoneF (r : Nat) (a : Int)  :
    Ctr Tryz.prog 139 #[vP r] [.pts r [vI a, .bool false] 214] (Ret (.bool false) [.pts r [vI a, .bool false] 214]) := by
  refine ctr_of (args := [vP r]) (fn := Tryz.f139) (body := B139) (nt := 11) Tryz.func139 (by kernel_rfl) (by kernel_rfl) ?_
  intro F
  refine go_exec (rs := [.tmp 2]) (by kernel_rfl) 4000 [.e 0] (o := .obl (r = r) (.ret (.bool false) [.pts r [vI a, .bool false] 214])) (by kernel_rfl) ?_
  refine ok_obl rfl ?_
  exact ret_ok (post := [.pts r [vI a, .bool false] 214]) [0] (by kernel_rfl) ⟨rfl, (by kernel_rfl)⟩

noncomputable def B136 : Code := (Tryz.f136.body).getD .skip

theorem release_Step (r ba : Nat) (a : Int) (A : Ar) (hn : A.ws.length = A.n) (hi : 0 ≤ a ∧ a < A.n) (hs : 0 ≤ A.steps ∧ A.steps ≤ 1000000000) :
    Ctr Tryz.prog 136 #[vP r, vP ba] [.pts r [vI a, .bool false] 214, Ebed9f ba A, E632c4 A] (Ret (.bool true) [.pts r [vI a, .bool true] 214, Ebed9f ba (A.store a 0), E632c4 (A.store a 0)]) := by
  refine ctr_of (args := [vP r, vP ba]) (fn := Tryz.f136) (body := B136) (nt := 17) Tryz.func136 (by kernel_rfl) (by kernel_rfl) ?_
  intro F
  refine go_exec (rs := [.tmp 4]) (by kernel_rfl) 4000 [.z [0, 0, 1] 1 [0, 1, 5]] (o := .stop [.o [0, 0, 1] 1, .c [1, 0, 1], .c [1, 1]] [(0, vP r), (1, vP ba), (5, vP r)] [.pts r [vI a, .bool false] 214, Ebed9f ba A, E632c4 A]) (by kernel_rfl) ?_
  refine ok_stop ?_
  refine go_call (some 6) [0] Tryz.call139 (release_DoneF r a) (by kernel_rfl) ?_
  rintro v post ⟨rfl, rfl⟩
  refine go_exec (rs := [.tmp 4]) (by kernel_rfl) 4000 [.e 2, .z [0, 0, 1, 0, 1] 5 [0, 8, 12]] (o := .obl (r = r) (.stop [.o [0, 0, 1, 0, 1] 5, .c [1, 0, 1, 0, 1], .c [1, 1]] [(0, vP r), (8, vP ba), (12, vI a)] [Ebed9f ba A, E632c4 A, .pts r [vI a, .bool false] 214])) (by kernel_rfl) ?_
  refine ok_obl rfl ?_
  refine ok_stop ?_
  refine go_call (some 13) [0, 1] Tryz.call20 (arena_Store ba A a 0 (by first | assumption | omega | (simp only [InK] at *; omega)) hi (by first | assumption | omega | (simp only [InK] at *; omega))) (by kernel_rfl) ?_
  rintro v post ⟨rfl, rfl⟩
  refine go_exec (rs := [.tmp 4]) (by kernel_rfl) 4000 [.e 0] (o := .obl (r = r) (.ret (.bool true) [.pts r [vI a, .bool true] 214, Ebed9f ba (A.store a 0), E632c4 (A.store a 0)])) (by kernel_rfl) ?_
  refine ok_obl rfl ?_
  exact ret_ok (post := [.pts r [vI a, .bool true] 214, Ebed9f ba (A.store a 0), E632c4 (A.store a 0)]) [0, 1, 2] (by kernel_rfl) ⟨rfl, (by kernel_rfl)⟩

end Go.Proofs.YtiiepkjckmdmkaaGreatDoor


namespace Go.Proofs.YtiiepkjckmdmkaaGreatDoor
open Go.Sx
abbrev E64beb (x0 : Nat) (c1 : Cfg) (x2 : Int) (x3 : Int) (x4 : Int) (x5 : Value) (x6 : Value) (x7 : Value) (x8 : Value) (x9 : Int) (x10 : Int) (x11 : Value) : Ent := .pts x0 [.int .i64 c1.topics, .int .i64 c1.small, .int .i64 c1.slots, .int .i64 c1.clients, .int .i64 c1.s0, .int .i64 c1.n0, .int .i64 c1.s1, .int .i64 c1.n1, .int .i64 c1.retry, .int .i64 x2, .int .i64 x3, .int .i64 x4, x5, x6, x7, x8, .int .i64 x9, .int .i64 x10, x11] 95
abbrev Eea5c0 (x0 : Nat) (c1 : Cfg) (x2 : Int) (x3 : Int) (x4 : Int) (x5 : Value) (x6 : Value) (x7 : Value) (x8 : Value) (x9 : Int) (x10 : Int) : Ent := .pts x0 [.int .i64 c1.topics, .int .i64 c1.small, .int .i64 c1.slots, .int .i64 c1.clients, .int .i64 c1.s0, .int .i64 c1.n0, .int .i64 c1.s1, .int .i64 c1.n1, .int .i64 c1.retry, .int .i64 x2, .int .i64 x3, .int .i64 x4, x5, x6, x7, x8, .int .i64 x9, .int .i64 x10, .nilIface] 95
noncomputable abbrev E0d039 (x0 : Nat) (c1 : Cfg) (g2 : Gu) (x3 : Nat) (x4 : Nat) (x5 : Int) : Ent := .pts x0 [.int .i64 c1.topics, .int .i64 c1.small, .int .i64 c1.slots, .int .i64 c1.clients, .int .i64 c1.s0, .int .i64 c1.n0, .int .i64 c1.s1, .int .i64 c1.n1, .int .i64 c1.retry, .int .i64 g2.client, .int .i64 g2.epoch, .int .i64 g2.slot, .int .i64 g2.word, (nxG x3 x4), .int .u64 g2.seen, .int .i64 g2.block, .int .i64 g2.failed, .int .i64 g2.commit, (errV x5)] 153
abbrev q52_0 : List Nat := [0, 0, 1, 0, 1, 1, 1]
abbrev q52_1 : List Nat := [0, 0, 1, 1, 1, 0, 0, 1]
abbrev q52_2 : List Nat := [1, 0, 1, 1, 1, 0, 0, 1]

noncomputable def nxP : Nat → Value
  | 1 => .func (.func 47) #[] #[]
  | 2 => .func (.func 93) #[] #[]
  | 3 => .func (.func 127) #[] #[]
  | _ => .nilFunc
def gpO (b : Nat) : Option Gu → Value
  | none => .pointer none
  | some _ => .pointer (some ⟨b, 0, none⟩)
def rpO (b : Nat) : Option (Int × Bool) → Value
  | none => .pointer none
  | some _ => .pointer (some ⟨b, 0, none⟩)
noncomputable def B47 : Code := (Tryz.f47.body).getD .skip

theorem pClaimsW (c : Cfg) (p ba kb : Nat) (cl tp ep sl bk : Int) (gp rp er : Value) (K : Cl) (A : Ar) (hc : c.Ok) (hn : A.ws.length = A.n) (hs : 0 ≤ A.steps ∧ A.steps ≤ 1000000000) (hz : (A.n : Int) = sizeOfC c) (hK : Cl.Ok c K) (ha : (K.step c A).1.at_ ≠ -1) :
    Ctr Tryz.prog 47 #[vP p, vP ba] [E64beb p c cl tp ep (.func (.func 47) #[] #[]) (vP kb) gp rp sl bk er, E85b39 kb c K, Ebed9f ba A, E632c4 A] (Ret (undef) [E64beb p c cl tp ep (.func (.func 47) #[] #[]) (vP kb) gp rp sl bk er, E85b39 kb c ((K.step c A).1), Ebed9f ba ((K.step c A).2), E632c4 ((K.step c A).2)]) := by
  refine ctr_of (args := [vP p, vP ba]) (fn := Tryz.f47) (body := B47) (nt := 58) Tryz.func47 (by kernel_rfl) (by kernel_rfl) ?_
  intro F
  refine go_exec (rs := []) (by kernel_rfl) 4000 [.e 0, .z [0, 0] 5 [0, 7, 8]] (o := .obl (p = p) (.stop [.o [0, 0] 5, .c [1, 0], .c [1]] [(0, vP p), (7, vP kb), (8, vP ba)] [E64beb p c cl tp ep (.func (.func 47) #[] #[]) (vP kb) gp rp sl bk er, E85b39 kb c K, Ebed9f ba A, E632c4 A])) (by kernel_rfl) ?_
  refine ok_obl rfl ?_
  refine ok_stop ?_
  refine go_call (some 9) [1, 2, 3] Tryz.call91 (claim_Step c kb ba K A (by first | assumption | omega | (simp only [InK] at *; omega)) (by first | assumption | omega | (simp only [InK] at *; omega)) (by first | assumption | omega | (simp only [InK] at *; omega)) (by first | assumption | omega | (simp only [InK] at *; omega)) (by first | assumption | omega | (simp only [InK] at *; omega))) (by kernel_rfl) ?_
  rintro v post ⟨rfl, rfl⟩
  refine go_exec (rs := []) (by kernel_rfl) 4000 [.sp [10] [] [.dead]] (o := .br (!((K.step c A).1.at_ == -1)) (.ret (undef) [E64beb p c cl tp ep (.func (.func 47) #[] #[]) (vP kb) gp rp sl bk er, E85b39 kb c ((K.step c A).1), Ebed9f ba ((K.step c A).2), E632c4 ((K.step c A).2)]) (.bad)) (by kernel_rfl) ?_
  refine ok_br (fun _ => ?_) (fun h => absurd (show (!((K.step c A).1.at_ == -1)) = true from (by simp [ha])) (by rw [h]; simp))
  exact ret_ok (post := [E64beb p c cl tp ep (.func (.func 47) #[] #[]) (vP kb) gp rp sl bk er, E85b39 kb c ((K.step c A).1), Ebed9f ba ((K.step c A).2), E632c4 ((K.step c A).2)]) [0, 1, 2, 3] (by kernel_rfl) ⟨rfl, (by kernel_rfl)⟩


theorem pClaimsN (c : Cfg) (p ba kb : Nat) (cl tp ep sl bk : Int) (gp rp er : Value) (K : Cl) (A : Ar) (hc : c.Ok) (hn : A.ws.length = A.n) (hs : 0 ≤ A.steps ∧ A.steps ≤ 1000000000) (hz : (A.n : Int) = sizeOfC c) (hK : Cl.Ok c K) (ha : (K.step c A).1.at_ = -1) (hq : (K.step c A).1.slot = -1) :
    Ctr Tryz.prog 47 #[vP p, vP ba] [E64beb p c cl tp ep (.func (.func 47) #[] #[]) (vP kb) gp rp sl bk er, E85b39 kb c K, Ebed9f ba A, E632c4 A] (Ret (undef) [E64beb p c cl tp ep (.nilFunc) (vP kb) gp rp ((K.step c A).1.slot) bk (.iface 46 (vI 19)), E85b39 kb c ((K.step c A).1), Ebed9f ba ((K.step c A).2), E632c4 ((K.step c A).2)]) := by
  refine ctr_of (args := [vP p, vP ba]) (fn := Tryz.f47) (body := B47) (nt := 58) Tryz.func47 (by kernel_rfl) (by kernel_rfl) ?_
  intro F
  refine go_exec (rs := []) (by kernel_rfl) 4000 [.e 0, .z [0, 0] 5 [0, 7, 8]] (o := .obl (p = p) (.stop [.o [0, 0] 5, .c [1, 0], .c [1]] [(0, vP p), (7, vP kb), (8, vP ba)] [E64beb p c cl tp ep (.func (.func 47) #[] #[]) (vP kb) gp rp sl bk er, E85b39 kb c K, Ebed9f ba A, E632c4 A])) (by kernel_rfl) ?_
  refine ok_obl rfl ?_
  refine ok_stop ?_
  refine go_call (some 9) [1, 2, 3] Tryz.call91 (claim_Step c kb ba K A (by first | assumption | omega | (simp only [InK] at *; omega)) (by first | assumption | omega | (simp only [InK] at *; omega)) (by first | assumption | omega | (simp only [InK] at *; omega)) (by first | assumption | omega | (simp only [InK] at *; omega)) (by first | assumption | omega | (simp only [InK] at *; omega))) (by kernel_rfl) ?_
  rintro v post ⟨rfl, rfl⟩
  refine go_exec (rs := []) (by kernel_rfl) 4000 [.sp [10] [.dead] [.e 0, .z [0, 1] 5 [0, 11, 15]]] (o := .br (!((K.step c A).1.at_ == -1)) (.bad) (.obl (p = p) (.stop [.o [0, 1] 5, .c [1, 1]] [(0, vP p), (11, vP p), (15, vP kb)] [E64beb p c cl tp ep (.func (.func 47) #[] #[]) (vP kb) gp rp sl bk er, E85b39 kb c ((K.step c A).1), Ebed9f ba ((K.step c A).2), E632c4 ((K.step c A).2)]))) (by kernel_rfl) ?_
  refine ok_br (fun h => absurd (show (!((K.step c A).1.at_ == -1)) = false from (by simp [ha])) (by rw [h]; simp)) (fun _ => ?_)
  refine ok_obl rfl ?_
  refine ok_stop ?_
  refine go_call (some 16) [1] Tryz.call92 (claim_Slot c kb ((K.step c A).1) ha) (by kernel_rfl) ?_
  rintro v post ⟨rfl, rfl⟩
  refine go_exec (rs := []) (by kernel_rfl) 4000 [.e 0, .e 0, .e 0, .sp [26] [.z q52_0 2 [27, 28]] [.dead]] (o := .obl (p = p) (.obl (p = p) (.obl (p = p) (.br (((K.step c A).1.slot) == (-1)) (.stop [.o q52_0 2, .c [1, 0, 1, 0, 1, 1, 1], .c [1, 1, 1, 1]] [(27, vP p), (28, vP p)] [E64beb p c cl tp ep (.func (.func 93) #[] #[]) (vP kb) gp rp ((K.step c A).1.slot) bk er, Ebed9f ba ((K.step c A).2), E632c4 ((K.step c A).2), E85b39 kb c ((K.step c A).1)]) (.bad))))) (by kernel_rfl) ?_
  refine ok_obl rfl ?_
  refine ok_obl rfl ?_
  refine ok_obl rfl ?_
  refine ok_br (fun _ => ?_) (fun h => absurd (show (((K.step c A).1.slot) == (-1)) = true from (beq_iff_eq.2 hq)) (by rw [h]; simp))
  refine ok_stop ?_
  refine go_call (some 29) [] Tryz.call36 (cause_NewE 19 (by decide)) (by kernel_rfl) ?_
  rintro v post ⟨rfl, rfl⟩
  refine go_exec (rs := []) (by kernel_rfl) 4000 [.e 0, .e 0] (o := .obl (p = p) (.obl (p = p) (.ret (undef) [E64beb p c cl tp ep (.nilFunc) (vP kb) gp rp ((K.step c A).1.slot) bk (.iface 46 (vI 19)), Ebed9f ba ((K.step c A).2), E632c4 ((K.step c A).2), E85b39 kb c ((K.step c A).1)]))) (by kernel_rfl) ?_
  refine ok_obl rfl ?_
  refine ok_obl rfl ?_
  exact ret_ok (post := [E64beb p c cl tp ep (.nilFunc) (vP kb) gp rp ((K.step c A).1.slot) bk (.iface 46 (vI 19)), E85b39 kb c ((K.step c A).1), Ebed9f ba ((K.step c A).2), E632c4 ((K.step c A).2)]) [0, 3, 1, 2] (by kernel_rfl) ⟨rfl, (by kernel_rfl)⟩


theorem pClaimsY (c : Cfg) (p ba kb : Nat) (cl tp ep sl bk : Int) (gp rp er : Value) (K : Cl) (A : Ar) (hc : c.Ok) (hn : A.ws.length = A.n) (hs : 0 ≤ A.steps ∧ A.steps ≤ 1000000000) (hz : (A.n : Int) = sizeOfC c) (hK : Cl.Ok c K) (ha : (K.step c A).1.at_ = -1) (hq : (K.step c A).1.slot ≠ -1) (hsl : 0 ≤ (K.step c A).1.slot ∧ (K.step c A).1.slot < c.slots) (hcl : 0 ≤ cl ∧ cl < c.clients) (htp : 0 ≤ tp ∧ tp < c.topics) :
    Ctr Tryz.prog 47 #[vP p, vP ba] [E64beb p c cl tp ep (.func (.func 47) #[] #[]) (vP kb) gp rp sl bk er, E85b39 kb c K, Ebed9f ba A, E632c4 A] (fun v L => ∃ (gb : Nat), v = undef ∧ L = [E64beb p c cl tp ep (.func (.func 93) #[] #[]) (vP kb) (vP gb) rp ((K.step c A).1.slot) bk er, E85b39 kb c ((K.step c A).1), Ebed9f ba ((K.step c A).2), E632c4 ((K.step c A).2), E6f719 gb c (newGu c cl (K.step c A).1.slot tp ep) gb]) := by
  refine ctr_of (args := [vP p, vP ba]) (fn := Tryz.f47) (body := B47) (nt := 58) Tryz.func47 (by kernel_rfl) (by kernel_rfl) ?_
  intro F
  refine go_exec (rs := []) (by kernel_rfl) 4000 [.e 0, .z [0, 0] 5 [0, 7, 8]] (o := .obl (p = p) (.stop [.o [0, 0] 5, .c [1, 0], .c [1]] [(0, vP p), (7, vP kb), (8, vP ba)] [E64beb p c cl tp ep (.func (.func 47) #[] #[]) (vP kb) gp rp sl bk er, E85b39 kb c K, Ebed9f ba A, E632c4 A])) (by kernel_rfl) ?_
  refine ok_obl rfl ?_
  refine ok_stop ?_
  refine go_call (some 9) [1, 2, 3] Tryz.call91 (claim_Step c kb ba K A (by first | assumption | omega | (simp only [InK] at *; omega)) (by first | assumption | omega | (simp only [InK] at *; omega)) (by first | assumption | omega | (simp only [InK] at *; omega)) (by first | assumption | omega | (simp only [InK] at *; omega)) (by first | assumption | omega | (simp only [InK] at *; omega))) (by kernel_rfl) ?_
  rintro v post ⟨rfl, rfl⟩
  refine go_exec (rs := []) (by kernel_rfl) 4000 [.sp [10] [.dead] [.e 0, .z [0, 1] 5 [0, 11, 15]]] (o := .br (!((K.step c A).1.at_ == -1)) (.bad) (.obl (p = p) (.stop [.o [0, 1] 5, .c [1, 1]] [(0, vP p), (11, vP p), (15, vP kb)] [E64beb p c cl tp ep (.func (.func 47) #[] #[]) (vP kb) gp rp sl bk er, E85b39 kb c ((K.step c A).1), Ebed9f ba ((K.step c A).2), E632c4 ((K.step c A).2)]))) (by kernel_rfl) ?_
  refine ok_br (fun h => absurd (show (!((K.step c A).1.at_ == -1)) = false from (by simp [ha])) (by rw [h]; simp)) (fun _ => ?_)
  refine ok_obl rfl ?_
  refine ok_stop ?_
  refine go_call (some 16) [1] Tryz.call92 (claim_Slot c kb ((K.step c A).1) ha) (by kernel_rfl) ?_
  rintro v post ⟨rfl, rfl⟩
  refine go_exec (rs := []) (by kernel_rfl) 4000 [.e 0, .e 0, .e 0, .sp [26] [.dead] [.z [1, 1, 1, 1] 0 [0]]] (o := .obl (p = p) (.obl (p = p) (.obl (p = p) (.br (((K.step c A).1.slot) == (-1)) (.bad) (.stop [.c [1, 1, 1, 1]] [(0, vP p)] [E64beb p c cl tp ep (.func (.func 93) #[] #[]) (vP kb) gp rp ((K.step c A).1.slot) bk er, Ebed9f ba ((K.step c A).2), E632c4 ((K.step c A).2), E85b39 kb c ((K.step c A).1)]))))) (by kernel_rfl) ?_
  refine ok_obl rfl ?_
  refine ok_obl rfl ?_
  refine ok_obl rfl ?_
  refine ok_br (fun h => absurd (show (((K.step c A).1.slot) == (-1)) = false from (beq_eq_false_iff_ne.2 hq)) (by rw [h]; simp)) (fun _ => ?_)
  refine ok_stop ?_
  refine go_lz (by kernel_rfl) (by kernel_rfl) ?_
  refine lz_node (l' := (mk 25 [0, 1, 2, 3, 4, 5, 6, 7, 8, 9, 10, 11, 12, 13, 14, 15, 16, 17, 18, 19, 20])) (V' := [0, 1, 2, 3, 4, 5, 6, 7, 8, 9, 10, 11, 12, 13, 14, 15, 16, 17, 18, 19, 20]) (T1 := [(0, vP p), (34, vP p), (35, vP p), (36, vP p), (37, vP p), (38, cfgV c), (39, vP p), (40, vP p), (41, .pointer (some ⟨p, 9, none⟩)), (42, vI cl), (43, vP p), (44, vP p), (45, .pointer (some ⟨p, 16, none⟩)), (46, vI ((K.step c A).1.slot)), (47, vP p), (48, vP p), (49, .pointer (some ⟨p, 10, none⟩)), (50, vI tp), (51, vP p), (52, vP p), (53, .pointer (some ⟨p, 11, none⟩)), (54, vI ep)]) (ps := [p = p, p = p, p = p, p = p, p = p]) [0, 1, 2, 3, 4, 5, 6, 7, 8, 9, 10, 11, 12, 13, 14, 15, 16, 17, 18, 19, 20] [(0, .h .w), (1, .h .w), (2, .h .w), (3, .h .w), (4, .h (.e 0)), (5, .h .w), (6, .h .w), (7, .h .w), (8, .h (.e 0)), (9, .h .w), (10, .h .w), (11, .h .w), (12, .h (.e 0)), (13, .h .w), (14, .h .w), (15, .h .w), (16, .h (.e 0)), (17, .h .w), (18, .h .w), (19, .h .w), (20, .h (.e 0))] [0, 34, 35, 36, 37, 38, 39, 40, 41, 42, 43, 44, 45, 46, 47, 48, 49, 50, 51, 52, 53, 54] [21] (by kernel_rfl) ⟨rfl, rfl, rfl, rfl, rfl, trivial⟩ ⟨?_, trivial⟩
  refine lz_call (l' := (mk 25 [0, 1, 2, 3, 4, 5, 6, 7, 8, 9, 10, 11, 12, 13, 14, 15, 16, 17, 18, 19, 20, 21])) (V' := [0]) (some 55) [] Tryz.call94 (guard_New c cl ((K.step c A).1.slot) tp ep (by first | assumption | omega | (simp only [InK] at *; omega)) hcl hsl htp) (by kernel_rfl) ?_
  rintro v post ⟨g_21_1, rfl, rfl⟩
  refine lz_node (l' := (mk 25 [0, 1, 2, 3, 4, 5, 6, 7, 8, 9, 10, 11, 12, 13, 14, 15, 16, 17, 18, 19, 20, 21, 22, 23])) (V' := [0, 22, 23]) (T1 := [(55, vP g_21_1), (0, vP p), (34, vP p), (56, vP p), (57, .pointer (some ⟨p, 14, none⟩))]) (ps := []) [22, 23] [(0, .h .w), (22, .h .w), (23, .h .w)] [55, 0, 34, 56, 57] [24] (by kernel_rfl) trivial ⟨?_, trivial⟩
  refine lz_op (l' := (mk 25 [0, 1, 2, 3, 4, 5, 6, 7, 8, 9, 10, 11, 12, 13, 14, 15, 16, 17, 18, 19, 20, 21, 22, 23, 24])) (V' := []) (so := .obl (p = p) (.ok .skip [E64beb p c cl tp ep (.func (.func 93) #[] #[]) (vP kb) (vP g_21_1) rp ((K.step c A).1.slot) bk er, Ebed9f ba ((K.step c A).2), E632c4 ((K.step c A).2), E85b39 kb c ((K.step c A).1), E6f719 g_21_1 c (newGu c cl ((K.step c A).1.slot) tp ep) g_21_1])) (dst := none) (.e 0) (by kernel_rfl) ?_
  refine sat_obl rfl ?_
  refine sat_skip ?_
  refine lz_end (T1 := []) (ps := []) [] [] [] (by kernel_rfl) trivial ?_
  refine go_exec (rs := []) (by kernel_rfl) 4000 [] (o := .ret (undef) [E64beb p c cl tp ep (.func (.func 93) #[] #[]) (vP kb) (vP g_21_1) rp ((K.step c A).1.slot) bk er, Ebed9f ba ((K.step c A).2), E632c4 ((K.step c A).2), E85b39 kb c ((K.step c A).1), E6f719 g_21_1 c (newGu c cl ((K.step c A).1.slot) tp ep) g_21_1]) (by kernel_rfl) ?_
  exact ret_ok (post := [E64beb p c cl tp ep (.func (.func 93) #[] #[]) (vP kb) (vP g_21_1) rp ((K.step c A).1.slot) bk er, E85b39 kb c ((K.step c A).1), Ebed9f ba ((K.step c A).2), E632c4 ((K.step c A).2), E6f719 g_21_1 c (newGu c cl ((K.step c A).1.slot) tp ep) g_21_1]) [0, 3, 1, 2, 4] (by kernel_rfl) ⟨g_21_1, rfl, (by kernel_rfl)⟩


theorem guard_ToldK (c : Cfg) (g : Nat) (G : Gu) (hph : G.ph = 0) (hcd : G.code = 0) :
    Ctr Tryz.prog 125 #[vP g] [E6f719 g c G g] (Ret (.tuple #[vI G.block, .nilIface]) [E6f719 g c G g]) := by
  have h := guard_Told c g G (by omega)
  rw [(told_of hph).1] at h
  have h : Ctr Tryz.prog 125 #[.pointer (some ⟨g, 0, none⟩)] [E6f719 g c G g] (Ret (.tuple #[.int .i64 G.block, errV G.code]) [E6f719 g c G g]) := h
  rw [hcd] at h
  exact h


theorem guard_ToldE (c : Cfg) (g : Nat) (G : Gu) (hph : G.ph = 0) (hcd : G.code ≠ 0) :
    Ctr Tryz.prog 125 #[vP g] [E6f719 g c G g] (Ret (.tuple #[vI G.block, .iface 46 (vI G.code)]) [E6f719 g c G g]) := by
  have h := guard_Told c g G (by omega)
  rw [(told_of hph).1] at h
  have h : Ctr Tryz.prog 125 #[.pointer (some ⟨g, 0, none⟩)] [E6f719 g c G g] (Ret (.tuple #[.int .i64 G.block, errV G.code]) [E6f719 g c G g]) := h
  rw [errV_ne hcd] at h
  exact h

noncomputable def B93 : Code := (Tryz.f93.body).getD .skip

theorem pGuardsW (c : Cfg) (p ba kb gb : Nat) (cl tp ep sl bk : Int) (rp er : Value) (G : Gu) (A : Ar) (hc : c.Ok) (hn : A.ws.length = A.n) (hs : 0 ≤ A.steps ∧ A.steps ≤ 1000000000) (hR : RngW A.ws) (hG : Gu.Ok c A.n G) (hd : (G.step c.retry A).1.ph ≠ 0) :
    Ctr Tryz.prog 93 #[vP p, vP ba] [E64beb p c cl tp ep (.func (.func 93) #[] #[]) (vP kb) (vP gb) rp sl bk er, E6f719 gb c G gb, Ebed9f ba A, E632c4 A] (Ret (undef) [E64beb p c cl tp ep (.func (.func 93) #[] #[]) (vP kb) (vP gb) rp sl bk er, E6f719 gb c ((G.step c.retry A).1) gb, Ebed9f ba ((G.step c.retry A).2), E632c4 ((G.step c.retry A).2)]) := by
  refine ctr_of (args := [vP p, vP ba]) (fn := Tryz.f93) (body := B93) (nt := 48) Tryz.func93 (by kernel_rfl) (by kernel_rfl) ?_
  intro F
  refine go_exec (rs := []) (by kernel_rfl) 4000 [.e 0, .z [0, 0] 5 [0, 7, 8]] (o := .obl (p = p) (.stop [.o [0, 0] 5, .c [1, 0], .c [1]] [(0, vP p), (7, vP gb), (8, vP ba)] [E64beb p c cl tp ep (.func (.func 93) #[] #[]) (vP kb) (vP gb) rp sl bk er, E6f719 gb c G gb, Ebed9f ba A, E632c4 A])) (by kernel_rfl) ?_
  refine ok_obl rfl ?_
  refine ok_stop ?_
  refine go_call (some 9) [1, 2, 3] Tryz.call124 (guard_Step c gb ba G A (by first | assumption | omega | (simp only [InK] at *; omega)) (by first | assumption | omega | (simp only [InK] at *; omega)) (by first | assumption | omega | (simp only [InK] at *; omega)) hR hG) (by kernel_rfl) ?_
  rintro v post ⟨rfl, rfl⟩
  refine go_exec (rs := []) (by kernel_rfl) 4000 [.sp [10] [] [.dead]] (o := .br (!((G.step c.retry A).1.ph == 0)) (.ret (undef) [E64beb p c cl tp ep (.func (.func 93) #[] #[]) (vP kb) (vP gb) rp sl bk er, E6f719 gb c ((G.step c.retry A).1) gb, Ebed9f ba ((G.step c.retry A).2), E632c4 ((G.step c.retry A).2)]) (.bad)) (by kernel_rfl) ?_
  refine ok_br (fun _ => ?_) (fun h => absurd (show (!((G.step c.retry A).1.ph == 0)) = true from (by simp [hd])) (by rw [h]; simp))
  exact ret_ok (post := [E64beb p c cl tp ep (.func (.func 93) #[] #[]) (vP kb) (vP gb) rp sl bk er, E6f719 gb c ((G.step c.retry A).1) gb, Ebed9f ba ((G.step c.retry A).2), E632c4 ((G.step c.retry A).2)]) [0, 1, 2, 3] (by kernel_rfl) ⟨rfl, (by kernel_rfl)⟩


theorem pGuardsK (c : Cfg) (p ba kb gb : Nat) (cl tp ep sl bk : Int) (rp er : Value) (G : Gu) (A : Ar) (hc : c.Ok) (hn : A.ws.length = A.n) (hs : 0 ≤ A.steps ∧ A.steps ≤ 1000000000) (hR : RngW A.ws) (hG : Gu.Ok c A.n G) (hd : (G.step c.retry A).1.ph = 0) (he : (G.step c.retry A).1.code = 0) :
    Ctr Tryz.prog 93 #[vP p, vP ba] [E64beb p c cl tp ep (.func (.func 93) #[] #[]) (vP kb) (vP gb) rp sl bk er, E6f719 gb c G gb, Ebed9f ba A, E632c4 A] (Ret (undef) [Eea5c0 p c cl tp ep (.nilFunc) (vP kb) (vP gb) rp sl ((G.step c.retry A).1.block), E6f719 gb c ((G.step c.retry A).1) gb, Ebed9f ba ((G.step c.retry A).2), E632c4 ((G.step c.retry A).2)]) := by
  refine ctr_of (args := [vP p, vP ba]) (fn := Tryz.f93) (body := B93) (nt := 48) Tryz.func93 (by kernel_rfl) (by kernel_rfl) ?_
  intro F
  refine go_exec (rs := []) (by kernel_rfl) 4000 [.e 0, .z [0, 0] 5 [0, 7, 8]] (o := .obl (p = p) (.stop [.o [0, 0] 5, .c [1, 0], .c [1]] [(0, vP p), (7, vP gb), (8, vP ba)] [E64beb p c cl tp ep (.func (.func 93) #[] #[]) (vP kb) (vP gb) rp sl bk er, E6f719 gb c G gb, Ebed9f ba A, E632c4 A])) (by kernel_rfl) ?_
  refine ok_obl rfl ?_
  refine ok_stop ?_
  refine go_call (some 9) [1, 2, 3] Tryz.call124 (guard_Step c gb ba G A (by first | assumption | omega | (simp only [InK] at *; omega)) (by first | assumption | omega | (simp only [InK] at *; omega)) (by first | assumption | omega | (simp only [InK] at *; omega)) hR hG) (by kernel_rfl) ?_
  rintro v post ⟨rfl, rfl⟩
  refine go_exec (rs := []) (by kernel_rfl) 4000 [.sp [10] [.dead] [.e 0, .e 0, .z [0, 1, 1] 6 [0, 15, 16, 20]]] (o := .br (!((G.step c.retry A).1.ph == 0)) (.bad) (.obl (p = p) (.obl (p = p) (.stop [.o [0, 1, 1] 6, .c [1, 1, 1]] [(0, vP p), (15, vP p), (16, vP p), (20, vP gb)] [E64beb p c cl tp ep (.nilFunc) (vP kb) (vP gb) rp sl bk er, E6f719 gb c ((G.step c.retry A).1) gb, Ebed9f ba ((G.step c.retry A).2), E632c4 ((G.step c.retry A).2)])))) (by kernel_rfl) ?_
  refine ok_br (fun h => absurd (show (!((G.step c.retry A).1.ph == 0)) = false from (by simp [hd])) (by rw [h]; simp)) (fun _ => ?_)
  refine ok_obl rfl ?_
  refine ok_obl rfl ?_
  refine ok_stop ?_
  refine go_call (some 21) [1] Tryz.call125 (guard_ToldK c gb ((G.step c.retry A).1) hd he) (by kernel_rfl) ?_
  rintro v post ⟨rfl, rfl⟩
  refine go_exec (rs := []) (by kernel_rfl) 4000 [.e 0, .e 0, .e 0] (o := .obl (p = p) (.obl (p = p) (.obl (p = p) (.ret (undef) [Eea5c0 p c cl tp ep (.nilFunc) (vP kb) (vP gb) rp sl ((G.step c.retry A).1.block), Ebed9f ba ((G.step c.retry A).2), E632c4 ((G.step c.retry A).2), E0d039 gb c ((G.step c.retry A).1) gb (((G.step c.retry A).1).ph) (((G.step c.retry A).1).code)])))) (by kernel_rfl) ?_
  refine ok_obl rfl ?_
  refine ok_obl rfl ?_
  refine ok_obl rfl ?_
  exact ret_ok (post := [Eea5c0 p c cl tp ep (.nilFunc) (vP kb) (vP gb) rp sl ((G.step c.retry A).1.block), E0d039 gb c ((G.step c.retry A).1) gb (((G.step c.retry A).1).ph) (((G.step c.retry A).1).code), Ebed9f ba ((G.step c.retry A).2), E632c4 ((G.step c.retry A).2)]) [0, 3, 1, 2] (by kernel_rfl) ⟨rfl, (by kernel_rfl)⟩


theorem pGuardsE (c : Cfg) (p ba kb gb : Nat) (cl tp ep sl bk : Int) (rp er : Value) (G : Gu) (A : Ar) (hc : c.Ok) (hn : A.ws.length = A.n) (hs : 0 ≤ A.steps ∧ A.steps ≤ 1000000000) (hR : RngW A.ws) (hG : Gu.Ok c A.n G) (hd : (G.step c.retry A).1.ph = 0) (he : (G.step c.retry A).1.code ≠ 0) (hsl : 0 ≤ sl ∧ sl < c.slots) :
    Ctr Tryz.prog 93 #[vP p, vP ba] [E64beb p c cl tp ep (.func (.func 93) #[] #[]) (vP kb) (vP gb) rp sl bk er, E6f719 gb c G gb, Ebed9f ba A, E632c4 A] (fun v L => ∃ (rb : Nat), v = undef ∧ L = [E64beb p c cl tp ep (.func (.func 127) #[] #[]) (vP kb) (vP gb) (vP rb) sl ((G.step c.retry A).1.block) (.iface 46 (vI ((G.step c.retry A).1.code))), E6f719 gb c ((G.step c.retry A).1) gb, Ebed9f ba ((G.step c.retry A).2), E632c4 ((G.step c.retry A).2), .pts rb [vI (slotAt c sl), .bool false] 214]) := by
  refine ctr_of (args := [vP p, vP ba]) (fn := Tryz.f93) (body := B93) (nt := 48) Tryz.func93 (by kernel_rfl) (by kernel_rfl) ?_
  intro F
  refine go_exec (rs := []) (by kernel_rfl) 4000 [.e 0, .z [0, 0] 5 [0, 7, 8]] (o := .obl (p = p) (.stop [.o [0, 0] 5, .c [1, 0], .c [1]] [(0, vP p), (7, vP gb), (8, vP ba)] [E64beb p c cl tp ep (.func (.func 93) #[] #[]) (vP kb) (vP gb) rp sl bk er, E6f719 gb c G gb, Ebed9f ba A, E632c4 A])) (by kernel_rfl) ?_
  refine ok_obl rfl ?_
  refine ok_stop ?_
  refine go_call (some 9) [1, 2, 3] Tryz.call124 (guard_Step c gb ba G A (by first | assumption | omega | (simp only [InK] at *; omega)) (by first | assumption | omega | (simp only [InK] at *; omega)) (by first | assumption | omega | (simp only [InK] at *; omega)) hR hG) (by kernel_rfl) ?_
  rintro v post ⟨rfl, rfl⟩
  refine go_exec (rs := []) (by kernel_rfl) 4000 [.sp [10] [.dead] [.e 0, .e 0, .z [0, 1, 1] 6 [0, 15, 16, 20]]] (o := .br (!((G.step c.retry A).1.ph == 0)) (.bad) (.obl (p = p) (.obl (p = p) (.stop [.o [0, 1, 1] 6, .c [1, 1, 1]] [(0, vP p), (15, vP p), (16, vP p), (20, vP gb)] [E64beb p c cl tp ep (.nilFunc) (vP kb) (vP gb) rp sl bk er, E6f719 gb c ((G.step c.retry A).1) gb, Ebed9f ba ((G.step c.retry A).2), E632c4 ((G.step c.retry A).2)])))) (by kernel_rfl) ?_
  refine ok_br (fun h => absurd (show (!((G.step c.retry A).1.ph == 0)) = false from (by simp [hd])) (by rw [h]; simp)) (fun _ => ?_)
  refine ok_obl rfl ?_
  refine ok_obl rfl ?_
  refine ok_stop ?_
  refine go_call (some 21) [1] Tryz.call125 (guard_ToldE c gb ((G.step c.retry A).1) hd he) (by kernel_rfl) ?_
  rintro v post ⟨rfl, rfl⟩
  refine go_exec (rs := []) (by kernel_rfl) 4000 [.e 0, .e 0, .e 0, .z [0, 0, 1, 1, 1, 1] 0 [0]] (o := .obl (p = p) (.obl (p = p) (.obl (p = p) (.stop [.c [0, 0, 1, 1, 1, 1], .c [1, 0, 1, 1, 1, 1]] [(0, vP p)] [E64beb p c cl tp ep (.nilFunc) (vP kb) (vP gb) rp sl ((G.step c.retry A).1.block) (.iface 46 (vI (((G.step c.retry A).1).code))), Ebed9f ba ((G.step c.retry A).2), E632c4 ((G.step c.retry A).2), E0d039 gb c ((G.step c.retry A).1) gb (((G.step c.retry A).1).ph) (((G.step c.retry A).1).code)])))) (by kernel_rfl) ?_
  refine ok_obl rfl ?_
  refine ok_obl rfl ?_
  refine ok_obl rfl ?_
  refine ok_stop ?_
  refine go_lz (by kernel_rfl) (by kernel_rfl) ?_
  refine lz_node (l' := (mk 13 [0, 1, 2, 3, 4, 5, 6, 7, 8])) (V' := [0, 1, 2, 3, 4, 5, 6, 7, 8]) (T1 := [(0, vP p), (33, vP p), (34, vP p), (35, vP p), (36, vP p), (37, cfgV c), (38, vP p), (39, vP p), (40, .pointer (some ⟨p, 16, none⟩)), (41, vI sl)]) (ps := [p = p, p = p]) [0, 1, 2, 3, 4, 5, 6, 7, 8] [(0, .h .w), (1, .h .w), (2, .h .w), (3, .h .w), (4, .h (.e 0)), (5, .h .w), (6, .h .w), (7, .h .w), (8, .h (.e 0))] [0, 33, 34, 35, 36, 37, 38, 39, 40, 41] [9] (by kernel_rfl) ⟨rfl, rfl, trivial⟩ ⟨?_, trivial⟩
  refine lz_call (l' := (mk 13 [0, 1, 2, 3, 4, 5, 6, 7, 8, 9])) (V' := [0]) (some 42) [] Tryz.call126 (new_Release c sl (by first | assumption | omega | (simp only [InK] at *; omega)) hsl) (by kernel_rfl) ?_
  rintro v post ⟨r_9_1, rfl, rfl⟩
  refine lz_node (l' := (mk 13 [0, 1, 2, 3, 4, 5, 6, 7, 8, 9, 10, 11])) (V' := [0, 10, 11]) (T1 := [(42, vP r_9_1), (0, vP p), (33, vP p), (43, vP p), (44, .pointer (some ⟨p, 15, none⟩))]) (ps := []) [10, 11] [(0, .h .w), (10, .h .w), (11, .h .w)] [42, 0, 33, 43, 44] [12] (by kernel_rfl) trivial ⟨?_, trivial⟩
  refine lz_op (l' := (mk 13 [0, 1, 2, 3, 4, 5, 6, 7, 8, 9, 10, 11, 12])) (V' := []) (so := .obl (p = p) (.ok .skip [E64beb p c cl tp ep (.nilFunc) (vP kb) (vP gb) (vP r_9_1) sl ((G.step c.retry A).1.block) (.iface 46 (vI (((G.step c.retry A).1).code))), Ebed9f ba ((G.step c.retry A).2), E632c4 ((G.step c.retry A).2), E0d039 gb c ((G.step c.retry A).1) gb (((G.step c.retry A).1).ph) (((G.step c.retry A).1).code), .pts r_9_1 [vI (slotAt c sl), .bool false] 214])) (dst := none) (.e 0) (by kernel_rfl) ?_
  refine sat_obl rfl ?_
  refine sat_skip ?_
  refine lz_end (T1 := [(0, vP p)]) (ps := []) [] [] [0] (by kernel_rfl) trivial ?_
  refine go_exec (rs := []) (by kernel_rfl) 4000 [.e 0] (o := .obl (p = p) (.ret (undef) [E64beb p c cl tp ep (.func (.func 127) #[] #[]) (vP kb) (vP gb) (vP r_9_1) sl ((G.step c.retry A).1.block) (.iface 46 (vI (((G.step c.retry A).1).code))), Ebed9f ba ((G.step c.retry A).2), E632c4 ((G.step c.retry A).2), E0d039 gb c ((G.step c.retry A).1) gb (((G.step c.retry A).1).ph) (((G.step c.retry A).1).code), .pts r_9_1 [vI (slotAt c sl), .bool false] 214])) (by kernel_rfl) ?_
  refine ok_obl rfl ?_
  exact ret_ok (post := [E64beb p c cl tp ep (.func (.func 127) #[] #[]) (vP kb) (vP gb) (vP r_9_1) sl ((G.step c.retry A).1.block) (.iface 46 (vI (((G.step c.retry A).1).code))), E0d039 gb c ((G.step c.retry A).1) gb (((G.step c.retry A).1).ph) (((G.step c.retry A).1).code), Ebed9f ba ((G.step c.retry A).2), E632c4 ((G.step c.retry A).2), .pts r_9_1 [vI (slotAt c sl), .bool false] 214]) [0, 3, 1, 2, 4] (by kernel_rfl) ⟨r_9_1, rfl, (by kernel_rfl)⟩

noncomputable def B127 : Code := (Tryz.f127.body).getD .skip

theorem pReleases (c : Cfg) (p ba kb rb : Nat) (cl tp ep sl bk : Int) (gp er : Value) (a : Int) (A : Ar) (hn : A.ws.length = A.n) (hs : 0 ≤ A.steps ∧ A.steps ≤ 1000000000) (hi : 0 ≤ a ∧ a < A.n) :
    Ctr Tryz.prog 127 #[vP p, vP ba] [E64beb p c cl tp ep (.func (.func 127) #[] #[]) (vP kb) gp (vP rb) sl bk er, .pts rb [vI a, .bool false] 214, Ebed9f ba A, E632c4 A] (Ret (undef) [E64beb p c cl tp ep (.nilFunc) (vP kb) gp (vP rb) (-1) bk er, .pts rb [vI a, .bool true] 214, Ebed9f ba (A.store a 0), E632c4 (A.store a 0)]) := by
  refine ctr_of (args := [vP p, vP ba]) (fn := Tryz.f127) (body := B127) (nt := 16) Tryz.func127 (by kernel_rfl) (by kernel_rfl) ?_
  intro F
  refine go_exec (rs := []) (by kernel_rfl) 4000 [.e 0, .z [0] 5 [0, 7, 8]] (o := .obl (p = p) (.stop [.o [0] 5, .c [1]] [(0, vP p), (7, vP rb), (8, vP ba)] [E64beb p c cl tp ep (.func (.func 127) #[] #[]) (vP kb) gp (vP rb) sl bk er, .pts rb [vI a, .bool false] 214, Ebed9f ba A, E632c4 A])) (by kernel_rfl) ?_
  refine ok_obl rfl ?_
  refine ok_stop ?_
  refine go_call (some 9) [1, 2, 3] Tryz.call136 (release_Step rb ba a A (by first | assumption | omega | (simp only [InK] at *; omega)) hi (by first | assumption | omega | (simp only [InK] at *; omega))) (by kernel_rfl) ?_
  rintro v post ⟨rfl, rfl⟩
  refine go_exec (rs := []) (by kernel_rfl) 4000 [.e 0, .e 0] (o := .obl (p = p) (.obl (p = p) (.ret (undef) [E64beb p c cl tp ep (.nilFunc) (vP kb) gp (vP rb) (-1) bk er, .pts rb [vI a, .bool true] 214, Ebed9f ba (A.store a 0), E632c4 (A.store a 0)]))) (by kernel_rfl) ?_
  refine ok_obl rfl ?_
  refine ok_obl rfl ?_
  exact ret_ok (post := [E64beb p c cl tp ep (.nilFunc) (vP kb) gp (vP rb) (-1) bk er, .pts rb [vI a, .bool true] 214, Ebed9f ba (A.store a 0), E632c4 (A.store a 0)]) [0, 1, 2, 3] (by kernel_rfl) ⟨rfl, (by kernel_rfl)⟩

noncomputable def B11 : Code := (Tryz.f11.body).getD .skip

theorem pDone0 (c : Cfg) (p kb : Nat) (cl tp ep sl bk : Int) (gp rp er : Value)  :
    Ctr Tryz.prog 11 #[vP p] [E64beb p c cl tp ep (.nilFunc) (vP kb) gp rp sl bk er] (Ret (.bool true) [E64beb p c cl tp ep (.nilFunc) (vP kb) gp rp sl bk er]) := by
  refine ctr_of (args := [vP p]) (fn := Tryz.f11) (body := B11) (nt := 12) Tryz.func11 (by kernel_rfl) (by kernel_rfl) ?_
  intro F
  refine go_exec (rs := [.tmp 2]) (by kernel_rfl) 4000 [.e 0] (o := .obl (p = p) (.ret (.bool true) [E64beb p c cl tp ep (.nilFunc) (vP kb) gp rp sl bk er])) (by kernel_rfl) ?_
  refine ok_obl rfl ?_
  exact ret_ok (post := [E64beb p c cl tp ep (.nilFunc) (vP kb) gp rp sl bk er]) [0] (by kernel_rfl) ⟨rfl, (by kernel_rfl)⟩


theorem pDone1 (c : Cfg) (p kb : Nat) (cl tp ep sl bk : Int) (gp rp er : Value)  :
    Ctr Tryz.prog 11 #[vP p] [E64beb p c cl tp ep (.func (.func 47) #[] #[]) (vP kb) gp rp sl bk er] (Ret (.bool false) [E64beb p c cl tp ep (.func (.func 47) #[] #[]) (vP kb) gp rp sl bk er]) := by
  refine ctr_of (args := [vP p]) (fn := Tryz.f11) (body := B11) (nt := 12) Tryz.func11 (by kernel_rfl) (by kernel_rfl) ?_
  intro F
  refine go_exec (rs := [.tmp 2]) (by kernel_rfl) 4000 [.e 0] (o := .obl (p = p) (.ret (.bool false) [E64beb p c cl tp ep (.func (.func 47) #[] #[]) (vP kb) gp rp sl bk er])) (by kernel_rfl) ?_
  refine ok_obl rfl ?_
  exact ret_ok (post := [E64beb p c cl tp ep (.func (.func 47) #[] #[]) (vP kb) gp rp sl bk er]) [0] (by kernel_rfl) ⟨rfl, (by kernel_rfl)⟩


theorem pDone2 (c : Cfg) (p kb : Nat) (cl tp ep sl bk : Int) (gp rp er : Value)  :
    Ctr Tryz.prog 11 #[vP p] [E64beb p c cl tp ep (.func (.func 93) #[] #[]) (vP kb) gp rp sl bk er] (Ret (.bool false) [E64beb p c cl tp ep (.func (.func 93) #[] #[]) (vP kb) gp rp sl bk er]) := by
  refine ctr_of (args := [vP p]) (fn := Tryz.f11) (body := B11) (nt := 12) Tryz.func11 (by kernel_rfl) (by kernel_rfl) ?_
  intro F
  refine go_exec (rs := [.tmp 2]) (by kernel_rfl) 4000 [.e 0] (o := .obl (p = p) (.ret (.bool false) [E64beb p c cl tp ep (.func (.func 93) #[] #[]) (vP kb) gp rp sl bk er])) (by kernel_rfl) ?_
  refine ok_obl rfl ?_
  exact ret_ok (post := [E64beb p c cl tp ep (.func (.func 93) #[] #[]) (vP kb) gp rp sl bk er]) [0] (by kernel_rfl) ⟨rfl, (by kernel_rfl)⟩


theorem pDone3 (c : Cfg) (p kb : Nat) (cl tp ep sl bk : Int) (gp rp er : Value)  :
    Ctr Tryz.prog 11 #[vP p] [E64beb p c cl tp ep (.func (.func 127) #[] #[]) (vP kb) gp rp sl bk er] (Ret (.bool false) [E64beb p c cl tp ep (.func (.func 127) #[] #[]) (vP kb) gp rp sl bk er]) := by
  refine ctr_of (args := [vP p]) (fn := Tryz.f11) (body := B11) (nt := 12) Tryz.func11 (by kernel_rfl) (by kernel_rfl) ?_
  intro F
  refine go_exec (rs := [.tmp 2]) (by kernel_rfl) 4000 [.e 0] (o := .obl (p = p) (.ret (.bool false) [E64beb p c cl tp ep (.func (.func 127) #[] #[]) (vP kb) gp rp sl bk er])) (by kernel_rfl) ?_
  refine ok_obl rfl ?_
  exact ret_ok (post := [E64beb p c cl tp ep (.func (.func 127) #[] #[]) (vP kb) gp rp sl bk er]) [0] (by kernel_rfl) ⟨rfl, (by kernel_rfl)⟩


theorem pDone_nil   :
    Ctr Tryz.prog 11 #[.pointer none] [] (Ret (.bool true) []) := by
  refine ctr_of (args := [.pointer none]) (fn := Tryz.f11) (body := B11) (nt := 12) Tryz.func11 (by kernel_rfl) (by kernel_rfl) ?_
  intro F
  refine go_exec (rs := [.tmp 2]) (by kernel_rfl) 4000 [] (o := .ret (.bool true) []) (by kernel_rfl) ?_
  exact ret_ok (post := []) [] (by kernel_rfl) ⟨rfl, (by kernel_rfl)⟩

noncomputable def B10 : Code := (Tryz.f10.body).getD .skip

theorem pStep0 (c : Cfg) (p ba kb : Nat) (cl tp ep sl bk : Int) (gp rp er : Value) (A : Ar)  :
    Ctr Tryz.prog 10 #[vP p, vP ba] [E64beb p c cl tp ep (.nilFunc) (vP kb) gp rp sl bk er, Ebed9f ba A, E632c4 A] (Ret (.bool true) [E64beb p c cl tp ep (.nilFunc) (vP kb) gp rp sl bk er, Ebed9f ba A, E632c4 A]) := by
  refine ctr_of (args := [vP p, vP ba]) (fn := Tryz.f10) (body := B10) (nt := 17) Tryz.func10 (by kernel_rfl) (by kernel_rfl) ?_
  intro F
  refine go_exec (rs := [.tmp 4]) (by kernel_rfl) 4000 [.z [0, 0, 1] 1 [0, 1, 5]] (o := .stop [.o [0, 0, 1] 1, .c [1, 0, 1], .c [1, 1]] [(0, vP p), (1, vP ba), (5, vP p)] [E64beb p c cl tp ep (.nilFunc) (vP kb) gp rp sl bk er, Ebed9f ba A, E632c4 A]) (by kernel_rfl) ?_
  refine ok_stop ?_
  refine go_call (some 6) [0] Tryz.call11 (pDone0 c p kb cl tp ep sl bk gp rp er) (by kernel_rfl) ?_
  rintro v post ⟨rfl, rfl⟩
  refine go_exec (rs := [.tmp 4]) (by kernel_rfl) 4000 [.z [0, 1, 1] 1 [15]] (o := .stop [.o [0, 1, 1] 1, .c [1, 1, 1]] [(15, vP p)] [Ebed9f ba A, E632c4 A, E64beb p c cl tp ep (.nilFunc) (vP kb) gp rp sl bk er]) (by kernel_rfl) ?_
  refine ok_stop ?_
  refine go_call (some 16) [2] Tryz.call11 (pDone0 c p kb cl tp ep sl bk gp rp er) (by kernel_rfl) ?_
  rintro v post ⟨rfl, rfl⟩
  refine go_exec (rs := [.tmp 4]) (by kernel_rfl) 4000 [] (o := .ret (.bool true) [Ebed9f ba A, E632c4 A, E64beb p c cl tp ep (.nilFunc) (vP kb) gp rp sl bk er]) (by kernel_rfl) ?_
  exact ret_ok (post := [E64beb p c cl tp ep (.nilFunc) (vP kb) gp rp sl bk er, Ebed9f ba A, E632c4 A]) [2, 0, 1] (by kernel_rfl) ⟨rfl, (by kernel_rfl)⟩


theorem pStep1W (c : Cfg) (p ba kb : Nat) (cl tp ep sl bk : Int) (gp rp er : Value) (K : Cl) (A : Ar) (hc : c.Ok) (hn : A.ws.length = A.n) (hs : 0 ≤ A.steps ∧ A.steps ≤ 1000000000) (hz : (A.n : Int) = sizeOfC c) (hK : Cl.Ok c K) (ha : (K.step c A).1.at_ ≠ -1) :
    Ctr Tryz.prog 10 #[vP p, vP ba] [E64beb p c cl tp ep (.func (.func 47) #[] #[]) (vP kb) gp rp sl bk er, E85b39 kb c K, Ebed9f ba A, E632c4 A] (Ret (.bool false) [E64beb p c cl tp ep (.func (.func 47) #[] #[]) (vP kb) gp rp sl bk er, E85b39 kb c ((K.step c A).1), Ebed9f ba ((K.step c A).2), E632c4 ((K.step c A).2)]) := by
  refine ctr_of (args := [vP p, vP ba]) (fn := Tryz.f10) (body := B10) (nt := 17) Tryz.func10 (by kernel_rfl) (by kernel_rfl) ?_
  intro F
  refine go_exec (rs := [.tmp 4]) (by kernel_rfl) 4000 [.z [0, 0, 1] 1 [0, 1, 5]] (o := .stop [.o [0, 0, 1] 1, .c [1, 0, 1], .c [1, 1]] [(0, vP p), (1, vP ba), (5, vP p)] [E64beb p c cl tp ep (.func (.func 47) #[] #[]) (vP kb) gp rp sl bk er, E85b39 kb c K, Ebed9f ba A, E632c4 A]) (by kernel_rfl) ?_
  refine ok_stop ?_
  refine go_call (some 6) [0] Tryz.call11 (pDone1 c p kb cl tp ep sl bk gp rp er) (by kernel_rfl) ?_
  rintro v post ⟨rfl, rfl⟩
  refine go_exec (rs := [.tmp 4]) (by kernel_rfl) 4000 [.e 3, .z [0, 1, 0, 1] 6 [0, 11, 12, 13]] (o := .obl (p = p) (.stop [.o [0, 1, 0, 1] 6, .c [1, 1]] [(0, vP p), (11, .func (.func 47) #[] #[]), (12, vP p), (13, vP ba)] [E85b39 kb c K, Ebed9f ba A, E632c4 A, E64beb p c cl tp ep (.func (.func 47) #[] #[]) (vP kb) gp rp sl bk er])) (by kernel_rfl) ?_
  refine ok_obl rfl ?_
  refine ok_stop ?_
  refine go_call (some 14) [3, 0, 1, 2] Tryz.call47 (pClaimsW c p ba kb cl tp ep sl bk gp rp er K A (by first | assumption | omega | (simp only [InK] at *; omega)) (by first | assumption | omega | (simp only [InK] at *; omega)) (by first | assumption | omega | (simp only [InK] at *; omega)) (by first | assumption | omega | (simp only [InK] at *; omega)) (by first | assumption | omega | (simp only [InK] at *; omega)) (by first | assumption | omega | (simp only [InK] at *; omega))) (by kernel_rfl) ?_
  rintro v post ⟨rfl, rfl⟩
  refine go_exec (rs := [.tmp 4]) (by kernel_rfl) 4000 [.z [0, 1, 1] 1 [15]] (o := .stop [.o [0, 1, 1] 1, .c [1, 1, 1]] [(15, vP p)] [E64beb p c cl tp ep (.func (.func 47) #[] #[]) (vP kb) gp rp sl bk er, E85b39 kb c ((K.step c A).1), Ebed9f ba ((K.step c A).2), E632c4 ((K.step c A).2)]) (by kernel_rfl) ?_
  refine ok_stop ?_
  refine go_call (some 16) [0] Tryz.call11 (pDone1 c p kb cl tp ep sl bk gp rp er) (by kernel_rfl) ?_
  rintro v post ⟨rfl, rfl⟩
  refine go_exec (rs := [.tmp 4]) (by kernel_rfl) 4000 [] (o := .ret (.bool false) [E85b39 kb c ((K.step c A).1), Ebed9f ba ((K.step c A).2), E632c4 ((K.step c A).2), E64beb p c cl tp ep (.func (.func 47) #[] #[]) (vP kb) gp rp sl bk er]) (by kernel_rfl) ?_
  exact ret_ok (post := [E64beb p c cl tp ep (.func (.func 47) #[] #[]) (vP kb) gp rp sl bk er, E85b39 kb c ((K.step c A).1), Ebed9f ba ((K.step c A).2), E632c4 ((K.step c A).2)]) [3, 0, 1, 2] (by kernel_rfl) ⟨rfl, (by kernel_rfl)⟩


theorem pStep1N (c : Cfg) (p ba kb : Nat) (cl tp ep sl bk : Int) (gp rp er : Value) (K : Cl) (A : Ar) (hc : c.Ok) (hn : A.ws.length = A.n) (hs : 0 ≤ A.steps ∧ A.steps ≤ 1000000000) (hz : (A.n : Int) = sizeOfC c) (hK : Cl.Ok c K) (ha : (K.step c A).1.at_ = -1) (hq : (K.step c A).1.slot = -1) :
    Ctr Tryz.prog 10 #[vP p, vP ba] [E64beb p c cl tp ep (.func (.func 47) #[] #[]) (vP kb) gp rp sl bk er, E85b39 kb c K, Ebed9f ba A, E632c4 A] (Ret (.bool true) [E64beb p c cl tp ep (.nilFunc) (vP kb) gp rp ((K.step c A).1.slot) bk (.iface 46 (vI 19)), E85b39 kb c ((K.step c A).1), Ebed9f ba ((K.step c A).2), E632c4 ((K.step c A).2)]) := by
  refine ctr_of (args := [vP p, vP ba]) (fn := Tryz.f10) (body := B10) (nt := 17) Tryz.func10 (by kernel_rfl) (by kernel_rfl) ?_
  intro F
  refine go_exec (rs := [.tmp 4]) (by kernel_rfl) 4000 [.z [0, 0, 1] 1 [0, 1, 5]] (o := .stop [.o [0, 0, 1] 1, .c [1, 0, 1], .c [1, 1]] [(0, vP p), (1, vP ba), (5, vP p)] [E64beb p c cl tp ep (.func (.func 47) #[] #[]) (vP kb) gp rp sl bk er, E85b39 kb c K, Ebed9f ba A, E632c4 A]) (by kernel_rfl) ?_
  refine ok_stop ?_
  refine go_call (some 6) [0] Tryz.call11 (pDone1 c p kb cl tp ep sl bk gp rp er) (by kernel_rfl) ?_
  rintro v post ⟨rfl, rfl⟩
  refine go_exec (rs := [.tmp 4]) (by kernel_rfl) 4000 [.e 3, .z [0, 1, 0, 1] 6 [0, 11, 12, 13]] (o := .obl (p = p) (.stop [.o [0, 1, 0, 1] 6, .c [1, 1]] [(0, vP p), (11, .func (.func 47) #[] #[]), (12, vP p), (13, vP ba)] [E85b39 kb c K, Ebed9f ba A, E632c4 A, E64beb p c cl tp ep (.func (.func 47) #[] #[]) (vP kb) gp rp sl bk er])) (by kernel_rfl) ?_
  refine ok_obl rfl ?_
  refine ok_stop ?_
  refine go_call (some 14) [3, 0, 1, 2] Tryz.call47 (pClaimsN c p ba kb cl tp ep sl bk gp rp er K A (by first | assumption | omega | (simp only [InK] at *; omega)) (by first | assumption | omega | (simp only [InK] at *; omega)) (by first | assumption | omega | (simp only [InK] at *; omega)) (by first | assumption | omega | (simp only [InK] at *; omega)) (by first | assumption | omega | (simp only [InK] at *; omega)) (by first | assumption | omega | (simp only [InK] at *; omega)) (by first | assumption | omega | (simp only [InK] at *; omega))) (by kernel_rfl) ?_
  rintro v post ⟨rfl, rfl⟩
  refine go_exec (rs := [.tmp 4]) (by kernel_rfl) 4000 [.z [0, 1, 1] 1 [15]] (o := .stop [.o [0, 1, 1] 1, .c [1, 1, 1]] [(15, vP p)] [E64beb p c cl tp ep (.nilFunc) (vP kb) gp rp ((K.step c A).1.slot) bk (.iface 46 (vI 19)), E85b39 kb c ((K.step c A).1), Ebed9f ba ((K.step c A).2), E632c4 ((K.step c A).2)]) (by kernel_rfl) ?_
  refine ok_stop ?_
  refine go_call (some 16) [0] Tryz.call11 (pDone0 c p kb cl tp ep ((K.step c A).1.slot) bk gp rp (.iface 46 (vI 19))) (by kernel_rfl) ?_
  rintro v post ⟨rfl, rfl⟩
  refine go_exec (rs := [.tmp 4]) (by kernel_rfl) 4000 [] (o := .ret (.bool true) [E85b39 kb c ((K.step c A).1), Ebed9f ba ((K.step c A).2), E632c4 ((K.step c A).2), E64beb p c cl tp ep (.nilFunc) (vP kb) gp rp ((K.step c A).1.slot) bk (.iface 46 (vI 19))]) (by kernel_rfl) ?_
  exact ret_ok (post := [E64beb p c cl tp ep (.nilFunc) (vP kb) gp rp ((K.step c A).1.slot) bk (.iface 46 (vI 19)), E85b39 kb c ((K.step c A).1), Ebed9f ba ((K.step c A).2), E632c4 ((K.step c A).2)]) [3, 0, 1, 2] (by kernel_rfl) ⟨rfl, (by kernel_rfl)⟩


theorem pStep1Y (c : Cfg) (p ba kb : Nat) (cl tp ep sl bk : Int) (gp rp er : Value) (K : Cl) (A : Ar) (hc : c.Ok) (hn : A.ws.length = A.n) (hs : 0 ≤ A.steps ∧ A.steps ≤ 1000000000) (hz : (A.n : Int) = sizeOfC c) (hK : Cl.Ok c K) (ha : (K.step c A).1.at_ = -1) (hq : (K.step c A).1.slot ≠ -1) (hsl : 0 ≤ (K.step c A).1.slot ∧ (K.step c A).1.slot < c.slots) (hcl : 0 ≤ cl ∧ cl < c.clients) (htp : 0 ≤ tp ∧ tp < c.topics) :
    Ctr Tryz.prog 10 #[vP p, vP ba] [E64beb p c cl tp ep (.func (.func 47) #[] #[]) (vP kb) gp rp sl bk er, E85b39 kb c K, Ebed9f ba A, E632c4 A] (fun v L => ∃ (gb : Nat), v = .bool false ∧ L = [E64beb p c cl tp ep (.func (.func 93) #[] #[]) (vP kb) (vP gb) rp ((K.step c A).1.slot) bk er, E85b39 kb c ((K.step c A).1), Ebed9f ba ((K.step c A).2), E632c4 ((K.step c A).2), E6f719 gb c (newGu c cl (K.step c A).1.slot tp ep) gb]) := by
  refine ctr_of (args := [vP p, vP ba]) (fn := Tryz.f10) (body := B10) (nt := 17) Tryz.func10 (by kernel_rfl) (by kernel_rfl) ?_
  intro F
  refine go_exec (rs := [.tmp 4]) (by kernel_rfl) 4000 [.z [0, 0, 1] 1 [0, 1, 5]] (o := .stop [.o [0, 0, 1] 1, .c [1, 0, 1], .c [1, 1]] [(0, vP p), (1, vP ba), (5, vP p)] [E64beb p c cl tp ep (.func (.func 47) #[] #[]) (vP kb) gp rp sl bk er, E85b39 kb c K, Ebed9f ba A, E632c4 A]) (by kernel_rfl) ?_
  refine ok_stop ?_
  refine go_call (some 6) [0] Tryz.call11 (pDone1 c p kb cl tp ep sl bk gp rp er) (by kernel_rfl) ?_
  rintro v post ⟨rfl, rfl⟩
  refine go_exec (rs := [.tmp 4]) (by kernel_rfl) 4000 [.e 3, .z [0, 1, 0, 1] 6 [0, 11, 12, 13]] (o := .obl (p = p) (.stop [.o [0, 1, 0, 1] 6, .c [1, 1]] [(0, vP p), (11, .func (.func 47) #[] #[]), (12, vP p), (13, vP ba)] [E85b39 kb c K, Ebed9f ba A, E632c4 A, E64beb p c cl tp ep (.func (.func 47) #[] #[]) (vP kb) gp rp sl bk er])) (by kernel_rfl) ?_
  refine ok_obl rfl ?_
  refine ok_stop ?_
  refine go_call (some 14) [3, 0, 1, 2] Tryz.call47 (pClaimsY c p ba kb cl tp ep sl bk gp rp er K A (by first | assumption | omega | (simp only [InK] at *; omega)) (by first | assumption | omega | (simp only [InK] at *; omega)) (by first | assumption | omega | (simp only [InK] at *; omega)) (by first | assumption | omega | (simp only [InK] at *; omega)) (by first | assumption | omega | (simp only [InK] at *; omega)) (by first | assumption | omega | (simp only [InK] at *; omega)) (by first | assumption | omega | (simp only [InK] at *; omega)) (by first | assumption | omega | (simp only [InK] at *; omega)) (by first | assumption | omega | (simp only [InK] at *; omega)) (by first | assumption | omega | (simp only [InK] at *; omega))) (by kernel_rfl) ?_
  rintro v post ⟨gb_1, rfl, rfl⟩
  refine go_exec (rs := [.tmp 4]) (by kernel_rfl) 4000 [.z [0, 1, 1] 1 [15]] (o := .stop [.o [0, 1, 1] 1, .c [1, 1, 1]] [(15, vP p)] [E64beb p c cl tp ep (.func (.func 93) #[] #[]) (vP kb) (vP gb_1) rp ((K.step c A).1.slot) bk er, E85b39 kb c ((K.step c A).1), Ebed9f ba ((K.step c A).2), E632c4 ((K.step c A).2), E6f719 gb_1 c (newGu c cl (K.step c A).1.slot tp ep) gb_1]) (by kernel_rfl) ?_
  refine ok_stop ?_
  refine go_call (some 16) [0] Tryz.call11 (pDone2 c p kb cl tp ep ((K.step c A).1.slot) bk (vP gb_1) rp er) (by kernel_rfl) ?_
  rintro v post ⟨rfl, rfl⟩
  refine go_exec (rs := [.tmp 4]) (by kernel_rfl) 4000 [] (o := .ret (.bool false) [E85b39 kb c ((K.step c A).1), Ebed9f ba ((K.step c A).2), E632c4 ((K.step c A).2), E6f719 gb_1 c (newGu c cl (K.step c A).1.slot tp ep) gb_1, E64beb p c cl tp ep (.func (.func 93) #[] #[]) (vP kb) (vP gb_1) rp ((K.step c A).1.slot) bk er]) (by kernel_rfl) ?_
  exact ret_ok (post := [E64beb p c cl tp ep (.func (.func 93) #[] #[]) (vP kb) (vP gb_1) rp ((K.step c A).1.slot) bk er, E85b39 kb c ((K.step c A).1), Ebed9f ba ((K.step c A).2), E632c4 ((K.step c A).2), E6f719 gb_1 c (newGu c cl (K.step c A).1.slot tp ep) gb_1]) [4, 0, 1, 2, 3] (by kernel_rfl) ⟨gb_1, rfl, (by kernel_rfl)⟩


theorem pStep2W (c : Cfg) (p ba kb gb : Nat) (cl tp ep sl bk : Int) (rp er : Value) (G : Gu) (A : Ar) (hc : c.Ok) (hn : A.ws.length = A.n) (hs : 0 ≤ A.steps ∧ A.steps ≤ 1000000000) (hR : RngW A.ws) (hG : Gu.Ok c A.n G) (hd : (G.step c.retry A).1.ph ≠ 0) :
    Ctr Tryz.prog 10 #[vP p, vP ba] [E64beb p c cl tp ep (.func (.func 93) #[] #[]) (vP kb) (vP gb) rp sl bk er, E6f719 gb c G gb, Ebed9f ba A, E632c4 A] (Ret (.bool false) [E64beb p c cl tp ep (.func (.func 93) #[] #[]) (vP kb) (vP gb) rp sl bk er, E6f719 gb c ((G.step c.retry A).1) gb, Ebed9f ba ((G.step c.retry A).2), E632c4 ((G.step c.retry A).2)]) := by
  refine ctr_of (args := [vP p, vP ba]) (fn := Tryz.f10) (body := B10) (nt := 17) Tryz.func10 (by kernel_rfl) (by kernel_rfl) ?_
  intro F
  refine go_exec (rs := [.tmp 4]) (by kernel_rfl) 4000 [.z [0, 0, 1] 1 [0, 1, 5]] (o := .stop [.o [0, 0, 1] 1, .c [1, 0, 1], .c [1, 1]] [(0, vP p), (1, vP ba), (5, vP p)] [E64beb p c cl tp ep (.func (.func 93) #[] #[]) (vP kb) (vP gb) rp sl bk er, E6f719 gb c G gb, Ebed9f ba A, E632c4 A]) (by kernel_rfl) ?_
  refine ok_stop ?_
  refine go_call (some 6) [0] Tryz.call11 (pDone2 c p kb cl tp ep sl bk (vP gb) rp er) (by kernel_rfl) ?_
  rintro v post ⟨rfl, rfl⟩
  refine go_exec (rs := [.tmp 4]) (by kernel_rfl) 4000 [.e 3, .z [0, 1, 0, 1] 6 [0, 11, 12, 13]] (o := .obl (p = p) (.stop [.o [0, 1, 0, 1] 6, .c [1, 1]] [(0, vP p), (11, .func (.func 93) #[] #[]), (12, vP p), (13, vP ba)] [E6f719 gb c G gb, Ebed9f ba A, E632c4 A, E64beb p c cl tp ep (.func (.func 93) #[] #[]) (vP kb) (vP gb) rp sl bk er])) (by kernel_rfl) ?_
  refine ok_obl rfl ?_
  refine ok_stop ?_
  refine go_call (some 14) [3, 0, 1, 2] Tryz.call93 (pGuardsW c p ba kb gb cl tp ep sl bk rp er G A (by first | assumption | omega | (simp only [InK] at *; omega)) (by first | assumption | omega | (simp only [InK] at *; omega)) (by first | assumption | omega | (simp only [InK] at *; omega)) (by first | assumption | omega | (simp only [InK] at *; omega)) (by first | assumption | omega | (simp only [InK] at *; omega)) (by first | assumption | omega | (simp only [InK] at *; omega))) (by kernel_rfl) ?_
  rintro v post ⟨rfl, rfl⟩
  refine go_exec (rs := [.tmp 4]) (by kernel_rfl) 4000 [.z [0, 1, 1] 1 [15]] (o := .stop [.o [0, 1, 1] 1, .c [1, 1, 1]] [(15, vP p)] [E64beb p c cl tp ep (.func (.func 93) #[] #[]) (vP kb) (vP gb) rp sl bk er, E6f719 gb c ((G.step c.retry A).1) gb, Ebed9f ba ((G.step c.retry A).2), E632c4 ((G.step c.retry A).2)]) (by kernel_rfl) ?_
  refine ok_stop ?_
  refine go_call (some 16) [0] Tryz.call11 (pDone2 c p kb cl tp ep sl bk (vP gb) rp er) (by kernel_rfl) ?_
  rintro v post ⟨rfl, rfl⟩
  refine go_exec (rs := [.tmp 4]) (by kernel_rfl) 4000 [] (o := .ret (.bool false) [E6f719 gb c ((G.step c.retry A).1) gb, Ebed9f ba ((G.step c.retry A).2), E632c4 ((G.step c.retry A).2), E64beb p c cl tp ep (.func (.func 93) #[] #[]) (vP kb) (vP gb) rp sl bk er]) (by kernel_rfl) ?_
  exact ret_ok (post := [E64beb p c cl tp ep (.func (.func 93) #[] #[]) (vP kb) (vP gb) rp sl bk er, E6f719 gb c ((G.step c.retry A).1) gb, Ebed9f ba ((G.step c.retry A).2), E632c4 ((G.step c.retry A).2)]) [3, 0, 1, 2] (by kernel_rfl) ⟨rfl, (by kernel_rfl)⟩


theorem pStep2K (c : Cfg) (p ba kb gb : Nat) (cl tp ep sl bk : Int) (rp er : Value) (G : Gu) (A : Ar) (hc : c.Ok) (hn : A.ws.length = A.n) (hs : 0 ≤ A.steps ∧ A.steps ≤ 1000000000) (hR : RngW A.ws) (hG : Gu.Ok c A.n G) (hd : (G.step c.retry A).1.ph = 0) (he : (G.step c.retry A).1.code = 0) :
    Ctr Tryz.prog 10 #[vP p, vP ba] [E64beb p c cl tp ep (.func (.func 93) #[] #[]) (vP kb) (vP gb) rp sl bk er, E6f719 gb c G gb, Ebed9f ba A, E632c4 A] (Ret (.bool true) [Eea5c0 p c cl tp ep (.nilFunc) (vP kb) (vP gb) rp sl ((G.step c.retry A).1.block), E6f719 gb c ((G.step c.retry A).1) gb, Ebed9f ba ((G.step c.retry A).2), E632c4 ((G.step c.retry A).2)]) := by
  refine ctr_of (args := [vP p, vP ba]) (fn := Tryz.f10) (body := B10) (nt := 17) Tryz.func10 (by kernel_rfl) (by kernel_rfl) ?_
  intro F
  refine go_exec (rs := [.tmp 4]) (by kernel_rfl) 4000 [.z [0, 0, 1] 1 [0, 1, 5]] (o := .stop [.o [0, 0, 1] 1, .c [1, 0, 1], .c [1, 1]] [(0, vP p), (1, vP ba), (5, vP p)] [E64beb p c cl tp ep (.func (.func 93) #[] #[]) (vP kb) (vP gb) rp sl bk er, E6f719 gb c G gb, Ebed9f ba A, E632c4 A]) (by kernel_rfl) ?_
  refine ok_stop ?_
  refine go_call (some 6) [0] Tryz.call11 (pDone2 c p kb cl tp ep sl bk (vP gb) rp er) (by kernel_rfl) ?_
  rintro v post ⟨rfl, rfl⟩
  refine go_exec (rs := [.tmp 4]) (by kernel_rfl) 4000 [.e 3, .z [0, 1, 0, 1] 6 [0, 11, 12, 13]] (o := .obl (p = p) (.stop [.o [0, 1, 0, 1] 6, .c [1, 1]] [(0, vP p), (11, .func (.func 93) #[] #[]), (12, vP p), (13, vP ba)] [E6f719 gb c G gb, Ebed9f ba A, E632c4 A, E64beb p c cl tp ep (.func (.func 93) #[] #[]) (vP kb) (vP gb) rp sl bk er])) (by kernel_rfl) ?_
  refine ok_obl rfl ?_
  refine ok_stop ?_
  refine go_call (some 14) [3, 0, 1, 2] Tryz.call93 (pGuardsK c p ba kb gb cl tp ep sl bk rp er G A (by first | assumption | omega | (simp only [InK] at *; omega)) (by first | assumption | omega | (simp only [InK] at *; omega)) (by first | assumption | omega | (simp only [InK] at *; omega)) (by first | assumption | omega | (simp only [InK] at *; omega)) (by first | assumption | omega | (simp only [InK] at *; omega)) (by first | assumption | omega | (simp only [InK] at *; omega)) (by first | assumption | omega | (simp only [InK] at *; omega))) (by kernel_rfl) ?_
  rintro v post ⟨rfl, rfl⟩
  refine go_exec (rs := [.tmp 4]) (by kernel_rfl) 4000 [.z [0, 1, 1] 1 [15]] (o := .stop [.o [0, 1, 1] 1, .c [1, 1, 1]] [(15, vP p)] [Eea5c0 p c cl tp ep (.nilFunc) (vP kb) (vP gb) rp sl ((G.step c.retry A).1.block), E6f719 gb c ((G.step c.retry A).1) gb, Ebed9f ba ((G.step c.retry A).2), E632c4 ((G.step c.retry A).2)]) (by kernel_rfl) ?_
  refine ok_stop ?_
  refine go_call (some 16) [0] Tryz.call11 (pDone0 c p kb cl tp ep sl ((G.step c.retry A).1.block) (vP gb) rp (.nilIface)) (by kernel_rfl) ?_
  rintro v post ⟨rfl, rfl⟩
  refine go_exec (rs := [.tmp 4]) (by kernel_rfl) 4000 [] (o := .ret (.bool true) [E6f719 gb c ((G.step c.retry A).1) gb, Ebed9f ba ((G.step c.retry A).2), E632c4 ((G.step c.retry A).2), Eea5c0 p c cl tp ep (.nilFunc) (vP kb) (vP gb) rp sl ((G.step c.retry A).1.block)]) (by kernel_rfl) ?_
  exact ret_ok (post := [Eea5c0 p c cl tp ep (.nilFunc) (vP kb) (vP gb) rp sl ((G.step c.retry A).1.block), E6f719 gb c ((G.step c.retry A).1) gb, Ebed9f ba ((G.step c.retry A).2), E632c4 ((G.step c.retry A).2)]) [3, 0, 1, 2] (by kernel_rfl) ⟨rfl, (by kernel_rfl)⟩


theorem pStep2E (c : Cfg) (p ba kb gb : Nat) (cl tp ep sl bk : Int) (rp er : Value) (G : Gu) (A : Ar) (hc : c.Ok) (hn : A.ws.length = A.n) (hs : 0 ≤ A.steps ∧ A.steps ≤ 1000000000) (hR : RngW A.ws) (hG : Gu.Ok c A.n G) (hd : (G.step c.retry A).1.ph = 0) (he : (G.step c.retry A).1.code ≠ 0) (hsl : 0 ≤ sl ∧ sl < c.slots) :
    Ctr Tryz.prog 10 #[vP p, vP ba] [E64beb p c cl tp ep (.func (.func 93) #[] #[]) (vP kb) (vP gb) rp sl bk er, E6f719 gb c G gb, Ebed9f ba A, E632c4 A] (fun v L => ∃ (rb : Nat), v = .bool false ∧ L = [E64beb p c cl tp ep (.func (.func 127) #[] #[]) (vP kb) (vP gb) (vP rb) sl ((G.step c.retry A).1.block) (.iface 46 (vI ((G.step c.retry A).1.code))), E6f719 gb c ((G.step c.retry A).1) gb, Ebed9f ba ((G.step c.retry A).2), E632c4 ((G.step c.retry A).2), .pts rb [vI (slotAt c sl), .bool false] 214]) := by
  refine ctr_of (args := [vP p, vP ba]) (fn := Tryz.f10) (body := B10) (nt := 17) Tryz.func10 (by kernel_rfl) (by kernel_rfl) ?_
  intro F
  refine go_exec (rs := [.tmp 4]) (by kernel_rfl) 4000 [.z [0, 0, 1] 1 [0, 1, 5]] (o := .stop [.o [0, 0, 1] 1, .c [1, 0, 1], .c [1, 1]] [(0, vP p), (1, vP ba), (5, vP p)] [E64beb p c cl tp ep (.func (.func 93) #[] #[]) (vP kb) (vP gb) rp sl bk er, E6f719 gb c G gb, Ebed9f ba A, E632c4 A]) (by kernel_rfl) ?_
  refine ok_stop ?_
  refine go_call (some 6) [0] Tryz.call11 (pDone2 c p kb cl tp ep sl bk (vP gb) rp er) (by kernel_rfl) ?_
  rintro v post ⟨rfl, rfl⟩
  refine go_exec (rs := [.tmp 4]) (by kernel_rfl) 4000 [.e 3, .z [0, 1, 0, 1] 6 [0, 11, 12, 13]] (o := .obl (p = p) (.stop [.o [0, 1, 0, 1] 6, .c [1, 1]] [(0, vP p), (11, .func (.func 93) #[] #[]), (12, vP p), (13, vP ba)] [E6f719 gb c G gb, Ebed9f ba A, E632c4 A, E64beb p c cl tp ep (.func (.func 93) #[] #[]) (vP kb) (vP gb) rp sl bk er])) (by kernel_rfl) ?_
  refine ok_obl rfl ?_
  refine ok_stop ?_
  refine go_call (some 14) [3, 0, 1, 2] Tryz.call93 (pGuardsE c p ba kb gb cl tp ep sl bk rp er G A (by first | assumption | omega | (simp only [InK] at *; omega)) (by first | assumption | omega | (simp only [InK] at *; omega)) (by first | assumption | omega | (simp only [InK] at *; omega)) (by first | assumption | omega | (simp only [InK] at *; omega)) (by first | assumption | omega | (simp only [InK] at *; omega)) (by first | assumption | omega | (simp only [InK] at *; omega)) (by first | assumption | omega | (simp only [InK] at *; omega)) (by first | assumption | omega | (simp only [InK] at *; omega))) (by kernel_rfl) ?_
  rintro v post ⟨rb_1, rfl, rfl⟩
  refine go_exec (rs := [.tmp 4]) (by kernel_rfl) 4000 [.z [0, 1, 1] 1 [15]] (o := .stop [.o [0, 1, 1] 1, .c [1, 1, 1]] [(15, vP p)] [E64beb p c cl tp ep (.func (.func 127) #[] #[]) (vP kb) (vP gb) (vP rb_1) sl ((G.step c.retry A).1.block) (.iface 46 (vI ((G.step c.retry A).1.code))), E6f719 gb c ((G.step c.retry A).1) gb, Ebed9f ba ((G.step c.retry A).2), E632c4 ((G.step c.retry A).2), .pts rb_1 [vI (slotAt c sl), .bool false] 214]) (by kernel_rfl) ?_
  refine ok_stop ?_
  refine go_call (some 16) [0] Tryz.call11 (pDone3 c p kb cl tp ep sl ((G.step c.retry A).1.block) (vP gb) (vP rb_1) (.iface 46 (vI ((G.step c.retry A).1.code)))) (by kernel_rfl) ?_
  rintro v post ⟨rfl, rfl⟩
  refine go_exec (rs := [.tmp 4]) (by kernel_rfl) 4000 [] (o := .ret (.bool false) [E6f719 gb c ((G.step c.retry A).1) gb, Ebed9f ba ((G.step c.retry A).2), E632c4 ((G.step c.retry A).2), .pts rb_1 [vI (slotAt c sl), .bool false] 214, E64beb p c cl tp ep (.func (.func 127) #[] #[]) (vP kb) (vP gb) (vP rb_1) sl ((G.step c.retry A).1.block) (.iface 46 (vI ((G.step c.retry A).1.code)))]) (by kernel_rfl) ?_
  exact ret_ok (post := [E64beb p c cl tp ep (.func (.func 127) #[] #[]) (vP kb) (vP gb) (vP rb_1) sl ((G.step c.retry A).1.block) (.iface 46 (vI ((G.step c.retry A).1.code))), E6f719 gb c ((G.step c.retry A).1) gb, Ebed9f ba ((G.step c.retry A).2), E632c4 ((G.step c.retry A).2), .pts rb_1 [vI (slotAt c sl), .bool false] 214]) [4, 0, 1, 2, 3] (by kernel_rfl) ⟨rb_1, rfl, (by kernel_rfl)⟩


theorem pStep3 (c : Cfg) (p ba kb rb : Nat) (cl tp ep sl bk : Int) (gp er : Value) (a : Int) (A : Ar) (hn : A.ws.length = A.n) (hs : 0 ≤ A.steps ∧ A.steps ≤ 1000000000) (hi : 0 ≤ a ∧ a < A.n) :
    Ctr Tryz.prog 10 #[vP p, vP ba] [E64beb p c cl tp ep (.func (.func 127) #[] #[]) (vP kb) gp (vP rb) sl bk er, .pts rb [vI a, .bool false] 214, Ebed9f ba A, E632c4 A] (Ret (.bool true) [E64beb p c cl tp ep (.nilFunc) (vP kb) gp (vP rb) (-1) bk er, .pts rb [vI a, .bool true] 214, Ebed9f ba (A.store a 0), E632c4 (A.store a 0)]) := by
  refine ctr_of (args := [vP p, vP ba]) (fn := Tryz.f10) (body := B10) (nt := 17) Tryz.func10 (by kernel_rfl) (by kernel_rfl) ?_
  intro F
  refine go_exec (rs := [.tmp 4]) (by kernel_rfl) 4000 [.z [0, 0, 1] 1 [0, 1, 5]] (o := .stop [.o [0, 0, 1] 1, .c [1, 0, 1], .c [1, 1]] [(0, vP p), (1, vP ba), (5, vP p)] [E64beb p c cl tp ep (.func (.func 127) #[] #[]) (vP kb) gp (vP rb) sl bk er, .pts rb [vI a, .bool false] 214, Ebed9f ba A, E632c4 A]) (by kernel_rfl) ?_
  refine ok_stop ?_
  refine go_call (some 6) [0] Tryz.call11 (pDone3 c p kb cl tp ep sl bk gp (vP rb) er) (by kernel_rfl) ?_
  rintro v post ⟨rfl, rfl⟩
  refine go_exec (rs := [.tmp 4]) (by kernel_rfl) 4000 [.e 3, .z [0, 1, 0, 1] 6 [0, 11, 12, 13]] (o := .obl (p = p) (.stop [.o [0, 1, 0, 1] 6, .c [1, 1]] [(0, vP p), (11, .func (.func 127) #[] #[]), (12, vP p), (13, vP ba)] [.pts rb [vI a, .bool false] 214, Ebed9f ba A, E632c4 A, E64beb p c cl tp ep (.func (.func 127) #[] #[]) (vP kb) gp (vP rb) sl bk er])) (by kernel_rfl) ?_
  refine ok_obl rfl ?_
  refine ok_stop ?_
  refine go_call (some 14) [3, 0, 1, 2] Tryz.call127 (pReleases c p ba kb rb cl tp ep sl bk gp er a A (by first | assumption | omega | (simp only [InK] at *; omega)) (by first | assumption | omega | (simp only [InK] at *; omega)) (by first | assumption | omega | (simp only [InK] at *; omega))) (by kernel_rfl) ?_
  rintro v post ⟨rfl, rfl⟩
  refine go_exec (rs := [.tmp 4]) (by kernel_rfl) 4000 [.z [0, 1, 1] 1 [15]] (o := .stop [.o [0, 1, 1] 1, .c [1, 1, 1]] [(15, vP p)] [E64beb p c cl tp ep (.nilFunc) (vP kb) gp (vP rb) (-1) bk er, .pts rb [vI a, .bool true] 214, Ebed9f ba (A.store a 0), E632c4 (A.store a 0)]) (by kernel_rfl) ?_
  refine ok_stop ?_
  refine go_call (some 16) [0] Tryz.call11 (pDone0 c p kb cl tp ep (-1) bk gp (vP rb) er) (by kernel_rfl) ?_
  rintro v post ⟨rfl, rfl⟩
  refine go_exec (rs := [.tmp 4]) (by kernel_rfl) 4000 [] (o := .ret (.bool true) [.pts rb [vI a, .bool true] 214, Ebed9f ba (A.store a 0), E632c4 (A.store a 0), E64beb p c cl tp ep (.nilFunc) (vP kb) gp (vP rb) (-1) bk er]) (by kernel_rfl) ?_
  exact ret_ok (post := [E64beb p c cl tp ep (.nilFunc) (vP kb) gp (vP rb) (-1) bk er, .pts rb [vI a, .bool true] 214, Ebed9f ba (A.store a 0), E632c4 (A.store a 0)]) [3, 0, 1, 2] (by kernel_rfl) ⟨rfl, (by kernel_rfl)⟩


theorem pStep_nil   :
    Ctr Tryz.prog 10 #[.pointer none, .pointer none] [] (Ret (.bool true) []) := by
  refine ctr_of (args := [.pointer none, .pointer none]) (fn := Tryz.f10) (body := B10) (nt := 17) Tryz.func10 (by kernel_rfl) (by kernel_rfl) ?_
  intro F
  refine go_exec (rs := [.tmp 4]) (by kernel_rfl) 4000 [.z [0, 0, 1] 1 [0, 1, 5]] (o := .stop [.o [0, 0, 1] 1, .c [1, 0, 1], .c [1, 1]] [(0, .pointer none), (1, .pointer none), (5, .pointer none)] []) (by kernel_rfl) ?_
  refine ok_stop ?_
  refine go_call (some 6) [] Tryz.call11 (pDone_nil) (by kernel_rfl) ?_
  rintro v post ⟨rfl, rfl⟩
  refine go_exec (rs := [.tmp 4]) (by kernel_rfl) 4000 [.z [0, 1, 1] 1 [15]] (o := .stop [.o [0, 1, 1] 1, .c [1, 1, 1]] [(15, .pointer none)] []) (by kernel_rfl) ?_
  refine ok_stop ?_
  refine go_call (some 16) [] Tryz.call11 (pDone_nil) (by kernel_rfl) ?_
  rintro v post ⟨rfl, rfl⟩
  refine go_exec (rs := [.tmp 4]) (by kernel_rfl) 4000 [] (o := .ret (.bool true) []) (by kernel_rfl) ?_
  exact ret_ok (post := []) [] (by kernel_rfl) ⟨rfl, (by kernel_rfl)⟩

noncomputable def B7 : Code := (Tryz.f7.body).getD .skip

theorem pTold0 (c : Cfg) (p kb : Nat) (cl tp ep sl bk : Int) (gp rp er : Value)  :
    Ctr Tryz.prog 7 #[vP p] [E64beb p c cl tp ep (.nilFunc) (vP kb) gp rp sl bk er] (Ret (.tuple #[vI sl, vI bk, er]) [E64beb p c cl tp ep (.nilFunc) (vP kb) gp rp sl bk er]) := by
  refine ctr_of (args := [vP p]) (fn := Tryz.f7) (body := B7) (nt := 26) Tryz.func7 (by kernel_rfl) (by kernel_rfl) ?_
  intro F
  refine go_exec (rs := [.tmp 2, .tmp 3, .tmp 4]) (by kernel_rfl) 4000 [.z [0, 1, 1, 0, 0, 1] 1 [0, 10]] (o := .stop [.o [0, 1, 1, 0, 0, 1] 1, .c [1, 1, 1, 0, 0, 1], .b 0, .c [1, 1]] [(0, vP p), (10, vP p)] [E64beb p c cl tp ep (.nilFunc) (vP kb) gp rp sl bk er]) (by kernel_rfl) ?_
  refine ok_stop ?_
  refine go_call (some 11) [0] Tryz.call11 (pDone0 c p kb cl tp ep sl bk gp rp er) (by kernel_rfl) ?_
  rintro v post ⟨rfl, rfl⟩
  refine go_exec (rs := [.tmp 2, .tmp 3, .tmp 4]) (by kernel_rfl) 4000 [.z [0, 1, 1] 0 [0]] (o := .stop [.c [0, 1, 1], .c [1, 1, 1]] [(0, vP p)] [E64beb p c cl tp ep (.nilFunc) (vP kb) gp rp sl bk er]) (by kernel_rfl) ?_
  refine ok_stop ?_
  refine go_quiet (tm' := [(2, vI sl), (3, vI bk), (4, er)]) (ps := [p = p, p = p, p = p]) (cs := []) [(0, .h .w), (1, .h .w), (2, .h .w), (3, .h (.e 0)), (4, .h .w), (5, .h .w), (6, .h .w), (7, .h (.e 0)), (8, .h .w), (9, .h .w), (10, .h .w), (11, .h (.e 0)), (12, .h .w), (13, .h .w), (14, .h .w)] [2, 3, 4] (by kernel_rfl) (by kernel_rfl) ⟨rfl, rfl, rfl, trivial⟩ trivial ?_
  refine go_exec (rs := [.tmp 2, .tmp 3, .tmp 4]) (by kernel_rfl) 4000 [] (o := .ret (.tuple #[vI sl, vI bk, er]) [E64beb p c cl tp ep (.nilFunc) (vP kb) gp rp sl bk er]) (by kernel_rfl) ?_
  exact ret_ok (post := [E64beb p c cl tp ep (.nilFunc) (vP kb) gp rp sl bk er]) [0] (by kernel_rfl) ⟨rfl, (by kernel_rfl)⟩


theorem pTold1 (c : Cfg) (p kb : Nat) (cl tp ep sl bk : Int) (gp rp er : Value)  :
    Ctr Tryz.prog 7 #[vP p] [E64beb p c cl tp ep (.func (.func 47) #[] #[]) (vP kb) gp rp sl bk er] (Ret (.tuple #[vI (-1), vI 0, .iface 46 (vI 13)]) [E64beb p c cl tp ep (.func (.func 47) #[] #[]) (vP kb) gp rp sl bk er]) := by
  refine ctr_of (args := [vP p]) (fn := Tryz.f7) (body := B7) (nt := 26) Tryz.func7 (by kernel_rfl) (by kernel_rfl) ?_
  intro F
  refine go_exec (rs := [.tmp 2, .tmp 3, .tmp 4]) (by kernel_rfl) 4000 [.z [0, 1, 1, 0, 0, 1] 1 [0, 10]] (o := .stop [.o [0, 1, 1, 0, 0, 1] 1, .c [1, 1, 1, 0, 0, 1], .b 0, .c [1, 1]] [(0, vP p), (10, vP p)] [E64beb p c cl tp ep (.func (.func 47) #[] #[]) (vP kb) gp rp sl bk er]) (by kernel_rfl) ?_
  refine ok_stop ?_
  refine go_call (some 11) [0] Tryz.call11 (pDone1 c p kb cl tp ep sl bk gp rp er) (by kernel_rfl) ?_
  rintro v post ⟨rfl, rfl⟩
  refine go_exec (rs := [.tmp 2, .tmp 3, .tmp 4]) (by kernel_rfl) 4000 [.z q52_1 0 []] (o := .stop [.o q52_1 0, .c q52_2, .b 0, .c [1, 1]] [] [E64beb p c cl tp ep (.func (.func 47) #[] #[]) (vP kb) gp rp sl bk er]) (by kernel_rfl) ?_
  refine ok_stop ?_
  refine go_call (some 13) [] Tryz.call36 (cause_NewE 13 (by decide)) (by kernel_rfl) ?_
  rintro v post ⟨rfl, rfl⟩
  refine go_exec (rs := [.tmp 2, .tmp 3, .tmp 4]) (by kernel_rfl) 4000 [] (o := .ret (.tuple #[vI (-1), vI 0, .iface 46 (vI 13)]) [E64beb p c cl tp ep (.func (.func 47) #[] #[]) (vP kb) gp rp sl bk er]) (by kernel_rfl) ?_
  exact ret_ok (post := [E64beb p c cl tp ep (.func (.func 47) #[] #[]) (vP kb) gp rp sl bk er]) [0] (by kernel_rfl) ⟨rfl, (by kernel_rfl)⟩


theorem pTold2 (c : Cfg) (p kb : Nat) (cl tp ep sl bk : Int) (gp rp er : Value)  :
    Ctr Tryz.prog 7 #[vP p] [E64beb p c cl tp ep (.func (.func 93) #[] #[]) (vP kb) gp rp sl bk er] (Ret (.tuple #[vI (-1), vI 0, .iface 46 (vI 13)]) [E64beb p c cl tp ep (.func (.func 93) #[] #[]) (vP kb) gp rp sl bk er]) := by
  refine ctr_of (args := [vP p]) (fn := Tryz.f7) (body := B7) (nt := 26) Tryz.func7 (by kernel_rfl) (by kernel_rfl) ?_
  intro F
  refine go_exec (rs := [.tmp 2, .tmp 3, .tmp 4]) (by kernel_rfl) 4000 [.z [0, 1, 1, 0, 0, 1] 1 [0, 10]] (o := .stop [.o [0, 1, 1, 0, 0, 1] 1, .c [1, 1, 1, 0, 0, 1], .b 0, .c [1, 1]] [(0, vP p), (10, vP p)] [E64beb p c cl tp ep (.func (.func 93) #[] #[]) (vP kb) gp rp sl bk er]) (by kernel_rfl) ?_
  refine ok_stop ?_
  refine go_call (some 11) [0] Tryz.call11 (pDone2 c p kb cl tp ep sl bk gp rp er) (by kernel_rfl) ?_
  rintro v post ⟨rfl, rfl⟩
  refine go_exec (rs := [.tmp 2, .tmp 3, .tmp 4]) (by kernel_rfl) 4000 [.z q52_1 0 []] (o := .stop [.o q52_1 0, .c q52_2, .b 0, .c [1, 1]] [] [E64beb p c cl tp ep (.func (.func 93) #[] #[]) (vP kb) gp rp sl bk er]) (by kernel_rfl) ?_
  refine ok_stop ?_
  refine go_call (some 13) [] Tryz.call36 (cause_NewE 13 (by decide)) (by kernel_rfl) ?_
  rintro v post ⟨rfl, rfl⟩
  refine go_exec (rs := [.tmp 2, .tmp 3, .tmp 4]) (by kernel_rfl) 4000 [] (o := .ret (.tuple #[vI (-1), vI 0, .iface 46 (vI 13)]) [E64beb p c cl tp ep (.func (.func 93) #[] #[]) (vP kb) gp rp sl bk er]) (by kernel_rfl) ?_
  exact ret_ok (post := [E64beb p c cl tp ep (.func (.func 93) #[] #[]) (vP kb) gp rp sl bk er]) [0] (by kernel_rfl) ⟨rfl, (by kernel_rfl)⟩


theorem pTold3 (c : Cfg) (p kb : Nat) (cl tp ep sl bk : Int) (gp rp er : Value)  :
    Ctr Tryz.prog 7 #[vP p] [E64beb p c cl tp ep (.func (.func 127) #[] #[]) (vP kb) gp rp sl bk er] (Ret (.tuple #[vI (-1), vI 0, .iface 46 (vI 13)]) [E64beb p c cl tp ep (.func (.func 127) #[] #[]) (vP kb) gp rp sl bk er]) := by
  refine ctr_of (args := [vP p]) (fn := Tryz.f7) (body := B7) (nt := 26) Tryz.func7 (by kernel_rfl) (by kernel_rfl) ?_
  intro F
  refine go_exec (rs := [.tmp 2, .tmp 3, .tmp 4]) (by kernel_rfl) 4000 [.z [0, 1, 1, 0, 0, 1] 1 [0, 10]] (o := .stop [.o [0, 1, 1, 0, 0, 1] 1, .c [1, 1, 1, 0, 0, 1], .b 0, .c [1, 1]] [(0, vP p), (10, vP p)] [E64beb p c cl tp ep (.func (.func 127) #[] #[]) (vP kb) gp rp sl bk er]) (by kernel_rfl) ?_
  refine ok_stop ?_
  refine go_call (some 11) [0] Tryz.call11 (pDone3 c p kb cl tp ep sl bk gp rp er) (by kernel_rfl) ?_
  rintro v post ⟨rfl, rfl⟩
  refine go_exec (rs := [.tmp 2, .tmp 3, .tmp 4]) (by kernel_rfl) 4000 [.z q52_1 0 []] (o := .stop [.o q52_1 0, .c q52_2, .b 0, .c [1, 1]] [] [E64beb p c cl tp ep (.func (.func 127) #[] #[]) (vP kb) gp rp sl bk er]) (by kernel_rfl) ?_
  refine ok_stop ?_
  refine go_call (some 13) [] Tryz.call36 (cause_NewE 13 (by decide)) (by kernel_rfl) ?_
  rintro v post ⟨rfl, rfl⟩
  refine go_exec (rs := [.tmp 2, .tmp 3, .tmp 4]) (by kernel_rfl) 4000 [] (o := .ret (.tuple #[vI (-1), vI 0, .iface 46 (vI 13)]) [E64beb p c cl tp ep (.func (.func 127) #[] #[]) (vP kb) gp rp sl bk er]) (by kernel_rfl) ?_
  exact ret_ok (post := [E64beb p c cl tp ep (.func (.func 127) #[] #[]) (vP kb) gp rp sl bk er]) [0] (by kernel_rfl) ⟨rfl, (by kernel_rfl)⟩


theorem pTold_nil   :
    Ctr Tryz.prog 7 #[.pointer none] [] (Ret (.tuple #[vI (-1), vI 0, .iface 46 (vI 1)]) []) := by
  refine ctr_of (args := [.pointer none]) (fn := Tryz.f7) (body := B7) (nt := 26) Tryz.func7 (by kernel_rfl) (by kernel_rfl) ?_
  intro F
  refine go_exec (rs := [.tmp 2, .tmp 3, .tmp 4]) (by kernel_rfl) 4000 [.z [0, 0, 1, 0, 0, 1] 0 []] (o := .stop [.o [0, 0, 1, 0, 0, 1] 0, .c [1, 0, 1, 0, 0, 1], .b 0, .c [1, 1]] [] []) (by kernel_rfl) ?_
  refine ok_stop ?_
  refine go_call (some 8) [] Tryz.call36 (cause_NewE 1 (by decide)) (by kernel_rfl) ?_
  rintro v post ⟨rfl, rfl⟩
  refine go_exec (rs := [.tmp 2, .tmp 3, .tmp 4]) (by kernel_rfl) 4000 [] (o := .ret (.tuple #[vI (-1), vI 0, .iface 46 (vI 1)]) []) (by kernel_rfl) ?_
  exact ret_ok (post := []) [] (by kernel_rfl) ⟨rfl, (by kernel_rfl)⟩

noncomputable def B13 : Code := (Tryz.f13.body).getD .skip

theorem pSlot (c : Cfg) (p kb : Nat) (cl tp ep sl bk : Int) (nx gp rp er : Value)  :
    Ctr Tryz.prog 13 #[vP p] [E64beb p c cl tp ep nx (vP kb) gp rp sl bk er] (Ret (vI sl) [E64beb p c cl tp ep nx (vP kb) gp rp sl bk er]) := by
  refine ctr_of (args := [vP p]) (fn := Tryz.f13) (body := B13) (nt := 9) Tryz.func13 (by kernel_rfl) (by kernel_rfl) ?_
  intro F
  refine go_exec (rs := [.tmp 2]) (by kernel_rfl) 4000 [.e 0] (o := .obl (p = p) (.ret (vI sl) [E64beb p c cl tp ep nx (vP kb) gp rp sl bk er])) (by kernel_rfl) ?_
  refine ok_obl rfl ?_
  exact ret_ok (post := [E64beb p c cl tp ep nx (vP kb) gp rp sl bk er]) [0] (by kernel_rfl) ⟨rfl, (by kernel_rfl)⟩


theorem pSlot_nil   :
    Ctr Tryz.prog 13 #[.pointer none] [] (Ret (vI (-1)) []) := by
  refine ctr_of (args := [.pointer none]) (fn := Tryz.f13) (body := B13) (nt := 9) Tryz.func13 (by kernel_rfl) (by kernel_rfl) ?_
  intro F
  refine go_exec (rs := [.tmp 2]) (by kernel_rfl) 4000 [] (o := .ret (vI (-1)) []) (by kernel_rfl) ?_
  exact ret_ok (post := []) [] (by kernel_rfl) ⟨rfl, (by kernel_rfl)⟩

noncomputable def B14 : Code := (Tryz.f14.body).getD .skip

theorem pCommit1 (c : Cfg) (p kb : Nat) (cl tp ep sl bk : Int) (gp rp er : Value)  :
    Ctr Tryz.prog 14 #[vP p] [E64beb p c cl tp ep (.func (.func 47) #[] #[]) (vP kb) gp rp sl bk er] (Ret (vI 0) [E64beb p c cl tp ep (.func (.func 47) #[] #[]) (vP kb) gp rp sl bk er]) := by
  refine ctr_of (args := [vP p]) (fn := Tryz.f14) (body := B14) (nt := 15) Tryz.func14 (by kernel_rfl) (by kernel_rfl) ?_
  intro F
  refine go_exec (rs := [.tmp 2]) (by kernel_rfl) 4000 [.z [0, 0, 1] 4 [0, 5, 6]] (o := .stop [.o [0, 0, 1] 4, .c [1, 0, 1], .c [1, 1]] [(0, vP p), (5, .bool false), (6, vP p)] [E64beb p c cl tp ep (.func (.func 47) #[] #[]) (vP kb) gp rp sl bk er]) (by kernel_rfl) ?_
  refine ok_stop ?_
  refine go_call (some 7) [0] Tryz.call11 (pDone1 c p kb cl tp ep sl bk gp rp er) (by kernel_rfl) ?_
  rintro v post ⟨rfl, rfl⟩
  refine go_exec (rs := [.tmp 2]) (by kernel_rfl) 4000 [] (o := .ret (vI 0) [E64beb p c cl tp ep (.func (.func 47) #[] #[]) (vP kb) gp rp sl bk er]) (by kernel_rfl) ?_
  exact ret_ok (post := [E64beb p c cl tp ep (.func (.func 47) #[] #[]) (vP kb) gp rp sl bk er]) [0] (by kernel_rfl) ⟨rfl, (by kernel_rfl)⟩


theorem pCommit2 (c : Cfg) (p kb : Nat) (cl tp ep sl bk : Int) (gp rp er : Value)  :
    Ctr Tryz.prog 14 #[vP p] [E64beb p c cl tp ep (.func (.func 93) #[] #[]) (vP kb) gp rp sl bk er] (Ret (vI 0) [E64beb p c cl tp ep (.func (.func 93) #[] #[]) (vP kb) gp rp sl bk er]) := by
  refine ctr_of (args := [vP p]) (fn := Tryz.f14) (body := B14) (nt := 15) Tryz.func14 (by kernel_rfl) (by kernel_rfl) ?_
  intro F
  refine go_exec (rs := [.tmp 2]) (by kernel_rfl) 4000 [.z [0, 0, 1] 4 [0, 5, 6]] (o := .stop [.o [0, 0, 1] 4, .c [1, 0, 1], .c [1, 1]] [(0, vP p), (5, .bool false), (6, vP p)] [E64beb p c cl tp ep (.func (.func 93) #[] #[]) (vP kb) gp rp sl bk er]) (by kernel_rfl) ?_
  refine ok_stop ?_
  refine go_call (some 7) [0] Tryz.call11 (pDone2 c p kb cl tp ep sl bk gp rp er) (by kernel_rfl) ?_
  rintro v post ⟨rfl, rfl⟩
  refine go_exec (rs := [.tmp 2]) (by kernel_rfl) 4000 [] (o := .ret (vI 0) [E64beb p c cl tp ep (.func (.func 93) #[] #[]) (vP kb) gp rp sl bk er]) (by kernel_rfl) ?_
  exact ret_ok (post := [E64beb p c cl tp ep (.func (.func 93) #[] #[]) (vP kb) gp rp sl bk er]) [0] (by kernel_rfl) ⟨rfl, (by kernel_rfl)⟩


theorem pCommit3 (c : Cfg) (p kb : Nat) (cl tp ep sl bk : Int) (gp rp er : Value)  :
    Ctr Tryz.prog 14 #[vP p] [E64beb p c cl tp ep (.func (.func 127) #[] #[]) (vP kb) gp rp sl bk er] (Ret (vI 0) [E64beb p c cl tp ep (.func (.func 127) #[] #[]) (vP kb) gp rp sl bk er]) := by
  refine ctr_of (args := [vP p]) (fn := Tryz.f14) (body := B14) (nt := 15) Tryz.func14 (by kernel_rfl) (by kernel_rfl) ?_
  intro F
  refine go_exec (rs := [.tmp 2]) (by kernel_rfl) 4000 [.z [0, 0, 1] 4 [0, 5, 6]] (o := .stop [.o [0, 0, 1] 4, .c [1, 0, 1], .c [1, 1]] [(0, vP p), (5, .bool false), (6, vP p)] [E64beb p c cl tp ep (.func (.func 127) #[] #[]) (vP kb) gp rp sl bk er]) (by kernel_rfl) ?_
  refine ok_stop ?_
  refine go_call (some 7) [0] Tryz.call11 (pDone3 c p kb cl tp ep sl bk gp rp er) (by kernel_rfl) ?_
  rintro v post ⟨rfl, rfl⟩
  refine go_exec (rs := [.tmp 2]) (by kernel_rfl) 4000 [] (o := .ret (vI 0) [E64beb p c cl tp ep (.func (.func 127) #[] #[]) (vP kb) gp rp sl bk er]) (by kernel_rfl) ?_
  exact ret_ok (post := [E64beb p c cl tp ep (.func (.func 127) #[] #[]) (vP kb) gp rp sl bk er]) [0] (by kernel_rfl) ⟨rfl, (by kernel_rfl)⟩


theorem pCommit0N (c : Cfg) (p kb : Nat) (cl tp ep sl bk : Int) (rp er : Value)  :
    Ctr Tryz.prog 14 #[vP p] [E64beb p c cl tp ep (.nilFunc) (vP kb) (.pointer none) rp sl bk er] (Ret (vI 0) [E64beb p c cl tp ep (.nilFunc) (vP kb) (.pointer none) rp sl bk er]) := by
  refine ctr_of (args := [vP p]) (fn := Tryz.f14) (body := B14) (nt := 15) Tryz.func14 (by kernel_rfl) (by kernel_rfl) ?_
  intro F
  refine go_exec (rs := [.tmp 2]) (by kernel_rfl) 4000 [.z [0, 0, 1] 4 [0, 5, 6]] (o := .stop [.o [0, 0, 1] 4, .c [1, 0, 1], .c [1, 1]] [(0, vP p), (5, .bool false), (6, vP p)] [E64beb p c cl tp ep (.nilFunc) (vP kb) (.pointer none) rp sl bk er]) (by kernel_rfl) ?_
  refine ok_stop ?_
  refine go_call (some 7) [0] Tryz.call11 (pDone0 c p kb cl tp ep sl bk (.pointer none) rp er) (by kernel_rfl) ?_
  rintro v post ⟨rfl, rfl⟩
  refine go_exec (rs := [.tmp 2]) (by kernel_rfl) 4000 [.e 0, .z [0, 1, 1] 4 [13]] (o := .obl (p = p) (.stop [.o [0, 1, 1] 4, .c [1, 1, 1]] [(13, .pointer none)] [E64beb p c cl tp ep (.nilFunc) (vP kb) (.pointer none) rp sl bk er])) (by kernel_rfl) ?_
  refine ok_obl rfl ?_
  refine ok_stop ?_
  refine go_call (some 14) [] Tryz.call39 (gCommit_nil) (by kernel_rfl) ?_
  rintro v post ⟨rfl, rfl⟩
  refine go_exec (rs := [.tmp 2]) (by kernel_rfl) 4000 [] (o := .ret (vI 0) [E64beb p c cl tp ep (.nilFunc) (vP kb) (.pointer none) rp sl bk er]) (by kernel_rfl) ?_
  exact ret_ok (post := [E64beb p c cl tp ep (.nilFunc) (vP kb) (.pointer none) rp sl bk er]) [0] (by kernel_rfl) ⟨rfl, (by kernel_rfl)⟩


theorem pCommit0S (c : Cfg) (p kb gb : Nat) (cl tp ep sl bk : Int) (rp er : Value) (G : Gu) (hph : G.ph ≤ 3) :
    Ctr Tryz.prog 14 #[vP p] [E64beb p c cl tp ep (.nilFunc) (vP kb) (vP gb) rp sl bk er, E6f719 gb c G gb] (Ret (vI (Gu.comm G)) [E64beb p c cl tp ep (.nilFunc) (vP kb) (vP gb) rp sl bk er, E6f719 gb c G gb]) := by
  refine ctr_of (args := [vP p]) (fn := Tryz.f14) (body := B14) (nt := 15) Tryz.func14 (by kernel_rfl) (by kernel_rfl) ?_
  intro F
  refine go_exec (rs := [.tmp 2]) (by kernel_rfl) 4000 [.z [0, 0, 1] 4 [0, 5, 6]] (o := .stop [.o [0, 0, 1] 4, .c [1, 0, 1], .c [1, 1]] [(0, vP p), (5, .bool false), (6, vP p)] [E64beb p c cl tp ep (.nilFunc) (vP kb) (vP gb) rp sl bk er, E6f719 gb c G gb]) (by kernel_rfl) ?_
  refine ok_stop ?_
  refine go_call (some 7) [0] Tryz.call11 (pDone0 c p kb cl tp ep sl bk (vP gb) rp er) (by kernel_rfl) ?_
  rintro v post ⟨rfl, rfl⟩
  refine go_exec (rs := [.tmp 2]) (by kernel_rfl) 4000 [.e 1, .z [0, 1, 1] 4 [13]] (o := .obl (p = p) (.stop [.o [0, 1, 1] 4, .c [1, 1, 1]] [(13, vP gb)] [E6f719 gb c G gb, E64beb p c cl tp ep (.nilFunc) (vP kb) (vP gb) rp sl bk er])) (by kernel_rfl) ?_
  refine ok_obl rfl ?_
  refine ok_stop ?_
  refine go_call (some 14) [0] Tryz.call39 (guard_Commit c gb G (by first | assumption | omega | (simp only [InK] at *; omega))) (by kernel_rfl) ?_
  rintro v post ⟨rfl, rfl⟩
  refine go_exec (rs := [.tmp 2]) (by kernel_rfl) 4000 [] (o := .ret (vI (Gu.comm G)) [E64beb p c cl tp ep (.nilFunc) (vP kb) (vP gb) rp sl bk er, E6f719 gb c G gb]) (by kernel_rfl) ?_
  exact ret_ok (post := [E64beb p c cl tp ep (.nilFunc) (vP kb) (vP gb) rp sl bk er, E6f719 gb c G gb]) [0, 1] (by kernel_rfl) ⟨rfl, (by kernel_rfl)⟩


theorem pCommit_nil   :
    Ctr Tryz.prog 14 #[.pointer none] [] (Ret (vI 0) []) := by
  refine ctr_of (args := [.pointer none]) (fn := Tryz.f14) (body := B14) (nt := 15) Tryz.func14 (by kernel_rfl) (by kernel_rfl) ?_
  intro F
  refine go_exec (rs := [.tmp 2]) (by kernel_rfl) 4000 [] (o := .ret (vI 0) []) (by kernel_rfl) ?_
  exact ret_ok (post := []) [] (by kernel_rfl) ⟨rfl, (by kernel_rfl)⟩

end Go.Proofs.YtiiepkjckmdmkaaGreatDoor


namespace Go.Proofs.YtiiepkjckmdmkaaGreatDoor
open Go.Sx
noncomputable abbrev E73368 (x0 : Nat) (c1 : Cfg) (x2 : Int) (x3 : Int) (x4 : Int) (p5 : Pn) (x6 : Value) (x7 : Nat) (x8 : Nat) : Ent := .pts x0 [.int .i64 c1.topics, .int .i64 c1.small, .int .i64 c1.slots, .int .i64 c1.clients, .int .i64 c1.s0, .int .i64 c1.n0, .int .i64 c1.s1, .int .i64 c1.n1, .int .i64 c1.retry, .int .i64 x2, .int .i64 x3, .int .i64 x4, (nxP p5.ph), x6, (gpO x7 p5.gu), (rpO x8 p5.rl), .int .i64 p5.slot, .int .i64 p5.block, (errV p5.code)] 95
noncomputable abbrev Ea3da3 (x0 : Nat) (c1 : Cfg) (x2 : Int) (x3 : Int) (x4 : Int) (x5 : Nat) (x6 : Value) (x7 : Value) (x8 : Value) (x9 : Int) (x10 : Int) (x11 : Value) : Ent := .pts x0 [.int .i64 c1.topics, .int .i64 c1.small, .int .i64 c1.slots, .int .i64 c1.clients, .int .i64 c1.s0, .int .i64 c1.n0, .int .i64 c1.s1, .int .i64 c1.n1, .int .i64 c1.retry, .int .i64 x2, .int .i64 x3, .int .i64 x4, (nxP x5), x6, x7, x8, .int .i64 x9, .int .i64 x10, x11] 95

noncomputable def guL (c : Cfg) (b : Nat) : Option Gu → List Ent
  | none => []
  | some G => [E6f719 b c G b]
noncomputable def rlL (b : Nat) : Option (Int × Bool) → List Ent
  | none => []
  | some x => [.pts b [vI x.1, .bool x.2] 214]
structure PnH where
  kb : Nat
  gb : Nat
  rb : Nat
noncomputable def pnL (p : Nat) (c : Cfg) (cl tp ep : Int) (S : Pn) (h : PnH) : List Ent :=
  [E73368 p c cl tp ep S (vP h.kb) h.gb h.rb, E85b39 h.kb c S.cl, .res (dens (guL c h.gb S.gu)), .res (dens (rlL h.rb S.rl))]
noncomputable def PnR (p : Nat) (c : Cfg) (cl tp ep : Int) (S : Pn) : Res := Box (fun _ : PnH => True) (pnL p c cl tp ep S)

theorem pin_Step (c : Cfg) (p ba : Nat) (cl tp ep : Int) (S : Pn) (A : Ar) (hc : c.Ok) (hn : A.ws.length = A.n) (hs : 0 ≤ A.steps ∧ A.steps ≤ 1000000000) (hz : (A.n : Int) = sizeOfC c) (hR : RngW A.ws) (hS : Pn.Ok c cl A.n S) (htp : 0 ≤ tp ∧ tp < c.topics) :
    Ctr Tryz.prog 10 #[vP p, vP ba] [.res (PnR p c cl tp ep S), Ebed9f ba A, E632c4 A] (Ret (.bool ((S.step c cl tp ep A).1.ph == 0)) [.res (PnR p c cl tp ep ((S.step c cl tp ep A).1)), Ebed9f ba ((S.step c cl tp ep A).2), E632c4 ((S.step c cl tp ep A).2)]) := by
  refine ctr_open (I := fun _ : PnH => True) (LL := pnL p c cl tp ep S) (M := [Ebed9f ba A, E632c4 A]) 0 (by kernel_rfl) ?_
  rintro ⟨kb, gb, rb⟩ -
  obtain ⟨K, gu, rl, sl, bk, cd, ph⟩ := S
  obtain ⟨h1, h2, h3, h4, h5, h6, h7, h8, h9, h10, h11⟩ := hS
  simp only at h1 h2 h3 h4 h5 h6 h7 h8 h9 h10 h11
  match ph, h1 with
  | 0, _ =>
    refine ctr_post (ctr_frame [2, 0, 1] (by kernel_rfl) (pStep0 c p ba kb cl tp ep sl bk (gpO gb gu) (rpO rb rl) (errV cd) A)) ?_
    rintro v L ⟨post, ⟨rfl, rfl⟩, rfl⟩
    exact ⟨_, (view_pack (fun _ : PnH => True) (pnL p c cl tp ep (⟨K, gu, rl, sl, bk, cd, 0⟩ : Pn)) ⟨kb, gb, rb⟩ (M := [Ebed9f ba A, E632c4 A]) [3, 0, 1, 2] (by kernel_rfl) trivial).trans (view_pick [2, 0, 1] (by kernel_rfl)), rfl, rfl⟩
  | 1, _ =>
    obtain ⟨e1, e2, e3, e4⟩ := h5 rfl
    subst e1; subst e2
    have hk : Cl.Ok c (Cl.step c K A).1 := (cl_step (k := A.steps) hc h2 ⟨hn, hz, hR, hs.1, Int.le_refl _⟩).1
    have hcl : 0 ≤ cl ∧ cl < c.clients := by have := h2.client; rw [h3] at this; exact this
    by_cases ha : (Cl.step c K A).1.at_ = -1
    · by_cases hq : (Cl.step c K A).1.slot = -1
      · skip
        have e : Pn.step c cl tp ep (⟨K, none, none, sl, bk, cd, 1⟩ : Pn) A = ((⟨(Cl.step c K A).1, none, none, (Cl.step c K A).1.slot, bk, 19, 0⟩ : Pn), (Cl.step c K A).2) := by unfold Pn.step; simp only; rw [if_pos ha, if_pos hq, hq]
        rw [e]
        refine ctr_post (ctr_frame [2, 3, 0, 1] (by kernel_rfl) (pStep1N c p ba kb cl tp ep sl bk (.pointer none) (.pointer none) (errV cd) K A hc hn hs hz h2 ha hq)) ?_
        rintro v L ⟨post, ⟨rfl, rfl⟩, rfl⟩
        exact ⟨_, (view_pack (fun _ : PnH => True) (pnL p c cl tp ep (⟨(Cl.step c K A).1, none, none, (Cl.step c K A).1.slot, bk, 19, 0⟩ : Pn)) ⟨kb, gb, rb⟩ (M := [Ebed9f ba ((Cl.step c K A).2), E632c4 ((Cl.step c K A).2)]) [2, 3, 0, 1] (by kernel_rfl) trivial).trans (view_pick [2, 0, 1] (by kernel_rfl)), rfl, rfl⟩
      · skip
        have e : Pn.step c cl tp ep (⟨K, none, none, sl, bk, cd, 1⟩ : Pn) A = ((⟨(Cl.step c K A).1, (some (newGu c cl (Cl.step c K A).1.slot tp ep)), none, (Cl.step c K A).1.slot, bk, cd, 2⟩ : Pn), (Cl.step c K A).2) := by unfold Pn.step; simp only; rw [if_pos ha, if_neg hq]
        rw [e]
        refine ctr_post (ctr_frame [2, 3, 0, 1] (by kernel_rfl) (pStep1Y c p ba kb cl tp ep sl bk (.pointer none) (.pointer none) (errV cd) K A hc hn hs hz h2 ha hq (hk.slot.resolve_left hq) hcl htp)) ?_
        rintro v L ⟨post, ⟨g2, rfl, rfl⟩, rfl⟩
        exact ⟨_, (view_fold (e := E6f719 g2 c (newGu c cl (Cl.step c K A).1.slot tp ep) g2) 6 (by kernel_rfl)).trans ((view_pack (fun _ : PnH => True) (pnL p c cl tp ep (⟨(Cl.step c K A).1, (some (newGu c cl (Cl.step c K A).1.slot tp ep)), none, (Cl.step c K A).1.slot, bk, cd, 2⟩ : Pn)) ⟨kb, g2, rb⟩ (M := [.res (dens [])] ++ [Ebed9f ba ((Cl.step c K A).2), E632c4 ((Cl.step c K A).2)]) [2, 3, 6, 1] (by kernel_rfl) trivial).trans (view_pick [3, 1, 2] (by kernel_rfl))), rfl, rfl⟩
    · skip
      have e : Pn.step c cl tp ep (⟨K, none, none, sl, bk, cd, 1⟩ : Pn) A = ((⟨(Cl.step c K A).1, none, none, sl, bk, cd, 1⟩ : Pn), (Cl.step c K A).2) := by unfold Pn.step; simp only; rw [if_neg ha]
      rw [e]
      refine ctr_post (ctr_frame [2, 3, 0, 1] (by kernel_rfl) (pStep1W c p ba kb cl tp ep sl bk (.pointer none) (.pointer none) (errV cd) K A hc hn hs hz h2 ha)) ?_
      rintro v L ⟨post, ⟨rfl, rfl⟩, rfl⟩
      exact ⟨_, (view_pack (fun _ : PnH => True) (pnL p c cl tp ep (⟨(Cl.step c K A).1, none, none, sl, bk, cd, 1⟩ : Pn)) ⟨kb, gb, rb⟩ (M := [Ebed9f ba ((Cl.step c K A).2), E632c4 ((Cl.step c K A).2)]) [2, 3, 0, 1] (by kernel_rfl) trivial).trans (view_pick [2, 0, 1] (by kernel_rfl)), rfl, rfl⟩
  | 2, _ =>
    obtain ⟨⟨G, e1, e2, e4⟩, e3⟩ := h6 rfl
    subst e1; subst e3
    have hsl : 0 ≤ sl ∧ sl < c.slots := h9.resolve_left (h10 (.inl rfl))
    by_cases hd : (Gu.step c.retry G A).1.ph = 0
    · by_cases he : (Gu.step c.retry G A).1.code = 0
      · skip
        have e : Pn.step c cl tp ep (⟨K, (some G), none, sl, bk, cd, 2⟩ : Pn) A = ((⟨K, (some (Gu.step c.retry G A).1), none, sl, (Gu.step c.retry G A).1.block, 0, 0⟩ : Pn), (Gu.step c.retry G A).2) := by unfold Pn.step; simp only; rw [if_pos hd, if_pos he]
        rw [e]
        refine ctr_view (view_unfold (e := E6f719 gb c G gb) 4 (by kernel_rfl)) ?_
        refine ctr_post (ctr_frame [2, 4, 0, 1] (by kernel_rfl) (pStep2K c p ba kb gb cl tp ep sl bk (.pointer none) (errV cd) G A hc hn hs hR (h4 G rfl) hd he)) ?_
        rintro v L ⟨post, ⟨rfl, rfl⟩, rfl⟩
        exact ⟨_, (view_fold (e := E6f719 gb c ((Gu.step c.retry G A).1) gb) 3 (by kernel_rfl)).trans ((view_pack (fun _ : PnH => True) (pnL p c cl tp ep (⟨K, (some (Gu.step c.retry G A).1), none, sl, (Gu.step c.retry G A).1.block, 0, 0⟩ : Pn)) ⟨kb, gb, rb⟩ (M := [Ebed9f ba ((Gu.step c.retry G A).2), E632c4 ((Gu.step c.retry G A).2)]) [2, 0, 3, 1] (by kernel_rfl) trivial).trans (view_pick [2, 0, 1] (by kernel_rfl))), rfl, rfl⟩
      · skip
        have e : Pn.step c cl tp ep (⟨K, (some G), none, sl, bk, cd, 2⟩ : Pn) A = ((⟨K, (some (Gu.step c.retry G A).1), (some (slotAt c sl, false)), sl, (Gu.step c.retry G A).1.block, (Gu.step c.retry G A).1.code, 3⟩ : Pn), (Gu.step c.retry G A).2) := by unfold Pn.step; simp only; rw [if_pos hd, if_neg he]
        rw [e]
        refine ctr_view (view_unfold (e := E6f719 gb c G gb) 4 (by kernel_rfl)) ?_
        refine ctr_post (ctr_frame [2, 4, 0, 1] (by kernel_rfl) (pStep2E c p ba kb gb cl tp ep sl bk (.pointer none) (errV cd) G A hc hn hs hR (h4 G rfl) hd he hsl)) ?_
        rintro v L ⟨post, ⟨r2, rfl, rfl⟩, rfl⟩
        exact ⟨_, (view_fold (e := E6f719 gb c ((Gu.step c.retry G A).1) gb) 3 (by kernel_rfl)).trans ((view_fold (e := .pts r2 [vI (slotAt c sl), .bool false] 214) 6 (by kernel_rfl)).trans ((view_set (Eq.trans (by kernel_rfl) (congrArg (fun v : Value => [E85b39 kb c K, .res (dens []), Ea3da3 p c cl tp ep 3 (vP kb) (vP gb) (vP r2) sl ((Gu.step c.retry G A).1.block) v, .res (dens [E6f719 gb c ((Gu.step c.retry G A).1) gb]), Ebed9f ba ((Gu.step c.retry G A).2), E632c4 ((Gu.step c.retry G A).2), .res (dens [.pts r2 [vI (slotAt c sl), .bool false] 214])]) (errV_ne he).symm))).trans ((view_pack (fun _ : PnH => True) (pnL p c cl tp ep (⟨K, (some (Gu.step c.retry G A).1), (some (slotAt c sl, false)), sl, (Gu.step c.retry G A).1.block, (Gu.step c.retry G A).1.code, 3⟩ : Pn)) ⟨kb, gb, r2⟩ (M := [.res (dens [])] ++ [Ebed9f ba ((Gu.step c.retry G A).2), E632c4 ((Gu.step c.retry G A).2)]) [2, 0, 3, 6] (by kernel_rfl) trivial).trans (view_pick [3, 1, 2] (by kernel_rfl))))), rfl, rfl⟩
    · skip
      rw [show ((Pn.step c cl tp ep (⟨K, (some G), none, sl, bk, cd, 2⟩ : Pn) A).1.ph == 0) = false by unfold Pn.step; simp only; rw [if_neg hd]; rfl]
      have e : Pn.step c cl tp ep (⟨K, (some G), none, sl, bk, cd, 2⟩ : Pn) A = ((⟨K, (some (Gu.step c.retry G A).1), none, sl, bk, cd, 2⟩ : Pn), (Gu.step c.retry G A).2) := by unfold Pn.step; simp only; rw [if_neg hd]
      rw [e]
      refine ctr_view (view_unfold (e := E6f719 gb c G gb) 4 (by kernel_rfl)) ?_
      refine ctr_post (ctr_frame [2, 4, 0, 1] (by kernel_rfl) (pStep2W c p ba kb gb cl tp ep sl bk (.pointer none) (errV cd) G A hc hn hs hR (h4 G rfl) hd)) ?_
      rintro v L ⟨post, ⟨rfl, rfl⟩, rfl⟩
      exact ⟨_, (view_fold (e := E6f719 gb c ((Gu.step c.retry G A).1) gb) 3 (by kernel_rfl)).trans ((view_pack (fun _ : PnH => True) (pnL p c cl tp ep (⟨K, (some (Gu.step c.retry G A).1), none, sl, bk, cd, 2⟩ : Pn)) ⟨kb, gb, rb⟩ (M := [Ebed9f ba ((Gu.step c.retry G A).2), E632c4 ((Gu.step c.retry G A).2)]) [2, 0, 3, 1] (by kernel_rfl) trivial).trans (view_pick [2, 0, 1] (by kernel_rfl))), rfl, rfl⟩
  | 3, _ =>
    have e1 := h7 rfl
    subst e1
    have hsl : 0 ≤ sl ∧ sl < c.slots := h9.resolve_left (h10 (.inr rfl))
    have hi : 0 ≤ slotAt c sl ∧ slotAt c sl < A.n := by have := slotAt_ok hc hsl; omega
    have e : Pn.step c cl tp ep (⟨K, gu, (some (slotAt c sl, false)), sl, bk, cd, 3⟩ : Pn) A = ((⟨K, gu, (some (slotAt c sl, true)), (-1), bk, cd, 0⟩ : Pn), A.store (slotAt c sl) 0) := rfl
    rw [e]
    refine ctr_view (view_unfold (e := .pts rb [vI (slotAt c sl), .bool false] 214) 5 (by kernel_rfl)) ?_
    refine ctr_post (ctr_frame [2, 5, 0, 1] (by kernel_rfl) (pStep3 c p ba kb rb cl tp ep sl bk (gpO gb gu) (errV cd) (slotAt c sl) A hn hs hi)) ?_
    rintro v L ⟨post, ⟨rfl, rfl⟩, rfl⟩
    exact ⟨_, (view_fold (e := .pts rb [vI (slotAt c sl), .bool true] 214) 3 (by kernel_rfl)).trans ((view_pack (fun _ : PnH => True) (pnL p c cl tp ep (⟨K, gu, (some (slotAt c sl, true)), (-1), bk, cd, 0⟩ : Pn)) ⟨kb, gb, rb⟩ (M := [Ebed9f ba (A.store (slotAt c sl) 0), E632c4 (A.store (slotAt c sl) 0)]) [2, 0, 1, 3] (by kernel_rfl) trivial).trans (view_pick [2, 0, 1] (by kernel_rfl))), rfl, rfl⟩
  | n + 4, h => omega


theorem pin_Done (c : Cfg) (p : Nat) (cl tp ep : Int) (S : Pn) (hph : S.ph ≤ 3) :
    Ctr Tryz.prog 11 #[vP p] [.res (PnR p c cl tp ep S)] (Ret (.bool (S.ph == 0)) [.res (PnR p c cl tp ep S)]) := by
  refine ctr_open (I := fun _ : PnH => True) (LL := pnL p c cl tp ep S) (M := []) 0 (by kernel_rfl) ?_
  rintro ⟨kb, gb, rb⟩ -
  obtain ⟨K, gu, rl, sl, bk, cd, ph⟩ := S
  simp only at hph
  match ph, hph with
  | 0, _ =>
    refine ctr_post (ctr_frame [0] (by kernel_rfl) (pDone0 c p kb cl tp ep sl bk (gpO gb gu) (rpO rb rl) (errV cd))) ?_
    rintro v L ⟨post, ⟨rfl, rfl⟩, rfl⟩
    exact ⟨_, view_pack (fun _ : PnH => True) (pnL p c cl tp ep (⟨K, gu, rl, sl, bk, cd, 0⟩ : Pn)) ⟨kb, gb, rb⟩ (M := []) [3, 0, 1, 2] (by kernel_rfl) trivial, rfl, rfl⟩
  | 1, _ =>
    refine ctr_post (ctr_frame [0] (by kernel_rfl) (pDone1 c p kb cl tp ep sl bk (gpO gb gu) (rpO rb rl) (errV cd))) ?_
    rintro v L ⟨post, ⟨rfl, rfl⟩, rfl⟩
    exact ⟨_, view_pack (fun _ : PnH => True) (pnL p c cl tp ep (⟨K, gu, rl, sl, bk, cd, 1⟩ : Pn)) ⟨kb, gb, rb⟩ (M := []) [3, 0, 1, 2] (by kernel_rfl) trivial, rfl, rfl⟩
  | 2, _ =>
    refine ctr_post (ctr_frame [0] (by kernel_rfl) (pDone2 c p kb cl tp ep sl bk (gpO gb gu) (rpO rb rl) (errV cd))) ?_
    rintro v L ⟨post, ⟨rfl, rfl⟩, rfl⟩
    exact ⟨_, view_pack (fun _ : PnH => True) (pnL p c cl tp ep (⟨K, gu, rl, sl, bk, cd, 2⟩ : Pn)) ⟨kb, gb, rb⟩ (M := []) [3, 0, 1, 2] (by kernel_rfl) trivial, rfl, rfl⟩
  | 3, _ =>
    refine ctr_post (ctr_frame [0] (by kernel_rfl) (pDone3 c p kb cl tp ep sl bk (gpO gb gu) (rpO rb rl) (errV cd))) ?_
    rintro v L ⟨post, ⟨rfl, rfl⟩, rfl⟩
    exact ⟨_, view_pack (fun _ : PnH => True) (pnL p c cl tp ep (⟨K, gu, rl, sl, bk, cd, 3⟩ : Pn)) ⟨kb, gb, rb⟩ (M := []) [3, 0, 1, 2] (by kernel_rfl) trivial, rfl, rfl⟩
  | n + 4, h => omega


theorem pin_Told (c : Cfg) (p : Nat) (cl tp ep : Int) (S : Pn) (hph : S.ph ≤ 3) :
    Ctr Tryz.prog 7 #[vP p] [.res (PnR p c cl tp ep S)] (Ret (.tuple #[vI ((Pn.told S).1), vI ((Pn.told S).2.1), (errV (Pn.told S).2.2)]) [.res (PnR p c cl tp ep S)]) := by
  refine ctr_open (I := fun _ : PnH => True) (LL := pnL p c cl tp ep S) (M := []) 0 (by kernel_rfl) ?_
  rintro ⟨kb, gb, rb⟩ -
  obtain ⟨K, gu, rl, sl, bk, cd, ph⟩ := S
  simp only at hph
  match ph, hph with
  | 0, _ =>
    refine ctr_post (ctr_frame [0] (by kernel_rfl) (pTold0 c p kb cl tp ep sl bk (gpO gb gu) (rpO rb rl) (errV cd))) ?_
    rintro v L ⟨post, ⟨rfl, rfl⟩, rfl⟩
    exact ⟨_, view_pack (fun _ : PnH => True) (pnL p c cl tp ep (⟨K, gu, rl, sl, bk, cd, 0⟩ : Pn)) ⟨kb, gb, rb⟩ (M := []) [3, 0, 1, 2] (by kernel_rfl) trivial, rfl, rfl⟩
  | 1, _ =>
    refine ctr_post (ctr_frame [0] (by kernel_rfl) (pTold1 c p kb cl tp ep sl bk (gpO gb gu) (rpO rb rl) (errV cd))) ?_
    rintro v L ⟨post, ⟨rfl, rfl⟩, rfl⟩
    exact ⟨_, view_pack (fun _ : PnH => True) (pnL p c cl tp ep (⟨K, gu, rl, sl, bk, cd, 1⟩ : Pn)) ⟨kb, gb, rb⟩ (M := []) [3, 0, 1, 2] (by kernel_rfl) trivial, rfl, rfl⟩
  | 2, _ =>
    refine ctr_post (ctr_frame [0] (by kernel_rfl) (pTold2 c p kb cl tp ep sl bk (gpO gb gu) (rpO rb rl) (errV cd))) ?_
    rintro v L ⟨post, ⟨rfl, rfl⟩, rfl⟩
    exact ⟨_, view_pack (fun _ : PnH => True) (pnL p c cl tp ep (⟨K, gu, rl, sl, bk, cd, 2⟩ : Pn)) ⟨kb, gb, rb⟩ (M := []) [3, 0, 1, 2] (by kernel_rfl) trivial, rfl, rfl⟩
  | 3, _ =>
    refine ctr_post (ctr_frame [0] (by kernel_rfl) (pTold3 c p kb cl tp ep sl bk (gpO gb gu) (rpO rb rl) (errV cd))) ?_
    rintro v L ⟨post, ⟨rfl, rfl⟩, rfl⟩
    exact ⟨_, view_pack (fun _ : PnH => True) (pnL p c cl tp ep (⟨K, gu, rl, sl, bk, cd, 3⟩ : Pn)) ⟨kb, gb, rb⟩ (M := []) [3, 0, 1, 2] (by kernel_rfl) trivial, rfl, rfl⟩
  | n + 4, h => omega


theorem pin_Slot (c : Cfg) (p : Nat) (cl tp ep : Int) (S : Pn) (hph : S.ph ≤ 3) :
    Ctr Tryz.prog 13 #[vP p] [.res (PnR p c cl tp ep S)] (Ret (vI S.slot) [.res (PnR p c cl tp ep S)]) := by
  refine ctr_open (I := fun _ : PnH => True) (LL := pnL p c cl tp ep S) (M := []) 0 (by kernel_rfl) ?_
  rintro ⟨kb, gb, rb⟩ -
  obtain ⟨K, gu, rl, sl, bk, cd, ph⟩ := S
  simp only at hph
  match ph, hph with
  | 0, _ =>
    refine ctr_post (ctr_frame [0] (by kernel_rfl) (pSlot c p kb cl tp ep sl bk (nxP 0) (gpO gb gu) (rpO rb rl) (errV cd))) ?_
    rintro v L ⟨post, ⟨rfl, rfl⟩, rfl⟩
    exact ⟨_, view_pack (fun _ : PnH => True) (pnL p c cl tp ep (⟨K, gu, rl, sl, bk, cd, 0⟩ : Pn)) ⟨kb, gb, rb⟩ (M := []) [3, 0, 1, 2] (by kernel_rfl) trivial, rfl, rfl⟩
  | 1, _ =>
    refine ctr_post (ctr_frame [0] (by kernel_rfl) (pSlot c p kb cl tp ep sl bk (nxP 1) (gpO gb gu) (rpO rb rl) (errV cd))) ?_
    rintro v L ⟨post, ⟨rfl, rfl⟩, rfl⟩
    exact ⟨_, view_pack (fun _ : PnH => True) (pnL p c cl tp ep (⟨K, gu, rl, sl, bk, cd, 1⟩ : Pn)) ⟨kb, gb, rb⟩ (M := []) [3, 0, 1, 2] (by kernel_rfl) trivial, rfl, rfl⟩
  | 2, _ =>
    refine ctr_post (ctr_frame [0] (by kernel_rfl) (pSlot c p kb cl tp ep sl bk (nxP 2) (gpO gb gu) (rpO rb rl) (errV cd))) ?_
    rintro v L ⟨post, ⟨rfl, rfl⟩, rfl⟩
    exact ⟨_, view_pack (fun _ : PnH => True) (pnL p c cl tp ep (⟨K, gu, rl, sl, bk, cd, 2⟩ : Pn)) ⟨kb, gb, rb⟩ (M := []) [3, 0, 1, 2] (by kernel_rfl) trivial, rfl, rfl⟩
  | 3, _ =>
    refine ctr_post (ctr_frame [0] (by kernel_rfl) (pSlot c p kb cl tp ep sl bk (nxP 3) (gpO gb gu) (rpO rb rl) (errV cd))) ?_
    rintro v L ⟨post, ⟨rfl, rfl⟩, rfl⟩
    exact ⟨_, view_pack (fun _ : PnH => True) (pnL p c cl tp ep (⟨K, gu, rl, sl, bk, cd, 3⟩ : Pn)) ⟨kb, gb, rb⟩ (M := []) [3, 0, 1, 2] (by kernel_rfl) trivial, rfl, rfl⟩
  | n + 4, h => omega


theorem pin_Commit (c : Cfg) (p : Nat) (cl tp ep : Int) (S : Pn) (hph : S.ph ≤ 3) (hG : ∀ G, S.gu = some G → G.ph ≤ 3) :
    Ctr Tryz.prog 14 #[vP p] [.res (PnR p c cl tp ep S)] (Ret (vI (Pn.comm S)) [.res (PnR p c cl tp ep S)]) := by
  refine ctr_open (I := fun _ : PnH => True) (LL := pnL p c cl tp ep S) (M := []) 0 (by kernel_rfl) ?_
  rintro ⟨kb, gb, rb⟩ -
  obtain ⟨K, gu, rl, sl, bk, cd, ph⟩ := S
  simp only at hph hG
  match ph, hph with
  | 0, _ =>
    cases gu with
    | none =>
      refine ctr_post (ctr_frame [0] (by kernel_rfl) (pCommit0N c p kb cl tp ep sl bk (rpO rb rl) (errV cd))) ?_
      rintro v L ⟨post, ⟨rfl, rfl⟩, rfl⟩
      exact ⟨_, view_pack (fun _ : PnH => True) (pnL p c cl tp ep (⟨K, none, rl, sl, bk, cd, 0⟩ : Pn)) ⟨kb, gb, rb⟩ (M := []) [3, 0, 1, 2] (by kernel_rfl) trivial, rfl, rfl⟩
    | some G =>
      refine ctr_view (view_unfold (e := E6f719 gb c G gb) 2 (by kernel_rfl)) ?_
      refine ctr_post (ctr_frame [0, 2] (by kernel_rfl) (pCommit0S c p kb gb cl tp ep sl bk (rpO rb rl) (errV cd) G (hG G rfl))) ?_
      rintro v L ⟨post, ⟨rfl, rfl⟩, rfl⟩
      exact ⟨_, (view_fold (e := E6f719 gb c G gb) 3 (by kernel_rfl)).trans (view_pack (fun _ : PnH => True) (pnL p c cl tp ep (⟨K, (some G), rl, sl, bk, cd, 0⟩ : Pn)) ⟨kb, gb, rb⟩ (M := []) [2, 0, 3, 1] (by kernel_rfl) trivial), rfl, rfl⟩
  | 1, _ =>
    refine ctr_post (ctr_frame [0] (by kernel_rfl) (pCommit1 c p kb cl tp ep sl bk (gpO gb gu) (rpO rb rl) (errV cd))) ?_
    rintro v L ⟨post, ⟨rfl, rfl⟩, rfl⟩
    exact ⟨_, view_pack (fun _ : PnH => True) (pnL p c cl tp ep (⟨K, gu, rl, sl, bk, cd, 1⟩ : Pn)) ⟨kb, gb, rb⟩ (M := []) [3, 0, 1, 2] (by kernel_rfl) trivial, rfl, rfl⟩
  | 2, _ =>
    refine ctr_post (ctr_frame [0] (by kernel_rfl) (pCommit2 c p kb cl tp ep sl bk (gpO gb gu) (rpO rb rl) (errV cd))) ?_
    rintro v L ⟨post, ⟨rfl, rfl⟩, rfl⟩
    exact ⟨_, view_pack (fun _ : PnH => True) (pnL p c cl tp ep (⟨K, gu, rl, sl, bk, cd, 2⟩ : Pn)) ⟨kb, gb, rb⟩ (M := []) [3, 0, 1, 2] (by kernel_rfl) trivial, rfl, rfl⟩
  | 3, _ =>
    refine ctr_post (ctr_frame [0] (by kernel_rfl) (pCommit3 c p kb cl tp ep sl bk (gpO gb gu) (rpO rb rl) (errV cd))) ?_
    rintro v L ⟨post, ⟨rfl, rfl⟩, rfl⟩
    exact ⟨_, view_pack (fun _ : PnH => True) (pnL p c cl tp ep (⟨K, gu, rl, sl, bk, cd, 3⟩ : Pn)) ⟨kb, gb, rb⟩ (M := []) [3, 0, 1, 2] (by kernel_rfl) trivial, rfl, rfl⟩
  | n + 4, h => omega

noncomputable def B17 : Code := (Tryz.f17.body).getD .skip

theorem pNew (c : Cfg) (cl tp ep : Int) (hc : c.Ok) (hcl : 0 ≤ cl ∧ cl < c.clients) (htp : 0 ≤ tp ∧ tp < c.topics) :
    Ctr Tryz.prog 17 #[cfgV c, vI cl, vI tp, vI ep] [] (fun v L => ∃ (p : Nat) (kb : Nat), v = vP p ∧ L = [Eea5c0 p c cl tp ep (.func (.func 47) #[] #[]) (vP kb) (.pointer none) (.pointer none) (-1) 0, E33322 kb c cl 0 (-1)]) := by
  refine ctr_of (args := [cfgV c, vI cl, vI tp, vI ep]) (fn := Tryz.f17) (body := B17) (nt := 28) Tryz.func17 (by kernel_rfl) (by kernel_rfl) ?_
  intro F
  refine go_exec (rs := [.tmp 8]) (by kernel_rfl) 4000 [.e 0, .z [0, 1] 2 [1, 2, 3, 4, 10, 11]] (o := .new fun b_1 => .obl (b_1 = b_1) (.stop [.o [0, 1] 2, .c [1, 1]] [(1, vI cl), (2, vI tp), (3, vI ep), (4, vP b_1), (10, cfgV c), (11, vI cl)] [Efdc04 b_1 c])) (by kernel_rfl) ?_
  refine ok_new fun b_1 => ?_
  refine ok_obl rfl ?_
  refine ok_stop ?_
  refine go_call (some 12) [] Tryz.call46 (new_Claim c cl (by first | assumption | omega | (simp only [InK] at *; omega)) (by first | assumption | omega | (simp only [InK] at *; omega))) (by kernel_rfl) ?_
  rintro v post ⟨k_2, rfl, rfl⟩
  refine go_exec (rs := [.tmp 8]) (by kernel_rfl) 4000 [.e 0, .z [0, 0, 1, 1] 5 [1, 2, 3, 4, 9, 15, 16, 17]] (o := .obl (b_1 = b_1) (.stop [.o [0, 0, 1, 1] 5, .c [1, 0, 1, 1], .c [1, 1, 1]] [(1, vI cl), (2, vI tp), (3, vI ep), (4, vP b_1), (9, vP k_2), (15, .bool false), (16, cfgV c), (17, vI tp)] [Efdc04 b_1 c, E33322 k_2 c cl 0 (-1)])) (by kernel_rfl) ?_
  refine ok_obl rfl ?_
  refine ok_stop ?_
  refine go_call (some 18) [] Tryz.call21 (plan_Control c tp (by first | assumption | omega | (simp only [InK] at *; omega))) (by kernel_rfl) ?_
  rintro v post ⟨rfl, rfl⟩
  refine go_exec (rs := [.tmp 8]) (by kernel_rfl) 4000 [.sp [20, 19] [.dead] [.e 0]] (o := .obl (((ctlAt c tp) == (-1)) = ((ctlAt c tp) == (-1))) (.br ((ctlAt c tp) == (-1)) (.bad) (.obl (b_1 = b_1) (.new fun b_3 => .ret (vP b_3) [Efdc04 b_1 c, E33322 k_2 c cl 0 (-1), Eea5c0 b_3 c cl tp ep (.func (.func 47) #[] #[]) (vP k_2) (.pointer none) (.pointer none) (-1) 0])))) (by kernel_rfl) ?_
  refine ok_obl rfl ?_
  refine ok_br (fun h => absurd (show ((ctlAt c tp) == (-1)) = false from (beq_eq_false_iff_ne.2 (by have := ctlAt_pos hc htp; omega))) (by rw [h]; simp)) (fun _ => ?_)
  refine ok_obl rfl ?_
  refine ok_new fun b_3 => ?_
  exact ret_ok (post := [Eea5c0 b_3 c cl tp ep (.func (.func 47) #[] #[]) (vP k_2) (.pointer none) (.pointer none) (-1) 0, E33322 k_2 c cl 0 (-1)]) [2, 1] (by kernel_rfl) ⟨b_3, k_2, rfl, (by kernel_rfl)⟩


theorem pin_New (c : Cfg) (cl tp ep : Int) (hc : c.Ok) (hcl : 0 ≤ cl ∧ cl < c.clients) (htp : 0 ≤ tp ∧ tp < c.topics) :
    Ctr Tryz.prog 17 #[cfgV c, vI cl, vI tp, vI ep] [] (fun v L => ∃ (p : Nat), v = vP p ∧ L = [.res (PnR p c cl tp ep (newPn cl))]) := by
  refine ctr_post (pNew c cl tp ep hc hcl htp) ?_
  rintro v L ⟨p, kb, rfl, rfl⟩
  exact ⟨_, view_unit.trans (view_unit.trans (view_pack (fun _ : PnH => True) (pnL p c cl tp ep (newPn cl)) ⟨kb, 0, 0⟩ (M := []) [0, 1, 2, 3] (by kernel_rfl) trivial)), p, rfl, rfl⟩


theorem pin_NewBadA (c : Cfg) (cl tp ep : Int) (hc : c.Ok) (hb : cl < 0) :
    Ctr Tryz.prog 17 #[cfgV c, vI cl, vI tp, vI ep] [] (Ret (.pointer none) []) := by
  refine ctr_of (args := [cfgV c, vI cl, vI tp, vI ep]) (fn := Tryz.f17) (body := B17) (nt := 28) Tryz.func17 (by kernel_rfl) (by kernel_rfl) ?_
  intro F
  refine go_exec (rs := [.tmp 8]) (by kernel_rfl) 4000 [.e 0, .z [0, 1] 2 [1, 2, 3, 4, 10, 11]] (o := .new fun b_1 => .obl (b_1 = b_1) (.stop [.o [0, 1] 2, .c [1, 1]] [(1, vI cl), (2, vI tp), (3, vI ep), (4, vP b_1), (10, cfgV c), (11, vI cl)] [Efdc04 b_1 c])) (by kernel_rfl) ?_
  refine ok_new fun b_1 => ?_
  refine ok_obl rfl ?_
  refine ok_stop ?_
  refine go_call (some 12) [] Tryz.call46 (new_ClaimBadA c cl (by first | assumption | omega | (simp only [InK] at *; omega)) hb) (by kernel_rfl) ?_
  rintro v post ⟨rfl, rfl⟩
  refine go_exec (rs := [.tmp 8]) (by kernel_rfl) 4000 [] (o := .ret (.pointer none) [Efdc04 b_1 c]) (by kernel_rfl) ?_
  exact ret_ok (post := []) [] (by kernel_rfl) ⟨rfl, (by kernel_rfl)⟩


theorem pin_NewBadB (c : Cfg) (cl tp ep : Int) (hc : c.Ok) (hb : ¬ cl < 0) (hb2 : cl ≥ c.clients) :
    Ctr Tryz.prog 17 #[cfgV c, vI cl, vI tp, vI ep] [] (Ret (.pointer none) []) := by
  refine ctr_of (args := [cfgV c, vI cl, vI tp, vI ep]) (fn := Tryz.f17) (body := B17) (nt := 28) Tryz.func17 (by kernel_rfl) (by kernel_rfl) ?_
  intro F
  refine go_exec (rs := [.tmp 8]) (by kernel_rfl) 4000 [.e 0, .z [0, 1] 2 [1, 2, 3, 4, 10, 11]] (o := .new fun b_1 => .obl (b_1 = b_1) (.stop [.o [0, 1] 2, .c [1, 1]] [(1, vI cl), (2, vI tp), (3, vI ep), (4, vP b_1), (10, cfgV c), (11, vI cl)] [Efdc04 b_1 c])) (by kernel_rfl) ?_
  refine ok_new fun b_1 => ?_
  refine ok_obl rfl ?_
  refine ok_stop ?_
  refine go_call (some 12) [] Tryz.call46 (new_ClaimBadB c cl (by first | assumption | omega | (simp only [InK] at *; omega)) hb hb2) (by kernel_rfl) ?_
  rintro v post ⟨rfl, rfl⟩
  refine go_exec (rs := [.tmp 8]) (by kernel_rfl) 4000 [] (o := .ret (.pointer none) [Efdc04 b_1 c]) (by kernel_rfl) ?_
  exact ret_ok (post := []) [] (by kernel_rfl) ⟨rfl, (by kernel_rfl)⟩


theorem pin_NewBadC (c : Cfg) (cl tp ep : Int) (hc : c.Ok) (hcl : 0 ≤ cl ∧ cl < c.clients) (htp : ¬ (0 ≤ tp ∧ tp < c.topics)) :
    Ctr Tryz.prog 17 #[cfgV c, vI cl, vI tp, vI ep] [] (Ret (.pointer none) []) := by
  refine ctr_of (args := [cfgV c, vI cl, vI tp, vI ep]) (fn := Tryz.f17) (body := B17) (nt := 28) Tryz.func17 (by kernel_rfl) (by kernel_rfl) ?_
  intro F
  refine go_exec (rs := [.tmp 8]) (by kernel_rfl) 4000 [.e 0, .z [0, 1] 2 [1, 2, 3, 4, 10, 11]] (o := .new fun b_1 => .obl (b_1 = b_1) (.stop [.o [0, 1] 2, .c [1, 1]] [(1, vI cl), (2, vI tp), (3, vI ep), (4, vP b_1), (10, cfgV c), (11, vI cl)] [Efdc04 b_1 c])) (by kernel_rfl) ?_
  refine ok_new fun b_1 => ?_
  refine ok_obl rfl ?_
  refine ok_stop ?_
  refine go_call (some 12) [] Tryz.call46 (new_Claim c cl (by first | assumption | omega | (simp only [InK] at *; omega)) (by first | assumption | omega | (simp only [InK] at *; omega))) (by kernel_rfl) ?_
  rintro v post ⟨k_2, rfl, rfl⟩
  refine go_exec (rs := [.tmp 8]) (by kernel_rfl) 4000 [.e 0, .z [0, 0, 1, 1] 5 [1, 2, 3, 4, 9, 15, 16, 17]] (o := .obl (b_1 = b_1) (.stop [.o [0, 0, 1, 1] 5, .c [1, 0, 1, 1], .c [1, 1, 1]] [(1, vI cl), (2, vI tp), (3, vI ep), (4, vP b_1), (9, vP k_2), (15, .bool false), (16, cfgV c), (17, vI tp)] [Efdc04 b_1 c, E33322 k_2 c cl 0 (-1)])) (by kernel_rfl) ?_
  refine ok_obl rfl ?_
  refine ok_stop ?_
  refine go_call (some 18) [] Tryz.call21 (plan_Control c tp (by first | assumption | omega | (simp only [InK] at *; omega))) (by kernel_rfl) ?_
  rintro v post ⟨rfl, rfl⟩
  refine go_exec (rs := [.tmp 8]) (by kernel_rfl) 4000 [.sp [20, 19] [] [.dead]] (o := .obl (((ctlAt c tp) == (-1)) = ((ctlAt c tp) == (-1))) (.br ((ctlAt c tp) == (-1)) (.ret (.pointer none) [Efdc04 b_1 c, E33322 k_2 c cl 0 (-1)]) (.bad))) (by kernel_rfl) ?_
  refine ok_obl rfl ?_
  refine ok_br (fun _ => ?_) (fun h => absurd (show ((ctlAt c tp) == (-1)) = true from (beq_iff_eq.2 (by unfold ctlAt; rw [if_neg htp]))) (by rw [h]; simp))
  exact ret_ok (post := []) [] (by kernel_rfl) ⟨rfl, (by kernel_rfl)⟩


theorem pin_New0 (cl tp ep : Int)  :
    Ctr Tryz.prog 17 #[.agg #[vI 0, vI 0, vI 0, vI 0, vI 0, vI 0, vI 0, vI 0, vI 0], vI cl, vI tp, vI ep] [] (Ret (.pointer none) []) := by
  refine ctr_of (args := [.agg #[vI 0, vI 0, vI 0, vI 0, vI 0, vI 0, vI 0, vI 0, vI 0], vI cl, vI tp, vI ep]) (fn := Tryz.f17) (body := B17) (nt := 28) Tryz.func17 (by kernel_rfl) (by kernel_rfl) ?_
  intro F
  refine go_exec (rs := [.tmp 8]) (by kernel_rfl) 4000 [.e 0, .z [0, 1] 2 [1, 2, 3, 4, 10, 11]] (o := .new fun b_1 => .obl (b_1 = b_1) (.stop [.o [0, 1] 2, .c [1, 1]] [(1, vI cl), (2, vI tp), (3, vI ep), (4, vP b_1), (10, .agg #[vI 0, vI 0, vI 0, vI 0, vI 0, vI 0, vI 0, vI 0, vI 0]), (11, vI cl)] [Ed975e b_1 0 0 0 0 0 0 0 0 0])) (by kernel_rfl) ?_
  refine ok_new fun b_1 => ?_
  refine ok_obl rfl ?_
  refine ok_stop ?_
  refine go_call (some 12) [] Tryz.call46 (new_Claim0 cl) (by kernel_rfl) ?_
  rintro v post ⟨rfl, rfl⟩
  refine go_exec (rs := [.tmp 8]) (by kernel_rfl) 4000 [] (o := .ret (.pointer none) [Ed975e b_1 0 0 0 0 0 0 0 0 0]) (by kernel_rfl) ?_
  exact ret_ok (post := []) [] (by kernel_rfl) ⟨rfl, (by kernel_rfl)⟩

end Go.Proofs.YtiiepkjckmdmkaaGreatDoor


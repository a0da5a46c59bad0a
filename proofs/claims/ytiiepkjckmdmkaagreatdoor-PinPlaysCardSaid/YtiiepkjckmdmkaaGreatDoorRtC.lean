/- Walks: what functions of the program and of the document compute, part 3 of those on which PinPlays rests. -/
import Derived.Test.YtiiepkjckmdmkaaGreatDoorRtB

set_option linter.unusedVariables false
set_option linter.unusedSimpArgs false

namespace Go.Proofs.YtiiepkjckmdmkaaGreatDoor
open Go.Sx
abbrev E33322 (x0 : Nat) (c1 : Cfg) (x2 : Int) (x3 : Int) (x4 : Int) : Ent := .pts x0 [.int .i64 c1.topics, .int .i64 c1.small, .int .i64 c1.slots, .int .i64 c1.clients, .int .i64 c1.s0, .int .i64 c1.n0, .int .i64 c1.s1, .int .i64 c1.n1, .int .i64 c1.retry, .int .i64 x2, .int .i64 x3, .int .i64 x4] 160
abbrev E85b39 (x0 : Nat) (c1 : Cfg) (c2 : Cl) : Ent := .pts x0 [.int .i64 c1.topics, .int .i64 c1.small, .int .i64 c1.slots, .int .i64 c1.clients, .int .i64 c1.s0, .int .i64 c1.n0, .int .i64 c1.s1, .int .i64 c1.n1, .int .i64 c1.retry, .int .i64 c2.client, .int .i64 c2.at_, .int .i64 c2.slot] 160
abbrev q50_0 : List Nat := [0, 0, 0, 1, 1, 1, 1]
abbrev q50_1 : List Nat := [1, 0, 0, 1, 1, 1, 1]
abbrev q50_2 : List Nat := [0, 1, 1, 0, 0, 1, 1, 1, 1]
abbrev q50_3 : List Nat := [1, 1, 1, 0, 0, 1, 1, 1, 1]
noncomputable def B121 : Code := (Tryz.f121.body).getD .skip

theorem claim_Done (c : Cfg) (k : Nat) (cl at_ sl : Int)  :
    Ctr Tryz.prog 121 #[vP k] [E33322 k c cl at_ sl] (Ret (.bool (at_ == -1)) [E33322 k c cl at_ sl]) := by
  refine ctr_of (args := [vP k]) (fn := Tryz.f121) (body := B121) (nt := 12) Tryz.func121 (by kernel_rfl) (by kernel_rfl) ?_
  intro F
  refine go_exec (rs := [.tmp 2]) (by kernel_rfl) 4000 [.e 0] (o := .obl (k = k) (.ret (.bool (at_ == (-1))) [E33322 k c cl at_ sl])) (by kernel_rfl) ?_
  refine ok_obl rfl ?_
  exact ret_ok (post := [E33322 k c cl at_ sl]) [0] (by kernel_rfl) ⟨(congrArg Value.bool (by first | rfl | (simp; done) | (simp; omega))), (by kernel_rfl)⟩

noncomputable def B92 : Code := (Tryz.f92.body).getD .skip

theorem claim_Slot (c : Cfg) (k : Nat) (K : Cl) (hd : K.at_ = -1) :
    Ctr Tryz.prog 92 #[vP k] [E85b39 k c K] (Ret (vI K.slot) [E85b39 k c K]) := by
  refine ctr_of (args := [vP k]) (fn := Tryz.f92) (body := B92) (nt := 14) Tryz.func92 (by kernel_rfl) (by kernel_rfl) ?_
  intro F
  refine go_exec (rs := [.tmp 2]) (by kernel_rfl) 4000 [.z [0, 0, 1] 4 [0, 5, 6]] (o := .stop [.o [0, 0, 1] 4, .c [1, 0, 1], .c [1, 1]] [(0, vP k), (5, .bool false), (6, vP k)] [E85b39 k c K]) (by kernel_rfl) ?_
  refine ok_stop ?_
  refine go_call (some 7) [0] Tryz.call121 (claim_Done c k K.client K.at_ K.slot) (by kernel_rfl) ?_
  rintro v post ⟨rfl, rfl⟩
  refine go_exec (rs := [.tmp 2]) (by kernel_rfl) 4000 [.sp [9, 8] [.dead] [.e 0]] (o := .obl ((!(K.at_ == -1)) = (!(K.at_ == -1))) (.br (!(K.at_ == -1)) (.bad) (.obl (k = k) (.ret (vI K.slot) [E85b39 k c K])))) (by kernel_rfl) ?_
  refine ok_obl rfl ?_
  refine ok_br (fun h => absurd (show (!(K.at_ == -1)) = false from (by simp [hd])) (by rw [h]; simp)) (fun _ => ?_)
  refine ok_obl rfl ?_
  exact ret_ok (post := [E85b39 k c K]) [0] (by kernel_rfl) ⟨rfl, (by kernel_rfl)⟩

noncomputable def B91 : Code := (Tryz.f91.body).getD .skip

theorem kStepD (c : Cfg) (k ba : Nat) (cl at_ sl : Int) (A : Ar) (hc : c.Ok) (hn : A.ws.length = A.n) (hs : 0 ≤ A.steps ∧ A.steps ≤ 1000000000) (hcl : 0 ≤ cl ∧ cl ≤ 1000) (ha : at_ = -1) :
    Ctr Tryz.prog 91 #[vP k, vP ba] [E33322 k c cl at_ sl, Ebed9f ba A, E632c4 A] (Ret (.bool true) [E33322 k c cl at_ sl, Ebed9f ba A, E632c4 A]) := by
  refine ctr_of (args := [vP k, vP ba]) (fn := Tryz.f91) (body := B91) (nt := 56) Tryz.func91 (by kernel_rfl) (by kernel_rfl) ?_
  intro F
  refine go_exec (rs := [.tmp 4]) (by kernel_rfl) 4000 [.z [0, 0, 1] 1 [0, 1, 6]] (o := .stop [.o [0, 0, 1] 1, .c [1, 0, 1], .c [1, 1]] [(0, vP k), (1, vP ba), (6, vP k)] [E33322 k c cl at_ sl, Ebed9f ba A, E632c4 A]) (by kernel_rfl) ?_
  refine ok_stop ?_
  refine go_call (some 7) [0] Tryz.call121 (claim_Done c k cl at_ sl) (by kernel_rfl) ?_
  rintro v post ⟨rfl, rfl⟩
  refine go_exec (rs := [.tmp 4]) (by kernel_rfl) 4000 [.sp [7] [] [.dead]] (o := .br (at_ == -1) (.ret (.bool true) [Ebed9f ba A, E632c4 A, E33322 k c cl at_ sl]) (.bad)) (by kernel_rfl) ?_
  refine ok_br (fun _ => ?_) (fun h => absurd (show (at_ == -1) = true from (by simp [ha])) (by rw [h]; simp))
  exact ret_ok (post := [E33322 k c cl at_ sl, Ebed9f ba A, E632c4 A]) [2, 0, 1] (by kernel_rfl) ⟨rfl, (by kernel_rfl)⟩


theorem kStepT (c : Cfg) (k ba : Nat) (cl at_ sl : Int) (A : Ar) (hc : c.Ok) (hn : A.ws.length = A.n) (hs : 0 ≤ A.steps ∧ A.steps ≤ 1000000000) (hcl : 0 ≤ cl ∧ cl ≤ 1000) (ha : 0 ≤ at_ ∧ at_ < c.slots) (hi : 0 ≤ slotAt c at_ ∧ slotAt c at_ < A.n) (hw : (A.ws.getD (slotAt c at_).toNat 0) = 0) :
    Ctr Tryz.prog 91 #[vP k, vP ba] [E33322 k c cl at_ sl, Ebed9f ba A, E632c4 A] (Ret (.bool true) [E33322 k c cl (-1) at_, Ebed9f ba (A.swapT (slotAt c at_) (markW cl 0)), E632c4 (A.swapT (slotAt c at_) (markW cl 0))]) := by
  refine ctr_of (args := [vP k, vP ba]) (fn := Tryz.f91) (body := B91) (nt := 56) Tryz.func91 (by kernel_rfl) (by kernel_rfl) ?_
  intro F
  refine go_exec (rs := [.tmp 4]) (by kernel_rfl) 4000 [.z [0, 0, 1] 1 [0, 1, 6]] (o := .stop [.o [0, 0, 1] 1, .c [1, 0, 1], .c [1, 1]] [(0, vP k), (1, vP ba), (6, vP k)] [E33322 k c cl at_ sl, Ebed9f ba A, E632c4 A]) (by kernel_rfl) ?_
  refine ok_stop ?_
  refine go_call (some 7) [0] Tryz.call121 (claim_Done c k cl at_ sl) (by kernel_rfl) ?_
  rintro v post ⟨rfl, rfl⟩
  refine go_exec (rs := [.tmp 4]) (by kernel_rfl) 4000 [.sp [7] [.dead] [.e 2, .e 2, .n, .e 2, .z q50_0 0 [0, 1, 5]]] (o := .br (at_ == -1) (.bad) (.obl (k = k) (.obl (k = k) (.obl (InK .i64 (at_ + 1)) (.obl (k = k) (.stop [.c q50_0, .c q50_1, .b 0, .c [1, 1, 1, 1, 1]] [(0, vP k), (1, vP ba), (5, vI at_)] [Ebed9f ba A, E632c4 A, E33322 k c cl (at_ + 1) sl])))))) (by kernel_rfl) ?_
  refine ok_br (fun h => absurd (show (at_ == -1) = false from (by simp; omega)) (by rw [h]; simp)) (fun _ => ?_)
  refine ok_obl rfl ?_
  refine ok_obl rfl ?_
  refine ok_obl (by simp only [Cfg.Ok, InK] at *; omega) ?_
  refine ok_obl rfl ?_
  refine ok_stop ?_
  refine go_tail_call (dst := (some 32)) (ps := [k = k, k = k]) (cs := [(24, #[cfgV c, vI at_], vI (slotAt c at_)), (123, #[vI cl, vI 0], vU (markW cl 0))]) [(0, .h .w), (1, .h .w), (2, .h .w), (3, .h .w), (4, .h (.e 2)), (5, .h .w), (6, .q (vI (slotAt c at_))), (7, .h .w), (8, .h .w), (9, .h .w), (10, .h (.e 2)), (11, .q (vU (markW cl 0)))] 12 [(13, .h .w)] [0, 1] [0, 5, 19] (by kernel_rfl) Tryz.call122 (arena_SwapT ba A (slotAt c at_) 0 (markW cl 0) (by first | assumption | omega | (simp only [InK] at *; omega)) hi (by first | assumption | omega | (simp only [InK] at *; omega)) hw) (by kernel_rfl) ⟨rfl, rfl, trivial⟩ ⟨⟨Tryz.call24, quiet_of [] (plan_Slot c at_ hc) (by kernel_rfl) (by rintro v post ⟨rfl, rfl⟩; exact ⟨rfl, rfl⟩)⟩, ⟨Tryz.call123, quiet_of [] (slots_Mark cl 0 (by omega) (by decide)) (by kernel_rfl) (by rintro v post ⟨rfl, rfl⟩; exact ⟨rfl, rfl⟩)⟩, trivial⟩ ?_
  rintro v post ⟨rfl, rfl⟩
  refine tail_next (tm' := [(0, vP k), (5, vI at_), (19, .bool true)]) (ps2 := []) (by kernel_rfl) trivial ?_
  refine go_exec (rs := [.tmp 4]) (by kernel_rfl) 4000 [.e 0, .e 0, .z [0, 1, 1, 1, 1, 1] 1 [54]] (o := .obl (k = k) (.obl (k = k) (.stop [.o [0, 1, 1, 1, 1, 1] 1, .c [1, 1, 1, 1, 1, 1]] [(54, vP k)] [E33322 k c cl (-1) at_, Ebed9f ba (A.swapT (slotAt c at_) (markW cl 0)), E632c4 (A.swapT (slotAt c at_) (markW cl 0))]))) (by kernel_rfl) ?_
  refine ok_obl rfl ?_
  refine ok_obl rfl ?_
  refine ok_stop ?_
  refine go_call (some 55) [0] Tryz.call121 (claim_Done c k cl (-1) at_) (by kernel_rfl) ?_
  rintro v post ⟨rfl, rfl⟩
  refine go_exec (rs := [.tmp 4]) (by kernel_rfl) 4000 [] (o := .ret (.bool ((-1) == -1)) [Ebed9f ba (A.swapT (slotAt c at_) (markW cl 0)), E632c4 (A.swapT (slotAt c at_) (markW cl 0)), E33322 k c cl (-1) at_]) (by kernel_rfl) ?_
  exact ret_ok (post := [E33322 k c cl (-1) at_, Ebed9f ba (A.swapT (slotAt c at_) (markW cl 0)), E632c4 (A.swapT (slotAt c at_) (markW cl 0))]) [2, 0, 1] (by kernel_rfl) ⟨(congrArg Value.bool (by first | rfl | (simp; done) | (simp; omega))), (by kernel_rfl)⟩


theorem kStepL (c : Cfg) (k ba : Nat) (cl at_ sl : Int) (A : Ar) (hc : c.Ok) (hn : A.ws.length = A.n) (hs : 0 ≤ A.steps ∧ A.steps ≤ 1000000000) (hcl : 0 ≤ cl ∧ cl ≤ 1000) (ha : 0 ≤ at_ ∧ at_ < c.slots) (hi : 0 ≤ slotAt c at_ ∧ slotAt c at_ < A.n) (hw : (A.ws.getD (slotAt c at_).toNat 0) ≠ 0) (hl : at_ + 1 = c.slots) :
    Ctr Tryz.prog 91 #[vP k, vP ba] [E33322 k c cl at_ sl, Ebed9f ba A, E632c4 A] (Ret (.bool true) [E33322 k c cl (-1) sl, Ebed9f ba (A.swapF (slotAt c at_)), E632c4 (A.swapF (slotAt c at_))]) := by
  refine ctr_of (args := [vP k, vP ba]) (fn := Tryz.f91) (body := B91) (nt := 56) Tryz.func91 (by kernel_rfl) (by kernel_rfl) ?_
  intro F
  refine go_exec (rs := [.tmp 4]) (by kernel_rfl) 4000 [.z [0, 0, 1] 1 [0, 1, 6]] (o := .stop [.o [0, 0, 1] 1, .c [1, 0, 1], .c [1, 1]] [(0, vP k), (1, vP ba), (6, vP k)] [E33322 k c cl at_ sl, Ebed9f ba A, E632c4 A]) (by kernel_rfl) ?_
  refine ok_stop ?_
  refine go_call (some 7) [0] Tryz.call121 (claim_Done c k cl at_ sl) (by kernel_rfl) ?_
  rintro v post ⟨rfl, rfl⟩
  refine go_exec (rs := [.tmp 4]) (by kernel_rfl) 4000 [.sp [7] [.dead] [.e 2, .e 2, .n, .e 2, .z q50_0 0 [0, 1, 5]]] (o := .br (at_ == -1) (.bad) (.obl (k = k) (.obl (k = k) (.obl (InK .i64 (at_ + 1)) (.obl (k = k) (.stop [.c q50_0, .c q50_1, .b 0, .c [1, 1, 1, 1, 1]] [(0, vP k), (1, vP ba), (5, vI at_)] [Ebed9f ba A, E632c4 A, E33322 k c cl (at_ + 1) sl])))))) (by kernel_rfl) ?_
  refine ok_br (fun h => absurd (show (at_ == -1) = false from (by simp; omega)) (by rw [h]; simp)) (fun _ => ?_)
  refine ok_obl rfl ?_
  refine ok_obl rfl ?_
  refine ok_obl (by simp only [Cfg.Ok, InK] at *; omega) ?_
  refine ok_obl rfl ?_
  refine ok_stop ?_
  refine go_tail_call (dst := (some 32)) (ps := [k = k, k = k]) (cs := [(24, #[cfgV c, vI at_], vI (slotAt c at_)), (123, #[vI cl, vI 0], vU (markW cl 0))]) [(0, .h .w), (1, .h .w), (2, .h .w), (3, .h .w), (4, .h (.e 2)), (5, .h .w), (6, .q (vI (slotAt c at_))), (7, .h .w), (8, .h .w), (9, .h .w), (10, .h (.e 2)), (11, .q (vU (markW cl 0)))] 12 [(13, .h .w)] [0, 1] [0, 5, 19] (by kernel_rfl) Tryz.call122 (arena_SwapF ba A (slotAt c at_) 0 (markW cl 0) (by first | assumption | omega | (simp only [InK] at *; omega)) hi (by first | assumption | omega | (simp only [InK] at *; omega)) hw) (by kernel_rfl) ⟨rfl, rfl, trivial⟩ ⟨⟨Tryz.call24, quiet_of [] (plan_Slot c at_ hc) (by kernel_rfl) (by rintro v post ⟨rfl, rfl⟩; exact ⟨rfl, rfl⟩)⟩, ⟨Tryz.call123, quiet_of [] (slots_Mark cl 0 (by omega) (by decide)) (by kernel_rfl) (by rintro v post ⟨rfl, rfl⟩; exact ⟨rfl, rfl⟩)⟩, trivial⟩ ?_
  rintro v post ⟨rfl, rfl⟩
  refine tail_next (tm' := [(0, vP k), (5, vI at_), (19, .bool false)]) (ps2 := []) (by kernel_rfl) trivial ?_
  refine go_exec (rs := [.tmp 4]) (by kernel_rfl) 4000 [.z q50_2 0 [0]] (o := .stop [.c q50_2, .c q50_3, .b 0, .c [1, 1, 1, 1, 1]] [(0, vP k)] [E33322 k c cl (at_ + 1) sl, Ebed9f ba (A.swapF (slotAt c at_)), E632c4 (A.swapF (slotAt c at_))]) (by kernel_rfl) ?_
  refine ok_stop ?_
  refine go_quiet (tm' := [(0, vP k), (40, .bool true)]) (ps := [k = k, k = k, ((at_ + 1) == c.slots) = true]) (cs := []) [(0, .h .w), (1, .h .w), (2, .h .w), (3, .h (.e 0)), (4, .h .w), (5, .h .w), (6, .h .w), (7, .h .w), (8, .h (.e 0)), (9, .h (.t true)), (10, .h .w)] [0, 40] (by kernel_rfl) (by kernel_rfl) ⟨rfl, rfl, (beq_iff_eq.2 hl), trivial⟩ trivial ?_
  refine go_exec (rs := [.tmp 4]) (by kernel_rfl) 4000 [.e 0, .z [0, 1, 1, 1, 1, 1] 1 [54]] (o := .obl (k = k) (.stop [.o [0, 1, 1, 1, 1, 1] 1, .c [1, 1, 1, 1, 1, 1]] [(54, vP k)] [E33322 k c cl (-1) sl, Ebed9f ba (A.swapF (slotAt c at_)), E632c4 (A.swapF (slotAt c at_))])) (by kernel_rfl) ?_
  refine ok_obl rfl ?_
  refine ok_stop ?_
  refine go_call (some 55) [0] Tryz.call121 (claim_Done c k cl (-1) sl) (by kernel_rfl) ?_
  rintro v post ⟨rfl, rfl⟩
  refine go_exec (rs := [.tmp 4]) (by kernel_rfl) 4000 [] (o := .ret (.bool ((-1) == -1)) [Ebed9f ba (A.swapF (slotAt c at_)), E632c4 (A.swapF (slotAt c at_)), E33322 k c cl (-1) sl]) (by kernel_rfl) ?_
  exact ret_ok (post := [E33322 k c cl (-1) sl, Ebed9f ba (A.swapF (slotAt c at_)), E632c4 (A.swapF (slotAt c at_))]) [2, 0, 1] (by kernel_rfl) ⟨(congrArg Value.bool (by first | rfl | (simp; done) | (simp; omega))), (by kernel_rfl)⟩


theorem kStepN (c : Cfg) (k ba : Nat) (cl at_ sl : Int) (A : Ar) (hc : c.Ok) (hn : A.ws.length = A.n) (hs : 0 ≤ A.steps ∧ A.steps ≤ 1000000000) (hcl : 0 ≤ cl ∧ cl ≤ 1000) (ha : 0 ≤ at_ ∧ at_ < c.slots) (hi : 0 ≤ slotAt c at_ ∧ slotAt c at_ < A.n) (hw : (A.ws.getD (slotAt c at_).toNat 0) ≠ 0) (hl : at_ + 1 ≠ c.slots) :
    Ctr Tryz.prog 91 #[vP k, vP ba] [E33322 k c cl at_ sl, Ebed9f ba A, E632c4 A] (Ret (.bool false) [E33322 k c cl (at_ + 1) sl, Ebed9f ba (A.swapF (slotAt c at_)), E632c4 (A.swapF (slotAt c at_))]) := by
  refine ctr_of (args := [vP k, vP ba]) (fn := Tryz.f91) (body := B91) (nt := 56) Tryz.func91 (by kernel_rfl) (by kernel_rfl) ?_
  intro F
  refine go_exec (rs := [.tmp 4]) (by kernel_rfl) 4000 [.z [0, 0, 1] 1 [0, 1, 6]] (o := .stop [.o [0, 0, 1] 1, .c [1, 0, 1], .c [1, 1]] [(0, vP k), (1, vP ba), (6, vP k)] [E33322 k c cl at_ sl, Ebed9f ba A, E632c4 A]) (by kernel_rfl) ?_
  refine ok_stop ?_
  refine go_call (some 7) [0] Tryz.call121 (claim_Done c k cl at_ sl) (by kernel_rfl) ?_
  rintro v post ⟨rfl, rfl⟩
  refine go_exec (rs := [.tmp 4]) (by kernel_rfl) 4000 [.sp [7] [.dead] [.e 2, .e 2, .n, .e 2, .z q50_0 0 [0, 1, 5]]] (o := .br (at_ == -1) (.bad) (.obl (k = k) (.obl (k = k) (.obl (InK .i64 (at_ + 1)) (.obl (k = k) (.stop [.c q50_0, .c q50_1, .b 0, .c [1, 1, 1, 1, 1]] [(0, vP k), (1, vP ba), (5, vI at_)] [Ebed9f ba A, E632c4 A, E33322 k c cl (at_ + 1) sl])))))) (by kernel_rfl) ?_
  refine ok_br (fun h => absurd (show (at_ == -1) = false from (by simp; omega)) (by rw [h]; simp)) (fun _ => ?_)
  refine ok_obl rfl ?_
  refine ok_obl rfl ?_
  refine ok_obl (by simp only [Cfg.Ok, InK] at *; omega) ?_
  refine ok_obl rfl ?_
  refine ok_stop ?_
  refine go_tail_call (dst := (some 32)) (ps := [k = k, k = k]) (cs := [(24, #[cfgV c, vI at_], vI (slotAt c at_)), (123, #[vI cl, vI 0], vU (markW cl 0))]) [(0, .h .w), (1, .h .w), (2, .h .w), (3, .h .w), (4, .h (.e 2)), (5, .h .w), (6, .q (vI (slotAt c at_))), (7, .h .w), (8, .h .w), (9, .h .w), (10, .h (.e 2)), (11, .q (vU (markW cl 0)))] 12 [(13, .h .w)] [0, 1] [0, 5, 19] (by kernel_rfl) Tryz.call122 (arena_SwapF ba A (slotAt c at_) 0 (markW cl 0) (by first | assumption | omega | (simp only [InK] at *; omega)) hi (by first | assumption | omega | (simp only [InK] at *; omega)) hw) (by kernel_rfl) ⟨rfl, rfl, trivial⟩ ⟨⟨Tryz.call24, quiet_of [] (plan_Slot c at_ hc) (by kernel_rfl) (by rintro v post ⟨rfl, rfl⟩; exact ⟨rfl, rfl⟩)⟩, ⟨Tryz.call123, quiet_of [] (slots_Mark cl 0 (by omega) (by decide)) (by kernel_rfl) (by rintro v post ⟨rfl, rfl⟩; exact ⟨rfl, rfl⟩)⟩, trivial⟩ ?_
  rintro v post ⟨rfl, rfl⟩
  refine tail_next (tm' := [(0, vP k), (5, vI at_), (19, .bool false)]) (ps2 := []) (by kernel_rfl) trivial ?_
  refine go_exec (rs := [.tmp 4]) (by kernel_rfl) 4000 [.z q50_2 0 [0]] (o := .stop [.c q50_2, .c q50_3, .b 0, .c [1, 1, 1, 1, 1]] [(0, vP k)] [E33322 k c cl (at_ + 1) sl, Ebed9f ba (A.swapF (slotAt c at_)), E632c4 (A.swapF (slotAt c at_))]) (by kernel_rfl) ?_
  refine ok_stop ?_
  refine go_quiet (tm' := [(0, vP k), (40, .bool false)]) (ps := [k = k, k = k, ((at_ + 1) == c.slots) = false]) (cs := []) [(0, .h .w), (1, .h .w), (2, .h .w), (3, .h (.e 0)), (4, .h .w), (5, .h .w), (6, .h .w), (7, .h .w), (8, .h (.e 0)), (9, .h (.t false)), (10, .h .w)] [0, 40] (by kernel_rfl) (by kernel_rfl) ⟨rfl, rfl, (beq_eq_false_iff_ne.2 hl), trivial⟩ trivial ?_
  refine go_exec (rs := [.tmp 4]) (by kernel_rfl) 4000 [.z [0, 1, 1, 1, 1, 1] 1 [54]] (o := .stop [.o [0, 1, 1, 1, 1, 1] 1, .c [1, 1, 1, 1, 1, 1]] [(54, vP k)] [E33322 k c cl (at_ + 1) sl, Ebed9f ba (A.swapF (slotAt c at_)), E632c4 (A.swapF (slotAt c at_))]) (by kernel_rfl) ?_
  refine ok_stop ?_
  refine go_call (some 55) [0] Tryz.call121 (claim_Done c k cl (at_ + 1) sl) (by kernel_rfl) ?_
  rintro v post ⟨rfl, rfl⟩
  refine go_exec (rs := [.tmp 4]) (by kernel_rfl) 4000 [] (o := .ret (.bool ((at_ + 1) == -1)) [Ebed9f ba (A.swapF (slotAt c at_)), E632c4 (A.swapF (slotAt c at_)), E33322 k c cl (at_ + 1) sl]) (by kernel_rfl) ?_
  exact ret_ok (post := [E33322 k c cl (at_ + 1) sl, Ebed9f ba (A.swapF (slotAt c at_)), E632c4 (A.swapF (slotAt c at_))]) [2, 0, 1] (by kernel_rfl) ⟨(congrArg Value.bool (by first | rfl | (simp; done) | (simp; omega))), (by kernel_rfl)⟩


theorem claim_Step (c : Cfg) (k ba : Nat) (K : Cl) (A : Ar) (hc : c.Ok) (hn : A.ws.length = A.n) (hs : 0 ≤ A.steps ∧ A.steps ≤ 1000000000) (hz : (A.n : Int) = sizeOfC c) (hK : Cl.Ok c K) :
    Ctr Tryz.prog 91 #[vP k, vP ba] [E85b39 k c K, Ebed9f ba A, E632c4 A] (Ret (.bool ((K.step c A).1.at_ == -1)) [E85b39 k c ((K.step c A).1), Ebed9f ba ((K.step c A).2), E632c4 ((K.step c A).2)]) := by
  obtain ⟨cl, at_, sl⟩ := K
  obtain ⟨h1, h2, h3, h4⟩ := hK
  simp only at h1 h2 h3 h4
  have hc' := hc
  simp only [Cfg.Ok] at hc'
  by_cases ha : at_ = -1
  · have e : Cl.step c ⟨cl, at_, sl⟩ A = (⟨cl, at_, sl⟩, A) := by show (if _ then _ else _) = _; rw [if_pos ha]
    rw [e, show (at_ == -1) = true from beq_iff_eq.2 ha]
    exact kStepD c k ba cl at_ sl A hc hn hs (by omega) ha
  · have hat := h2.resolve_left ha
    have hso := slotAt_ok hc hat
    by_cases hw : A.ws.getD (slotAt c at_).toNat 0 = 0
    · have e : Cl.step c ⟨cl, at_, sl⟩ A = (⟨cl, -1, at_⟩, A.swapT (slotAt c at_) (markW cl 0)) := by show (if _ then _ else _) = _; rw [if_neg ha, if_pos hw]
      rw [e]; exact kStepT c k ba cl at_ sl A hc hn hs (by omega) hat (by omega) hw
    · by_cases hl : at_ + 1 = c.slots
      · have e : Cl.step c ⟨cl, at_, sl⟩ A = (⟨cl, -1, sl⟩, A.swapF (slotAt c at_)) := by show (if _ then _ else _) = _; rw [if_neg ha, if_neg hw, if_pos hl]
        rw [e]; exact kStepL c k ba cl at_ sl A hc hn hs (by omega) hat (by omega) hw hl
      · have e : Cl.step c ⟨cl, at_, sl⟩ A = (⟨cl, at_ + 1, sl⟩, A.swapF (slotAt c at_)) := by show (if _ then _ else _) = _; rw [if_neg ha, if_neg hw, if_neg hl]
        rw [e, show (at_ + 1 == -1) = false from beq_eq_false_iff_ne.2 (by omega)]
        exact kStepN c k ba cl at_ sl A hc hn hs (by omega) hat (by omega) hw hl

noncomputable def B46 : Code := (Tryz.f46.body).getD .skip

theorem new_Claim (c : Cfg) (cl : Int) (hc : c.Ok) (hcl : 0 ≤ cl ∧ cl < c.clients) :
    Ctr Tryz.prog 46 #[cfgV c, vI cl] [] (fun v L => ∃ (k : Nat), v = vP k ∧ L = [E33322 k c cl 0 (-1)]) := by
  refine ctr_of (args := [cfgV c, vI cl]) (fn := Tryz.f46) (body := B46) (nt := 22) Tryz.func46 (by kernel_rfl) (by kernel_rfl) ?_
  intro F
  refine go_exec (rs := [.tmp 4]) (by kernel_rfl) 4000 [.e 0, .z [0, 0, 1] 1 [1, 2, 5]] (o := .new fun b_1 => .obl (b_1 = b_1) (.stop [.o [0, 0, 1] 1, .c [1, 0, 1], .c [1, 1]] [(1, vI cl), (2, vP b_1), (5, cfgV c)] [Efdc04 b_1 c])) (by kernel_rfl) ?_
  refine ok_new fun b_1 => ?_
  refine ok_obl rfl ?_
  refine ok_stop ?_
  refine go_call (some 6) [] Tryz.call50 (plan_Check c (by first | assumption | omega | (simp only [InK] at *; omega))) (by kernel_rfl) ?_
  rintro v post ⟨rfl, rfl⟩
  refine go_exec (rs := [.tmp 4]) (by kernel_rfl) 4000 [.sp [12, 10, 11] [.dead] [.e 0, .sp [17, 16] [.dead] [.e 0]]] (o := .obl ((decide (cl < 0)) = (decide (cl < 0))) (.obl ((decide (cl < 0)) = (decide (cl < 0))) (.br (decide (cl < 0)) (.bad) (.obl (b_1 = b_1) (.obl ((decide (cl ≥ c.clients)) = (decide (cl ≥ c.clients))) (.br (decide (cl ≥ c.clients)) (.bad) (.obl (b_1 = b_1) (.new fun b_2 => .ret (vP b_2) [Efdc04 b_1 c, E33322 b_2 c cl 0 (-1)])))))))) (by kernel_rfl) ?_
  refine ok_obl rfl ?_
  refine ok_obl rfl ?_
  refine ok_br (fun h => absurd (show (decide (cl < 0)) = false from (by first | (simp; done) | (simp; omega))) (by rw [h]; simp)) (fun _ => ?_)
  refine ok_obl rfl ?_
  refine ok_obl rfl ?_
  refine ok_br (fun h => absurd (show (decide (cl ≥ c.clients)) = false from (by first | (simp; done) | (simp; omega))) (by rw [h]; simp)) (fun _ => ?_)
  refine ok_obl rfl ?_
  refine ok_new fun b_2 => ?_
  exact ret_ok (post := [E33322 b_2 c cl 0 (-1)]) [1] (by kernel_rfl) ⟨b_2, rfl, (by kernel_rfl)⟩


noncomputable def B126 : Code := (Tryz.f126.body).getD .skip

theorem new_Release (c : Cfg) (sl : Int) (hc : c.Ok) (hsl : 0 ≤ sl ∧ sl < c.slots) :
    Ctr Tryz.prog 126 #[cfgV c, vI sl] [] (fun v L => ∃ (r : Nat), v = vP r ∧ L = [.pts r [vI (slotAt c sl), .bool false] 214]) := by
  refine ctr_of (args := [cfgV c, vI sl]) (fn := Tryz.f126) (body := B126) (nt := 14) Tryz.func126 (by kernel_rfl) (by kernel_rfl) ?_
  intro F
  refine go_exec (rs := [.tmp 4]) (by kernel_rfl) 4000 [.e 0, .z [0, 1] 2 [6, 7]] (o := .new fun b_1 => .obl (b_1 = b_1) (.stop [.o [0, 1] 2, .c [1, 1]] [(6, cfgV c), (7, vI sl)] [Efdc04 b_1 c])) (by kernel_rfl) ?_
  refine ok_new fun b_1 => ?_
  refine ok_obl rfl ?_
  refine ok_stop ?_
  refine go_call (some 8) [] Tryz.call24 (plan_Slot c sl (by first | assumption | omega | (simp only [InK] at *; omega))) (by kernel_rfl) ?_
  rintro v post ⟨rfl, rfl⟩
  refine go_exec (rs := [.tmp 4]) (by kernel_rfl) 4000 [.sp [10] [.dead] []] (o := .br ((slotAt c sl) == (-1)) (.bad) (.new fun b_2 => .ret (vP b_2) [Efdc04 b_1 c, .pts b_2 [vI (slotAt c sl), .bool false] 214])) (by kernel_rfl) ?_
  refine ok_br (fun h => absurd (show ((slotAt c sl) == (-1)) = false from (beq_eq_false_iff_ne.2 (by have := slotAt_ok hc hsl; omega))) (by rw [h]; simp)) (fun _ => ?_)
  refine ok_new fun b_2 => ?_
  exact ret_ok (post := [.pts b_2 [vI (slotAt c sl), .bool false] 214]) [1] (by kernel_rfl) ⟨b_2, rfl, (by kernel_rfl)⟩

noncomputable def B139 : Code := (Tryz.f139.body).getD .skip

theorem release_DoneF (r : Nat) (a : Int)  :
    Ctr Tryz.prog 139 #[vP r] [.pts r [vI a, .bool false] 214] (Ret (.bool false) [.pts r [vI a, .bool false] 214]) := by
  refine ctr_of (args := [vP r]) (fn := Tryz.f139) (body := B139) (nt := 11) Tryz.func139 (by kernel_rfl) (by kernel_rfl) ?_
  intro F
  refine go_exec (rs := [.tmp 2]) (by kernel_rfl) 4000 [.e 0] (o := .obl (r = r) (.ret (.bool false) [.pts r [vI a, .bool false] 214])) (by kernel_rfl) ?_
  refine ok_obl rfl ?_
  exact ret_ok (post := [.pts r [vI a, .bool false] 214]) [0] (by kernel_rfl) ⟨rfl, (by kernel_rfl)⟩

noncomputable def B136 : Code := (Tryz.f136.body).getD .skip

theorem release_Step (r ba : Nat) (a : Int) (A : Ar) (hn : A.ws.length = A.n) (hi : 0 ≤ a ∧ a < A.n) (hs : 0 ≤ A.steps ∧ A.steps ≤ 1000000000) :
    Ctr Tryz.prog 136 #[vP r, vP ba] [.pts r [vI a, .bool false] 214, Ebed9f ba A, E632c4 A] (Ret (.bool true) [.pts r [vI a, .bool true] 214, Ebed9f ba (A.store a 0), E632c4 (A.store a 0)]) := by
  refine ctr_of (args := [vP r, vP ba]) (fn := Tryz.f136) (body := B136) (nt := 17) Tryz.func136 (by kernel_rfl) (by kernel_rfl) ?_
  intro F
  refine go_exec (rs := [.tmp 4]) (by kernel_rfl) 4000 [.z [0, 0, 1] 1 [0, 1, 5]] (o := .stop [.o [0, 0, 1] 1, .c [1, 0, 1], .c [1, 1]] [(0, vP r), (1, vP ba), (5, vP r)] [.pts r [vI a, .bool false] 214, Ebed9f ba A, E632c4 A]) (by kernel_rfl) ?_
  refine ok_stop ?_
  refine go_call (some 6) [0] Tryz.call139 (release_DoneF r a) (by kernel_rfl) ?_
  rintro v post ⟨rfl, rfl⟩
  refine go_exec (rs := [.tmp 4]) (by kernel_rfl) 4000 [.e 2, .z [0, 0, 1, 0, 1] 5 [0, 8, 12]] (o := .obl (r = r) (.stop [.o [0, 0, 1, 0, 1] 5, .c [1, 0, 1, 0, 1], .c [1, 1]] [(0, vP r), (8, vP ba), (12, vI a)] [Ebed9f ba A, E632c4 A, .pts r [vI a, .bool false] 214])) (by kernel_rfl) ?_
  refine ok_obl rfl ?_
  refine ok_stop ?_
  refine go_call (some 13) [0, 1] Tryz.call20 (arena_Store ba A a 0 (by first | assumption | omega | (simp only [InK] at *; omega)) hi (by first | assumption | omega | (simp only [InK] at *; omega))) (by kernel_rfl) ?_
  rintro v post ⟨rfl, rfl⟩
  refine go_exec (rs := [.tmp 4]) (by kernel_rfl) 4000 [.e 0] (o := .obl (r = r) (.ret (.bool true) [.pts r [vI a, .bool true] 214, Ebed9f ba (A.store a 0), E632c4 (A.store a 0)])) (by kernel_rfl) ?_
  refine ok_obl rfl ?_
  exact ret_ok (post := [.pts r [vI a, .bool true] 214, Ebed9f ba (A.store a 0), E632c4 (A.store a 0)]) [0, 1, 2] (by kernel_rfl) ⟨rfl, (by kernel_rfl)⟩

end Go.Proofs.YtiiepkjckmdmkaaGreatDoor


namespace Go.Proofs.YtiiepkjckmdmkaaGreatDoor
open Go.Sx
abbrev E73714 (x0 : Nat) (c1 : Cfg) (c2 : Cl) : Ent := .pts x0 [.int .i64 c1.topics, .int .i64 c1.small, .int .i64 c1.slots, .int .i64 c1.clients, .int .i64 c1.s0, .int .i64 c1.n0, .int .i64 c1.s1, .int .i64 c1.n1, .int .i64 c1.retry, .int .i64 c2.client, .int .i64 c2.at_, .int .i64 c2.slot] 173
abbrev Ed9a92 (x0 : Nat) (c1 : Cfg) (x2 : Int) (x3 : Int) (x4 : Int) : Ent := .pts x0 [.int .i64 c1.topics, .int .i64 c1.small, .int .i64 c1.slots, .int .i64 c1.clients, .int .i64 c1.s0, .int .i64 c1.n0, .int .i64 c1.s1, .int .i64 c1.n1, .int .i64 c1.retry, .int .i64 x2, .int .i64 x3, .int .i64 x4] 173
abbrev Eae1eb (x0 : Nat) (c1 : Cfg) (x2 : Int) (x3 : Bool) : Ent := .pts x0 [.int .i64 c1.topics, .int .i64 c1.small, .int .i64 c1.slots, .int .i64 c1.clients, .int .i64 c1.s0, .int .i64 c1.n0, .int .i64 c1.s1, .int .i64 c1.n1, .int .i64 c1.retry, .int .i64 x2, .bool x3] 177
noncomputable def B73 : Code := (Tryz.f73.body).getD .skip

theorem rclaim_Slot (c : Cfg) (k : Nat) (K : Cl) (hd : K.at_ = -1) :
    Ctr Tryz.prog 73 #[vP k] [E73714 k c K] (Ret (vI K.slot) [E73714 k c K]) := by
  refine ctr_of (args := [vP k]) (fn := Tryz.f73) (body := B73) (nt := 12) Tryz.func73 (by kernel_rfl) (by kernel_rfl) ?_
  intro F
  refine go_exec (rs := [.tmp 2]) (by kernel_rfl) 4000 [.e 0, .sp [7] [.dead] [.e 0]] (o := .obl (k = k) (.br (decide (K.at_ ≥ 0)) (.bad) (.obl (k = k) (.ret (vI K.slot) [E73714 k c K])))) (by kernel_rfl) ?_
  refine ok_obl rfl ?_
  refine ok_br (fun h => absurd (show (decide (K.at_ ≥ 0)) = false from (by simp [hd])) (by rw [h]; simp)) (fun _ => ?_)
  refine ok_obl rfl ?_
  exact ret_ok (post := [E73714 k c K]) [0] (by kernel_rfl) ⟨rfl, (by kernel_rfl)⟩

noncomputable def B72 : Code := (Tryz.f72.body).getD .skip

theorem rkStepD (c : Cfg) (k ba : Nat) (cl at_ sl : Int) (A : Ar) (hc : c.Ok) (hn : A.ws.length = A.n) (hs : 0 ≤ A.steps ∧ A.steps ≤ 1000000000) (hcl : 0 ≤ cl ∧ cl ≤ 1000) (ha : at_ = -1) :
    Ctr Tryz.prog 72 #[vP k, vP ba] [Ed9a92 k c cl at_ sl, E0654b ba A false 0, E632c4 A] (Ret (.bool true) [Ed9a92 k c cl at_ sl, E0654b ba A false 0, E632c4 A]) := by
  refine ctr_of (args := [vP k, vP ba]) (fn := Tryz.f72) (body := B72) (nt := 62) Tryz.func72 (by kernel_rfl) (by kernel_rfl) ?_
  intro F
  refine go_exec (rs := [.tmp 4]) (by kernel_rfl) 4000 [.e 0, .sp [11] [] [.dead]] (o := .obl (k = k) (.br (decide (at_ < 0)) (.ret (.bool true) [Ed9a92 k c cl at_ sl, E0654b ba A false 0, E632c4 A]) (.bad))) (by kernel_rfl) ?_
  refine ok_obl rfl ?_
  refine ok_br (fun _ => ?_) (fun h => absurd (show (decide (at_ < 0)) = true from (by simp [ha])) (by rw [h]; simp))
  exact ret_ok (post := [Ed9a92 k c cl at_ sl, E0654b ba A false 0, E632c4 A]) [0, 1, 2] (by kernel_rfl) ⟨rfl, (by kernel_rfl)⟩


theorem rkStepTL (c : Cfg) (k ba : Nat) (cl at_ sl : Int) (A : Ar) (hc : c.Ok) (hn : A.ws.length = A.n) (hs : 0 ≤ A.steps ∧ A.steps ≤ 1000000000) (hcl : 0 ≤ cl ∧ cl ≤ 1000) (ha : 0 ≤ at_ ∧ at_ < c.slots) (hi : 0 ≤ slotAt c at_ ∧ slotAt c at_ < A.n) (hw : (A.ws.getD (slotAt c at_).toNat 0) = 0) (hl : at_ + 1 = c.slots) :
    Ctr Tryz.prog 72 #[vP k, vP ba] [Ed9a92 k c cl at_ sl, E0654b ba A false 0, E632c4 A] (Ret (.bool true) [Ed9a92 k c cl (-1) at_, E0654b ba (A.swapT (slotAt c at_) (markW cl 0)) false 0, E632c4 (A.swapT (slotAt c at_) (markW cl 0))]) := by
  refine ctr_of (args := [vP k, vP ba]) (fn := Tryz.f72) (body := B72) (nt := 62) Tryz.func72 (by kernel_rfl) (by kernel_rfl) ?_
  intro F
  refine go_exec (rs := [.tmp 4]) (by kernel_rfl) 4000 [.e 0, .sp [11] [.dead] [.e 0, .e 0, .n, .e 0, .z [0, 0, 1, 1, 1, 1] 0 [0, 1, 5]]] (o := .obl (k = k) (.br (decide (at_ < 0)) (.bad) (.obl (k = k) (.obl (k = k) (.obl (InK .i64 (at_ + 1)) (.obl (k = k) (.stop [.c [0, 0, 1, 1, 1, 1], .c [1, 0, 1, 1, 1, 1], .c [1, 1, 1, 1, 1]] [(0, vP k), (1, vP ba), (5, vI at_)] [Ed9a92 k c cl (at_ + 1) sl, E0654b ba A false 0, E632c4 A]))))))) (by kernel_rfl) ?_
  refine ok_obl rfl ?_
  refine ok_br (fun h => absurd (show (decide (at_ < 0)) = false from (by simp; omega)) (by rw [h]; simp)) (fun _ => ?_)
  refine ok_obl rfl ?_
  refine ok_obl rfl ?_
  refine ok_obl (by simp only [Cfg.Ok, InK] at *; omega) ?_
  refine ok_obl rfl ?_
  refine ok_stop ?_
  refine go_quiet (tm' := [(0, vP k), (1, vP ba), (5, vI at_), (32, .bool true)]) (ps := [k = k, k = k, ((at_ + 1) == c.slots) = true]) (cs := []) [(0, .h .w), (1, .h .w), (2, .h .w), (3, .h (.e 0)), (4, .h .w), (5, .h .w), (6, .h .w), (7, .h .w), (8, .h (.e 0)), (9, .h (.t true))] [0, 1, 5, 32] (by kernel_rfl) (by kernel_rfl) ⟨rfl, rfl, (beq_iff_eq.2 hl), trivial⟩ trivial ?_
  refine go_exec (rs := [.tmp 4]) (by kernel_rfl) 4000 [.e 0, .z [0, 1, 1, 1, 1, 1] 0 [0, 1, 5]] (o := .obl (k = k) (.stop [.c [0, 1, 1, 1, 1, 1], .c [1, 1, 1, 1, 1, 1]] [(0, vP k), (1, vP ba), (5, vI at_)] [Ed9a92 k c cl (-1) sl, E0654b ba A false 0, E632c4 A])) (by kernel_rfl) ?_
  refine ok_obl rfl ?_
  refine ok_stop ?_
  refine go_tail_call (dst := (some 48)) (ps := [k = k, k = k]) (cs := [(30, #[cfgV c, vI at_], vI (slotAt c at_)), (25, #[vI cl, vI 0], vU (markW cl 0))]) [(0, .h .w), (1, .h .w), (2, .h .w), (3, .h .w), (4, .h (.e 0)), (5, .h .w), (6, .q (vI (slotAt c at_))), (7, .h .w), (8, .h .w), (9, .h .w), (10, .h (.e 0)), (11, .q (vU (markW cl 0)))] 12 [(13, .h .w)] [1, 2] [0, 5, 6] (by kernel_rfl) Tryz.call106 (ref_SwapT ba A (slotAt c at_) 0 (markW cl 0) (by first | assumption | omega | (simp only [InK] at *; omega)) hi (by first | assumption | omega | (simp only [InK] at *; omega)) hw) (by kernel_rfl) ⟨rfl, rfl, trivial⟩ ⟨⟨Tryz.call30, quiet_of [] (ref_Slot c at_ hc (by simp only [Cfg.Ok, InK] at *; omega)) (by kernel_rfl) (by rintro v post ⟨rfl, rfl⟩; exact ⟨rfl, rfl⟩)⟩, ⟨Tryz.call25, quiet_of [] (ref_Mark cl 0 (by omega) (by decide)) (by kernel_rfl) (by rintro v post ⟨rfl, rfl⟩; exact ⟨rfl, rfl⟩)⟩, trivial⟩ ?_
  rintro v post ⟨rfl, rfl⟩
  refine tail_next (tm' := [(0, vP k), (5, vI at_), (6, .bool true)]) (ps2 := []) (by kernel_rfl) trivial ?_
  refine go_exec (rs := [.tmp 4]) (by kernel_rfl) 4000 [.e 0, .e 0, .e 0] (o := .obl (k = k) (.obl (k = k) (.obl (k = k) (.ret (.bool true) [Ed9a92 k c cl (-1) at_, E0654b ba (A.swapT (slotAt c at_) (markW cl 0)) false 0, E632c4 (A.swapT (slotAt c at_) (markW cl 0))])))) (by kernel_rfl) ?_
  refine ok_obl rfl ?_
  refine ok_obl rfl ?_
  refine ok_obl rfl ?_
  exact ret_ok (post := [Ed9a92 k c cl (-1) at_, E0654b ba (A.swapT (slotAt c at_) (markW cl 0)) false 0, E632c4 (A.swapT (slotAt c at_) (markW cl 0))]) [0, 1, 2] (by kernel_rfl) ⟨rfl, (by kernel_rfl)⟩


theorem rkStepTN (c : Cfg) (k ba : Nat) (cl at_ sl : Int) (A : Ar) (hc : c.Ok) (hn : A.ws.length = A.n) (hs : 0 ≤ A.steps ∧ A.steps ≤ 1000000000) (hcl : 0 ≤ cl ∧ cl ≤ 1000) (ha : 0 ≤ at_ ∧ at_ < c.slots) (hi : 0 ≤ slotAt c at_ ∧ slotAt c at_ < A.n) (hw : (A.ws.getD (slotAt c at_).toNat 0) = 0) (hl : at_ + 1 ≠ c.slots) :
    Ctr Tryz.prog 72 #[vP k, vP ba] [Ed9a92 k c cl at_ sl, E0654b ba A false 0, E632c4 A] (Ret (.bool true) [Ed9a92 k c cl (-1) at_, E0654b ba (A.swapT (slotAt c at_) (markW cl 0)) false 0, E632c4 (A.swapT (slotAt c at_) (markW cl 0))]) := by
  refine ctr_of (args := [vP k, vP ba]) (fn := Tryz.f72) (body := B72) (nt := 62) Tryz.func72 (by kernel_rfl) (by kernel_rfl) ?_
  intro F
  refine go_exec (rs := [.tmp 4]) (by kernel_rfl) 4000 [.e 0, .sp [11] [.dead] [.e 0, .e 0, .n, .e 0, .z [0, 0, 1, 1, 1, 1] 0 [0, 1, 5]]] (o := .obl (k = k) (.br (decide (at_ < 0)) (.bad) (.obl (k = k) (.obl (k = k) (.obl (InK .i64 (at_ + 1)) (.obl (k = k) (.stop [.c [0, 0, 1, 1, 1, 1], .c [1, 0, 1, 1, 1, 1], .c [1, 1, 1, 1, 1]] [(0, vP k), (1, vP ba), (5, vI at_)] [Ed9a92 k c cl (at_ + 1) sl, E0654b ba A false 0, E632c4 A]))))))) (by kernel_rfl) ?_
  refine ok_obl rfl ?_
  refine ok_br (fun h => absurd (show (decide (at_ < 0)) = false from (by simp; omega)) (by rw [h]; simp)) (fun _ => ?_)
  refine ok_obl rfl ?_
  refine ok_obl rfl ?_
  refine ok_obl (by simp only [Cfg.Ok, InK] at *; omega) ?_
  refine ok_obl rfl ?_
  refine ok_stop ?_
  refine go_quiet (tm' := [(0, vP k), (1, vP ba), (5, vI at_), (32, .bool false)]) (ps := [k = k, k = k, ((at_ + 1) == c.slots) = false]) (cs := []) [(0, .h .w), (1, .h .w), (2, .h .w), (3, .h (.e 0)), (4, .h .w), (5, .h .w), (6, .h .w), (7, .h .w), (8, .h (.e 0)), (9, .h (.t false))] [0, 1, 5, 32] (by kernel_rfl) (by kernel_rfl) ⟨rfl, rfl, (beq_eq_false_iff_ne.2 hl), trivial⟩ trivial ?_
  refine go_exec (rs := [.tmp 4]) (by kernel_rfl) 4000 [.z [0, 1, 1, 1, 1, 1] 0 [0, 1, 5]] (o := .stop [.c [0, 1, 1, 1, 1, 1], .c [1, 1, 1, 1, 1, 1]] [(0, vP k), (1, vP ba), (5, vI at_)] [Ed9a92 k c cl (at_ + 1) sl, E0654b ba A false 0, E632c4 A]) (by kernel_rfl) ?_
  refine ok_stop ?_
  refine go_tail_call (dst := (some 48)) (ps := [k = k, k = k]) (cs := [(30, #[cfgV c, vI at_], vI (slotAt c at_)), (25, #[vI cl, vI 0], vU (markW cl 0))]) [(0, .h .w), (1, .h .w), (2, .h .w), (3, .h .w), (4, .h (.e 0)), (5, .h .w), (6, .q (vI (slotAt c at_))), (7, .h .w), (8, .h .w), (9, .h .w), (10, .h (.e 0)), (11, .q (vU (markW cl 0)))] 12 [(13, .h .w)] [1, 2] [0, 5, 6] (by kernel_rfl) Tryz.call106 (ref_SwapT ba A (slotAt c at_) 0 (markW cl 0) (by first | assumption | omega | (simp only [InK] at *; omega)) hi (by first | assumption | omega | (simp only [InK] at *; omega)) hw) (by kernel_rfl) ⟨rfl, rfl, trivial⟩ ⟨⟨Tryz.call30, quiet_of [] (ref_Slot c at_ hc (by simp only [Cfg.Ok, InK] at *; omega)) (by kernel_rfl) (by rintro v post ⟨rfl, rfl⟩; exact ⟨rfl, rfl⟩)⟩, ⟨Tryz.call25, quiet_of [] (ref_Mark cl 0 (by omega) (by decide)) (by kernel_rfl) (by rintro v post ⟨rfl, rfl⟩; exact ⟨rfl, rfl⟩)⟩, trivial⟩ ?_
  rintro v post ⟨rfl, rfl⟩
  refine tail_next (tm' := [(0, vP k), (5, vI at_), (6, .bool true)]) (ps2 := []) (by kernel_rfl) trivial ?_
  refine go_exec (rs := [.tmp 4]) (by kernel_rfl) 4000 [.e 0, .e 0, .e 0] (o := .obl (k = k) (.obl (k = k) (.obl (k = k) (.ret (.bool true) [Ed9a92 k c cl (-1) at_, E0654b ba (A.swapT (slotAt c at_) (markW cl 0)) false 0, E632c4 (A.swapT (slotAt c at_) (markW cl 0))])))) (by kernel_rfl) ?_
  refine ok_obl rfl ?_
  refine ok_obl rfl ?_
  refine ok_obl rfl ?_
  exact ret_ok (post := [Ed9a92 k c cl (-1) at_, E0654b ba (A.swapT (slotAt c at_) (markW cl 0)) false 0, E632c4 (A.swapT (slotAt c at_) (markW cl 0))]) [0, 1, 2] (by kernel_rfl) ⟨rfl, (by kernel_rfl)⟩


theorem rkStepFL (c : Cfg) (k ba : Nat) (cl at_ sl : Int) (A : Ar) (hc : c.Ok) (hn : A.ws.length = A.n) (hs : 0 ≤ A.steps ∧ A.steps ≤ 1000000000) (hcl : 0 ≤ cl ∧ cl ≤ 1000) (ha : 0 ≤ at_ ∧ at_ < c.slots) (hi : 0 ≤ slotAt c at_ ∧ slotAt c at_ < A.n) (hw : (A.ws.getD (slotAt c at_).toNat 0) ≠ 0) (hl : at_ + 1 = c.slots) :
    Ctr Tryz.prog 72 #[vP k, vP ba] [Ed9a92 k c cl at_ sl, E0654b ba A false 0, E632c4 A] (Ret (.bool true) [Ed9a92 k c cl (-1) sl, E0654b ba (A.swapF (slotAt c at_)) false 0, E632c4 (A.swapF (slotAt c at_))]) := by
  refine ctr_of (args := [vP k, vP ba]) (fn := Tryz.f72) (body := B72) (nt := 62) Tryz.func72 (by kernel_rfl) (by kernel_rfl) ?_
  intro F
  refine go_exec (rs := [.tmp 4]) (by kernel_rfl) 4000 [.e 0, .sp [11] [.dead] [.e 0, .e 0, .n, .e 0, .z [0, 0, 1, 1, 1, 1] 0 [0, 1, 5]]] (o := .obl (k = k) (.br (decide (at_ < 0)) (.bad) (.obl (k = k) (.obl (k = k) (.obl (InK .i64 (at_ + 1)) (.obl (k = k) (.stop [.c [0, 0, 1, 1, 1, 1], .c [1, 0, 1, 1, 1, 1], .c [1, 1, 1, 1, 1]] [(0, vP k), (1, vP ba), (5, vI at_)] [Ed9a92 k c cl (at_ + 1) sl, E0654b ba A false 0, E632c4 A]))))))) (by kernel_rfl) ?_
  refine ok_obl rfl ?_
  refine ok_br (fun h => absurd (show (decide (at_ < 0)) = false from (by simp; omega)) (by rw [h]; simp)) (fun _ => ?_)
  refine ok_obl rfl ?_
  refine ok_obl rfl ?_
  refine ok_obl (by simp only [Cfg.Ok, InK] at *; omega) ?_
  refine ok_obl rfl ?_
  refine ok_stop ?_
  refine go_quiet (tm' := [(0, vP k), (1, vP ba), (5, vI at_), (32, .bool true)]) (ps := [k = k, k = k, ((at_ + 1) == c.slots) = true]) (cs := []) [(0, .h .w), (1, .h .w), (2, .h .w), (3, .h (.e 0)), (4, .h .w), (5, .h .w), (6, .h .w), (7, .h .w), (8, .h (.e 0)), (9, .h (.t true))] [0, 1, 5, 32] (by kernel_rfl) (by kernel_rfl) ⟨rfl, rfl, (beq_iff_eq.2 hl), trivial⟩ trivial ?_
  refine go_exec (rs := [.tmp 4]) (by kernel_rfl) 4000 [.e 0, .z [0, 1, 1, 1, 1, 1] 0 [0, 1, 5]] (o := .obl (k = k) (.stop [.c [0, 1, 1, 1, 1, 1], .c [1, 1, 1, 1, 1, 1]] [(0, vP k), (1, vP ba), (5, vI at_)] [Ed9a92 k c cl (-1) sl, E0654b ba A false 0, E632c4 A])) (by kernel_rfl) ?_
  refine ok_obl rfl ?_
  refine ok_stop ?_
  refine go_tail_call (dst := (some 48)) (ps := [k = k, k = k]) (cs := [(30, #[cfgV c, vI at_], vI (slotAt c at_)), (25, #[vI cl, vI 0], vU (markW cl 0))]) [(0, .h .w), (1, .h .w), (2, .h .w), (3, .h .w), (4, .h (.e 0)), (5, .h .w), (6, .q (vI (slotAt c at_))), (7, .h .w), (8, .h .w), (9, .h .w), (10, .h (.e 0)), (11, .q (vU (markW cl 0)))] 12 [(13, .h .w)] [1, 2] [0, 5, 6] (by kernel_rfl) Tryz.call106 (ref_SwapF ba A (slotAt c at_) 0 (markW cl 0) (by first | assumption | omega | (simp only [InK] at *; omega)) hi (by first | assumption | omega | (simp only [InK] at *; omega)) hw) (by kernel_rfl) ⟨rfl, rfl, trivial⟩ ⟨⟨Tryz.call30, quiet_of [] (ref_Slot c at_ hc (by simp only [Cfg.Ok, InK] at *; omega)) (by kernel_rfl) (by rintro v post ⟨rfl, rfl⟩; exact ⟨rfl, rfl⟩)⟩, ⟨Tryz.call25, quiet_of [] (ref_Mark cl 0 (by omega) (by decide)) (by kernel_rfl) (by rintro v post ⟨rfl, rfl⟩; exact ⟨rfl, rfl⟩)⟩, trivial⟩ ?_
  rintro v post ⟨rfl, rfl⟩
  refine tail_next (tm' := [(0, vP k), (5, vI at_), (6, .bool false)]) (ps2 := []) (by kernel_rfl) trivial ?_
  refine go_exec (rs := [.tmp 4]) (by kernel_rfl) 4000 [.e 0] (o := .obl (k = k) (.ret (.bool true) [Ed9a92 k c cl (-1) sl, E0654b ba (A.swapF (slotAt c at_)) false 0, E632c4 (A.swapF (slotAt c at_))])) (by kernel_rfl) ?_
  refine ok_obl rfl ?_
  exact ret_ok (post := [Ed9a92 k c cl (-1) sl, E0654b ba (A.swapF (slotAt c at_)) false 0, E632c4 (A.swapF (slotAt c at_))]) [0, 1, 2] (by kernel_rfl) ⟨rfl, (by kernel_rfl)⟩


theorem rkStepFN (c : Cfg) (k ba : Nat) (cl at_ sl : Int) (A : Ar) (hc : c.Ok) (hn : A.ws.length = A.n) (hs : 0 ≤ A.steps ∧ A.steps ≤ 1000000000) (hcl : 0 ≤ cl ∧ cl ≤ 1000) (ha : 0 ≤ at_ ∧ at_ < c.slots) (hi : 0 ≤ slotAt c at_ ∧ slotAt c at_ < A.n) (hw : (A.ws.getD (slotAt c at_).toNat 0) ≠ 0) (hl : at_ + 1 ≠ c.slots) :
    Ctr Tryz.prog 72 #[vP k, vP ba] [Ed9a92 k c cl at_ sl, E0654b ba A false 0, E632c4 A] (Ret (.bool false) [Ed9a92 k c cl (at_ + 1) sl, E0654b ba (A.swapF (slotAt c at_)) false 0, E632c4 (A.swapF (slotAt c at_))]) := by
  refine ctr_of (args := [vP k, vP ba]) (fn := Tryz.f72) (body := B72) (nt := 62) Tryz.func72 (by kernel_rfl) (by kernel_rfl) ?_
  intro F
  refine go_exec (rs := [.tmp 4]) (by kernel_rfl) 4000 [.e 0, .sp [11] [.dead] [.e 0, .e 0, .n, .e 0, .z [0, 0, 1, 1, 1, 1] 0 [0, 1, 5]]] (o := .obl (k = k) (.br (decide (at_ < 0)) (.bad) (.obl (k = k) (.obl (k = k) (.obl (InK .i64 (at_ + 1)) (.obl (k = k) (.stop [.c [0, 0, 1, 1, 1, 1], .c [1, 0, 1, 1, 1, 1], .c [1, 1, 1, 1, 1]] [(0, vP k), (1, vP ba), (5, vI at_)] [Ed9a92 k c cl (at_ + 1) sl, E0654b ba A false 0, E632c4 A]))))))) (by kernel_rfl) ?_
  refine ok_obl rfl ?_
  refine ok_br (fun h => absurd (show (decide (at_ < 0)) = false from (by simp; omega)) (by rw [h]; simp)) (fun _ => ?_)
  refine ok_obl rfl ?_
  refine ok_obl rfl ?_
  refine ok_obl (by simp only [Cfg.Ok, InK] at *; omega) ?_
  refine ok_obl rfl ?_
  refine ok_stop ?_
  refine go_quiet (tm' := [(0, vP k), (1, vP ba), (5, vI at_), (32, .bool false)]) (ps := [k = k, k = k, ((at_ + 1) == c.slots) = false]) (cs := []) [(0, .h .w), (1, .h .w), (2, .h .w), (3, .h (.e 0)), (4, .h .w), (5, .h .w), (6, .h .w), (7, .h .w), (8, .h (.e 0)), (9, .h (.t false))] [0, 1, 5, 32] (by kernel_rfl) (by kernel_rfl) ⟨rfl, rfl, (beq_eq_false_iff_ne.2 hl), trivial⟩ trivial ?_
  refine go_exec (rs := [.tmp 4]) (by kernel_rfl) 4000 [.z [0, 1, 1, 1, 1, 1] 0 [0, 1, 5]] (o := .stop [.c [0, 1, 1, 1, 1, 1], .c [1, 1, 1, 1, 1, 1]] [(0, vP k), (1, vP ba), (5, vI at_)] [Ed9a92 k c cl (at_ + 1) sl, E0654b ba A false 0, E632c4 A]) (by kernel_rfl) ?_
  refine ok_stop ?_
  refine go_tail_call (dst := (some 48)) (ps := [k = k, k = k]) (cs := [(30, #[cfgV c, vI at_], vI (slotAt c at_)), (25, #[vI cl, vI 0], vU (markW cl 0))]) [(0, .h .w), (1, .h .w), (2, .h .w), (3, .h .w), (4, .h (.e 0)), (5, .h .w), (6, .q (vI (slotAt c at_))), (7, .h .w), (8, .h .w), (9, .h .w), (10, .h (.e 0)), (11, .q (vU (markW cl 0)))] 12 [(13, .h .w)] [1, 2] [0, 5, 6] (by kernel_rfl) Tryz.call106 (ref_SwapF ba A (slotAt c at_) 0 (markW cl 0) (by first | assumption | omega | (simp only [InK] at *; omega)) hi (by first | assumption | omega | (simp only [InK] at *; omega)) hw) (by kernel_rfl) ⟨rfl, rfl, trivial⟩ ⟨⟨Tryz.call30, quiet_of [] (ref_Slot c at_ hc (by simp only [Cfg.Ok, InK] at *; omega)) (by kernel_rfl) (by rintro v post ⟨rfl, rfl⟩; exact ⟨rfl, rfl⟩)⟩, ⟨Tryz.call25, quiet_of [] (ref_Mark cl 0 (by omega) (by decide)) (by kernel_rfl) (by rintro v post ⟨rfl, rfl⟩; exact ⟨rfl, rfl⟩)⟩, trivial⟩ ?_
  rintro v post ⟨rfl, rfl⟩
  refine tail_next (tm' := [(0, vP k), (5, vI at_), (6, .bool false)]) (ps2 := []) (by kernel_rfl) trivial ?_
  refine go_exec (rs := [.tmp 4]) (by kernel_rfl) 4000 [.e 0] (o := .obl (k = k) (.ret (.bool (decide ((at_ + 1) < 0))) [Ed9a92 k c cl (at_ + 1) sl, E0654b ba (A.swapF (slotAt c at_)) false 0, E632c4 (A.swapF (slotAt c at_))])) (by kernel_rfl) ?_
  refine ok_obl rfl ?_
  exact ret_ok (post := [Ed9a92 k c cl (at_ + 1) sl, E0654b ba (A.swapF (slotAt c at_)) false 0, E632c4 (A.swapF (slotAt c at_))]) [0, 1, 2] (by kernel_rfl) ⟨(congrArg Value.bool (by first | rfl | (simp; done) | (simp; omega))), (by kernel_rfl)⟩


theorem rclaim_Step (c : Cfg) (k ba : Nat) (K : Cl) (A : Ar) (hc : c.Ok) (hn : A.ws.length = A.n) (hs : 0 ≤ A.steps ∧ A.steps ≤ 1000000000) (hz : (A.n : Int) = sizeOfC c) (hK : Cl.Ok c K) :
    Ctr Tryz.prog 72 #[vP k, vP ba] [E73714 k c K, E0654b ba A false 0, E632c4 A] (Ret (.bool ((K.step c A).1.at_ == -1)) [E73714 k c ((K.step c A).1), E0654b ba ((K.step c A).2) false 0, E632c4 ((K.step c A).2)]) := by
  obtain ⟨cl, at_, sl⟩ := K
  obtain ⟨h1, h2, h3, h4⟩ := hK
  simp only at h1 h2 h3 h4
  have hc' := hc
  simp only [Cfg.Ok] at hc'
  by_cases ha : at_ = -1
  · have e : Cl.step c ⟨cl, at_, sl⟩ A = (⟨cl, at_, sl⟩, A) := by show (if _ then _ else _) = _; rw [if_pos ha]
    rw [e, show (at_ == -1) = true from beq_iff_eq.2 ha]
    exact rkStepD c k ba cl at_ sl A hc hn hs (by omega) ha
  · have hat := h2.resolve_left ha
    have hso := slotAt_ok hc hat
    by_cases hw : A.ws.getD (slotAt c at_).toNat 0 = 0
    · have e : Cl.step c ⟨cl, at_, sl⟩ A = (⟨cl, -1, at_⟩, A.swapT (slotAt c at_) (markW cl 0)) := by show (if _ then _ else _) = _; rw [if_neg ha, if_pos hw]
      rw [e]
      by_cases hl : at_ + 1 = c.slots
      · exact rkStepTL c k ba cl at_ sl A hc hn hs (by omega) hat (by omega) hw hl
      · exact rkStepTN c k ba cl at_ sl A hc hn hs (by omega) hat (by omega) hw hl
    · by_cases hl : at_ + 1 = c.slots
      · have e : Cl.step c ⟨cl, at_, sl⟩ A = (⟨cl, -1, sl⟩, A.swapF (slotAt c at_)) := by show (if _ then _ else _) = _; rw [if_neg ha, if_neg hw, if_pos hl]
        rw [e]; exact rkStepFL c k ba cl at_ sl A hc hn hs (by omega) hat (by omega) hw hl
      · have e : Cl.step c ⟨cl, at_, sl⟩ A = (⟨cl, at_ + 1, sl⟩, A.swapF (slotAt c at_)) := by show (if _ then _ else _) = _; rw [if_neg ha, if_neg hw, if_neg hl]
        rw [e, show (at_ + 1 == -1) = false from beq_eq_false_iff_ne.2 (by omega)]
        exact rkStepFN c k ba cl at_ sl A hc hn hs (by omega) hat (by omega) hw hl

noncomputable def B70 : Code := (Tryz.f70.body).getD .skip

theorem rnew_Claim (c : Cfg) (cl : Int) (hc : c.Ok) (hcl : 0 ≤ cl ∧ cl < c.clients) :
    Ctr Tryz.prog 70 #[cfgV c, vI cl] [] (fun v L => ∃ (k : Nat), v = vP k ∧ L = [Ed9a92 k c cl 0 (-1)]) := by
  refine ctr_of (args := [cfgV c, vI cl]) (fn := Tryz.f70) (body := B70) (nt := 24) Tryz.func70 (by kernel_rfl) (by kernel_rfl) ?_
  intro F
  refine go_exec (rs := [.tmp 4]) (by kernel_rfl) 4000 [.e 0, .z [0, 1] 1 [1, 2, 6]] (o := .new fun b_1 => .obl (b_1 = b_1) (.stop [.o [0, 1] 1, .c [1, 1]] [(1, vI cl), (2, vP b_1), (6, cfgV c)] [Efdc04 b_1 c])) (by kernel_rfl) ?_
  refine ok_new fun b_1 => ?_
  refine ok_obl rfl ?_
  refine ok_stop ?_
  refine go_call (some 7) [] Tryz.call103 (ref_right c (by first | assumption | omega | (simp only [InK] at *; omega))) (by kernel_rfl) ?_
  rintro v post ⟨rfl, rfl⟩
  refine go_exec (rs := [.tmp 4]) (by kernel_rfl) 4000 [.sp [14, 12, 13] [.dead] [.e 0, .sp [19, 18] [.dead] [.e 0]]] (o := .obl ((decide (cl < 0)) = (decide (cl < 0))) (.obl ((decide (cl < 0)) = (decide (cl < 0))) (.br (decide (cl < 0)) (.bad) (.obl (b_1 = b_1) (.obl ((decide (cl ≥ c.clients)) = (decide (cl ≥ c.clients))) (.br (decide (cl ≥ c.clients)) (.bad) (.obl (b_1 = b_1) (.new fun b_2 => .ret (vP b_2) [Efdc04 b_1 c, Ed9a92 b_2 c cl 0 (-1)])))))))) (by kernel_rfl) ?_
  refine ok_obl rfl ?_
  refine ok_obl rfl ?_
  refine ok_br (fun h => absurd (show (decide (cl < 0)) = false from (by first | (simp; done) | (simp; omega))) (by rw [h]; simp)) (fun _ => ?_)
  refine ok_obl rfl ?_
  refine ok_obl rfl ?_
  refine ok_br (fun h => absurd (show (decide (cl ≥ c.clients)) = false from (by first | (simp; done) | (simp; omega))) (by rw [h]; simp)) (fun _ => ?_)
  refine ok_obl rfl ?_
  refine ok_new fun b_2 => ?_
  exact ret_ok (post := [Ed9a92 b_2 c cl 0 (-1)]) [1] (by kernel_rfl) ⟨b_2, rfl, (by kernel_rfl)⟩

noncomputable def B75 : Code := (Tryz.f75.body).getD .skip

theorem rnew_Release (c : Cfg) (sl : Int) (hc : c.Ok) (hsl : 0 ≤ sl ∧ sl < c.slots) :
    Ctr Tryz.prog 75 #[cfgV c, vI sl] [] (fun v L => ∃ (r : Nat), v = vP r ∧ L = [Eae1eb r c sl false]) := by
  refine ctr_of (args := [cfgV c, vI sl]) (fn := Tryz.f75) (body := B75) (nt := 24) Tryz.func75 (by kernel_rfl) (by kernel_rfl) ?_
  intro F
  refine go_exec (rs := [.tmp 4]) (by kernel_rfl) 4000 [.e 0, .z [0, 1] 1 [1, 2, 6]] (o := .new fun b_1 => .obl (b_1 = b_1) (.stop [.o [0, 1] 1, .c [1, 1]] [(1, vI sl), (2, vP b_1), (6, cfgV c)] [Efdc04 b_1 c])) (by kernel_rfl) ?_
  refine ok_new fun b_1 => ?_
  refine ok_obl rfl ?_
  refine ok_stop ?_
  refine go_call (some 7) [] Tryz.call103 (ref_right c (by first | assumption | omega | (simp only [InK] at *; omega))) (by kernel_rfl) ?_
  rintro v post ⟨rfl, rfl⟩
  refine go_exec (rs := [.tmp 4]) (by kernel_rfl) 4000 [.sp [14, 12, 13] [.dead] [.e 0, .sp [19, 18] [.dead] [.e 0]]] (o := .obl ((decide (sl < 0)) = (decide (sl < 0))) (.obl ((decide (sl < 0)) = (decide (sl < 0))) (.br (decide (sl < 0)) (.bad) (.obl (b_1 = b_1) (.obl ((decide (sl ≥ c.slots)) = (decide (sl ≥ c.slots))) (.br (decide (sl ≥ c.slots)) (.bad) (.obl (b_1 = b_1) (.new fun b_2 => .ret (vP b_2) [Efdc04 b_1 c, Eae1eb b_2 c sl false])))))))) (by kernel_rfl) ?_
  refine ok_obl rfl ?_
  refine ok_obl rfl ?_
  refine ok_br (fun h => absurd (show (decide (sl < 0)) = false from (by first | (simp; done) | (simp; omega))) (by rw [h]; simp)) (fun _ => ?_)
  refine ok_obl rfl ?_
  refine ok_obl rfl ?_
  refine ok_br (fun h => absurd (show (decide (sl ≥ c.slots)) = false from (by first | (simp; done) | (simp; omega))) (by rw [h]; simp)) (fun _ => ?_)
  refine ok_obl rfl ?_
  refine ok_new fun b_2 => ?_
  exact ret_ok (post := [Eae1eb b_2 c sl false]) [1] (by kernel_rfl) ⟨b_2, rfl, (by kernel_rfl)⟩

noncomputable def B77 : Code := (Tryz.f77.body).getD .skip

theorem rrelease_Step (c : Cfg) (r ba : Nat) (sl : Int) (A : Ar) (hc : c.Ok) (hn : A.ws.length = A.n) (hsl : 0 ≤ sl ∧ sl < c.slots) (hi : 0 ≤ slotAt c sl ∧ slotAt c sl < A.n) (hs : 0 ≤ A.steps ∧ A.steps ≤ 1000000000) :
    Ctr Tryz.prog 77 #[vP r, vP ba] [Eae1eb r c sl false, E0654b ba A false 0, E632c4 A] (Ret (.bool true) [Eae1eb r c sl true, E0654b ba (A.store (slotAt c sl) 0) false 0, E632c4 (A.store (slotAt c sl) 0)]) := by
  refine ctr_of (args := [vP r, vP ba]) (fn := Tryz.f77) (body := B77) (nt := 24) Tryz.func77 (by kernel_rfl) (by kernel_rfl) ?_
  intro F
  refine go_exec (rs := [.tmp 4]) (by kernel_rfl) 4000 [.e 0, .z [0, 1, 0, 1] 0 [0, 1]] (o := .obl (r = r) (.stop [.c [0, 1, 0, 1], .c [1, 1]] [(0, vP r), (1, vP ba)] [Eae1eb r c sl false, E0654b ba A false 0, E632c4 A])) (by kernel_rfl) ?_
  refine ok_obl rfl ?_
  refine ok_stop ?_
  refine go_tail_call (dst := (some 20)) (ps := [r = r, r = r]) (cs := [(30, #[cfgV c, vI sl], vI (slotAt c sl))]) [(0, .h .w), (1, .h .w), (2, .h .w), (3, .h .w), (4, .h (.e 0)), (5, .h .w), (6, .h .w), (7, .h .w), (8, .h (.e 0)), (9, .q (vI (slotAt c sl)))] 10 [] [1, 2] [0] (by kernel_rfl) Tryz.call71 (ref_Store ba A (slotAt c sl) 0 (by first | assumption | omega | (simp only [InK] at *; omega)) hi (by first | assumption | omega | (simp only [InK] at *; omega))) (by kernel_rfl) ⟨rfl, rfl, trivial⟩ ⟨⟨Tryz.call30, quiet_of [] (ref_Slot c sl (by first | assumption | omega | (simp only [InK] at *; omega)) (by simp only [Cfg.Ok, InK] at *; omega)) (by kernel_rfl) (by rintro v post ⟨rfl, rfl⟩; exact ⟨rfl, rfl⟩)⟩, trivial⟩ ?_
  rintro v post ⟨rfl, rfl⟩
  refine tail_next (tm' := [(0, vP r)]) (ps2 := []) (by kernel_rfl) trivial ?_
  refine go_exec (rs := [.tmp 4]) (by kernel_rfl) 4000 [.e 0] (o := .obl (r = r) (.ret (.bool true) [Eae1eb r c sl true, E0654b ba (A.store (slotAt c sl) 0) false 0, E632c4 (A.store (slotAt c sl) 0)])) (by kernel_rfl) ?_
  refine ok_obl rfl ?_
  exact ret_ok (post := [Eae1eb r c sl true, E0654b ba (A.store (slotAt c sl) 0) false 0, E632c4 (A.store (slotAt c sl) 0)]) [0, 1, 2] (by kernel_rfl) ⟨rfl, (by kernel_rfl)⟩

end Go.Proofs.YtiiepkjckmdmkaaGreatDoor


namespace Go.Proofs.YtiiepkjckmdmkaaGreatDoor
open Go.Sx
abbrev E64beb (x0 : Nat) (c1 : Cfg) (x2 : Int) (x3 : Int) (x4 : Int) (x5 : Value) (x6 : Value) (x7 : Value) (x8 : Value) (x9 : Int) (x10 : Int) (x11 : Value) : Ent := .pts x0 [.int .i64 c1.topics, .int .i64 c1.small, .int .i64 c1.slots, .int .i64 c1.clients, .int .i64 c1.s0, .int .i64 c1.n0, .int .i64 c1.s1, .int .i64 c1.n1, .int .i64 c1.retry, .int .i64 x2, .int .i64 x3, .int .i64 x4, x5, x6, x7, x8, .int .i64 x9, .int .i64 x10, x11] 95
abbrev Eea5c0 (x0 : Nat) (c1 : Cfg) (x2 : Int) (x3 : Int) (x4 : Int) (x5 : Value) (x6 : Value) (x7 : Value) (x8 : Value) (x9 : Int) (x10 : Int) : Ent := .pts x0 [.int .i64 c1.topics, .int .i64 c1.small, .int .i64 c1.slots, .int .i64 c1.clients, .int .i64 c1.s0, .int .i64 c1.n0, .int .i64 c1.s1, .int .i64 c1.n1, .int .i64 c1.retry, .int .i64 x2, .int .i64 x3, .int .i64 x4, x5, x6, x7, x8, .int .i64 x9, .int .i64 x10, .nilIface] 95
noncomputable abbrev E0d039 (x0 : Nat) (c1 : Cfg) (g2 : Gu) (x3 : Nat) (x4 : Nat) (x5 : Int) : Ent := .pts x0 [.int .i64 c1.topics, .int .i64 c1.small, .int .i64 c1.slots, .int .i64 c1.clients, .int .i64 c1.s0, .int .i64 c1.n0, .int .i64 c1.s1, .int .i64 c1.n1, .int .i64 c1.retry, .int .i64 g2.client, .int .i64 g2.epoch, .int .i64 g2.slot, .int .i64 g2.word, (nxG x3 x4), .int .u64 g2.seen, .int .i64 g2.block, .int .i64 g2.failed, .int .i64 g2.commit, (errV x5)] 153
abbrev q52_0 : List Nat := [0, 0, 1, 0, 1, 1, 1]
abbrev q52_1 : List Nat := [0, 0, 1, 1, 1, 0, 0, 1]
abbrev q52_2 : List Nat := [1, 0, 1, 1, 1, 0, 0, 1]

noncomputable def nxP : Nat → Value
  | 1 => .func (.func 47) #[] #[]
  | 2 => .func (.func 93) #[] #[]
  | 3 => .func (.func 127) #[] #[]
  | _ => .nilFunc
def gpO (b : Nat) : Option Gu → Value
  | none => .pointer none
  | some _ => .pointer (some ⟨b, 0, none⟩)
def rpO (b : Nat) : Option (Int × Bool) → Value
  | none => .pointer none
  | some _ => .pointer (some ⟨b, 0, none⟩)
noncomputable def B47 : Code := (Tryz.f47.body).getD .skip

theorem pClaimsW (c : Cfg) (p ba kb : Nat) (cl tp ep sl bk : Int) (gp rp er : Value) (K : Cl) (A : Ar) (hc : c.Ok) (hn : A.ws.length = A.n) (hs : 0 ≤ A.steps ∧ A.steps ≤ 1000000000) (hz : (A.n : Int) = sizeOfC c) (hK : Cl.Ok c K) (ha : (K.step c A).1.at_ ≠ -1) :
    Ctr Tryz.prog 47 #[vP p, vP ba] [E64beb p c cl tp ep (.func (.func 47) #[] #[]) (vP kb) gp rp sl bk er, E85b39 kb c K, Ebed9f ba A, E632c4 A] (Ret (undef) [E64beb p c cl tp ep (.func (.func 47) #[] #[]) (vP kb) gp rp sl bk er, E85b39 kb c ((K.step c A).1), Ebed9f ba ((K.step c A).2), E632c4 ((K.step c A).2)]) := by
  refine ctr_of (args := [vP p, vP ba]) (fn := Tryz.f47) (body := B47) (nt := 58) Tryz.func47 (by kernel_rfl) (by kernel_rfl) ?_
  intro F
  refine go_exec (rs := []) (by kernel_rfl) 4000 [.e 0, .z [0, 0] 5 [0, 7, 8]] (o := .obl (p = p) (.stop [.o [0, 0] 5, .c [1, 0], .c [1]] [(0, vP p), (7, vP kb), (8, vP ba)] [E64beb p c cl tp ep (.func (.func 47) #[] #[]) (vP kb) gp rp sl bk er, E85b39 kb c K, Ebed9f ba A, E632c4 A])) (by kernel_rfl) ?_
  refine ok_obl rfl ?_
  refine ok_stop ?_
  refine go_call (some 9) [1, 2, 3] Tryz.call91 (claim_Step c kb ba K A (by first | assumption | omega | (simp only [InK] at *; omega)) (by first | assumption | omega | (simp only [InK] at *; omega)) (by first | assumption | omega | (simp only [InK] at *; omega)) (by first | assumption | omega | (simp only [InK] at *; omega)) (by first | assumption | omega | (simp only [InK] at *; omega))) (by kernel_rfl) ?_
  rintro v post ⟨rfl, rfl⟩
  refine go_exec (rs := []) (by kernel_rfl) 4000 [.sp [10] [] [.dead]] (o := .br (!((K.step c A).1.at_ == -1)) (.ret (undef) [E64beb p c cl tp ep (.func (.func 47) #[] #[]) (vP kb) gp rp sl bk er, E85b39 kb c ((K.step c A).1), Ebed9f ba ((K.step c A).2), E632c4 ((K.step c A).2)]) (.bad)) (by kernel_rfl) ?_
  refine ok_br (fun _ => ?_) (fun h => absurd (show (!((K.step c A).1.at_ == -1)) = true from (by simp [ha])) (by rw [h]; simp))
  exact ret_ok (post := [E64beb p c cl tp ep (.func (.func 47) #[] #[]) (vP kb) gp rp sl bk er, E85b39 kb c ((K.step c A).1), Ebed9f ba ((K.step c A).2), E632c4 ((K.step c A).2)]) [0, 1, 2, 3] (by kernel_rfl) ⟨rfl, (by kernel_rfl)⟩


theorem pClaimsN (c : Cfg) (p ba kb : Nat) (cl tp ep sl bk : Int) (gp rp er : Value) (K : Cl) (A : Ar) (hc : c.Ok) (hn : A.ws.length = A.n) (hs : 0 ≤ A.steps ∧ A.steps ≤ 1000000000) (hz : (A.n : Int) = sizeOfC c) (hK : Cl.Ok c K) (ha : (K.step c A).1.at_ = -1) (hq : (K.step c A).1.slot = -1) :
    Ctr Tryz.prog 47 #[vP p, vP ba] [E64beb p c cl tp ep (.func (.func 47) #[] #[]) (vP kb) gp rp sl bk er, E85b39 kb c K, Ebed9f ba A, E632c4 A] (Ret (undef) [E64beb p c cl tp ep (.nilFunc) (vP kb) gp rp ((K.step c A).1.slot) bk (.iface 46 (vI 19)), E85b39 kb c ((K.step c A).1), Ebed9f ba ((K.step c A).2), E632c4 ((K.step c A).2)]) := by
  refine ctr_of (args := [vP p, vP ba]) (fn := Tryz.f47) (body := B47) (nt := 58) Tryz.func47 (by kernel_rfl) (by kernel_rfl) ?_
  intro F
  refine go_exec (rs := []) (by kernel_rfl) 4000 [.e 0, .z [0, 0] 5 [0, 7, 8]] (o := .obl (p = p) (.stop [.o [0, 0] 5, .c [1, 0], .c [1]] [(0, vP p), (7, vP kb), (8, vP ba)] [E64beb p c cl tp ep (.func (.func 47) #[] #[]) (vP kb) gp rp sl bk er, E85b39 kb c K, Ebed9f ba A, E632c4 A])) (by kernel_rfl) ?_
  refine ok_obl rfl ?_
  refine ok_stop ?_
  refine go_call (some 9) [1, 2, 3] Tryz.call91 (claim_Step c kb ba K A (by first | assumption | omega | (simp only [InK] at *; omega)) (by first | assumption | omega | (simp only [InK] at *; omega)) (by first | assumption | omega | (simp only [InK] at *; omega)) (by first | assumption | omega | (simp only [InK] at *; omega)) (by first | assumption | omega | (simp only [InK] at *; omega))) (by kernel_rfl) ?_
  rintro v post ⟨rfl, rfl⟩
  refine go_exec (rs := []) (by kernel_rfl) 4000 [.sp [10] [.dead] [.e 0, .z [0, 1] 5 [0, 11, 15]]] (o := .br (!((K.step c A).1.at_ == -1)) (.bad) (.obl (p = p) (.stop [.o [0, 1] 5, .c [1, 1]] [(0, vP p), (11, vP p), (15, vP kb)] [E64beb p c cl tp ep (.func (.func 47) #[] #[]) (vP kb) gp rp sl bk er, E85b39 kb c ((K.step c A).1), Ebed9f ba ((K.step c A).2), E632c4 ((K.step c A).2)]))) (by kernel_rfl) ?_
  refine ok_br (fun h => absurd (show (!((K.step c A).1.at_ == -1)) = false from (by simp [ha])) (by rw [h]; simp)) (fun _ => ?_)
  refine ok_obl rfl ?_
  refine ok_stop ?_
  refine go_call (some 16) [1] Tryz.call92 (claim_Slot c kb ((K.step c A).1) ha) (by kernel_rfl) ?_
  rintro v post ⟨rfl, rfl⟩
  refine go_exec (rs := []) (by kernel_rfl) 4000 [.e 0, .e 0, .e 0, .sp [26] [.z q52_0 2 [27, 28]] [.dead]] (o := .obl (p = p) (.obl (p = p) (.obl (p = p) (.br (((K.step c A).1.slot) == (-1)) (.stop [.o q52_0 2, .c [1, 0, 1, 0, 1, 1, 1], .c [1, 1, 1, 1]] [(27, vP p), (28, vP p)] [E64beb p c cl tp ep (.func (.func 93) #[] #[]) (vP kb) gp rp ((K.step c A).1.slot) bk er, Ebed9f ba ((K.step c A).2), E632c4 ((K.step c A).2), E85b39 kb c ((K.step c A).1)]) (.bad))))) (by kernel_rfl) ?_
  refine ok_obl rfl ?_
  refine ok_obl rfl ?_
  refine ok_obl rfl ?_
  refine ok_br (fun _ => ?_) (fun h => absurd (show (((K.step c A).1.slot) == (-1)) = true from (beq_iff_eq.2 hq)) (by rw [h]; simp))
  refine ok_stop ?_
  refine go_call (some 29) [] Tryz.call36 (cause_NewE 19 (by decide)) (by kernel_rfl) ?_
  rintro v post ⟨rfl, rfl⟩
  refine go_exec (rs := []) (by kernel_rfl) 4000 [.e 0, .e 0] (o := .obl (p = p) (.obl (p = p) (.ret (undef) [E64beb p c cl tp ep (.nilFunc) (vP kb) gp rp ((K.step c A).1.slot) bk (.iface 46 (vI 19)), Ebed9f ba ((K.step c A).2), E632c4 ((K.step c A).2), E85b39 kb c ((K.step c A).1)]))) (by kernel_rfl) ?_
  refine ok_obl rfl ?_
  refine ok_obl rfl ?_
  exact ret_ok (post := [E64beb p c cl tp ep (.nilFunc) (vP kb) gp rp ((K.step c A).1.slot) bk (.iface 46 (vI 19)), E85b39 kb c ((K.step c A).1), Ebed9f ba ((K.step c A).2), E632c4 ((K.step c A).2)]) [0, 3, 1, 2] (by kernel_rfl) ⟨rfl, (by kernel_rfl)⟩


theorem pClaimsY (c : Cfg) (p ba kb : Nat) (cl tp ep sl bk : Int) (gp rp er : Value) (K : Cl) (A : Ar) (hc : c.Ok) (hn : A.ws.length = A.n) (hs : 0 ≤ A.steps ∧ A.steps ≤ 1000000000) (hz : (A.n : Int) = sizeOfC c) (hK : Cl.Ok c K) (ha : (K.step c A).1.at_ = -1) (hq : (K.step c A).1.slot ≠ -1) (hsl : 0 ≤ (K.step c A).1.slot ∧ (K.step c A).1.slot < c.slots) (hcl : 0 ≤ cl ∧ cl < c.clients) (htp : 0 ≤ tp ∧ tp < c.topics) :
    Ctr Tryz.prog 47 #[vP p, vP ba] [E64beb p c cl tp ep (.func (.func 47) #[] #[]) (vP kb) gp rp sl bk er, E85b39 kb c K, Ebed9f ba A, E632c4 A] (fun v L => ∃ (gb : Nat), v = undef ∧ L = [E64beb p c cl tp ep (.func (.func 93) #[] #[]) (vP kb) (vP gb) rp ((K.step c A).1.slot) bk er, E85b39 kb c ((K.step c A).1), Ebed9f ba ((K.step c A).2), E632c4 ((K.step c A).2), E6f719 gb c (newGu c cl (K.step c A).1.slot tp ep) gb]) := by
  refine ctr_of (args := [vP p, vP ba]) (fn := Tryz.f47) (body := B47) (nt := 58) Tryz.func47 (by kernel_rfl) (by kernel_rfl) ?_
  intro F
  refine go_exec (rs := []) (by kernel_rfl) 4000 [.e 0, .z [0, 0] 5 [0, 7, 8]] (o := .obl (p = p) (.stop [.o [0, 0] 5, .c [1, 0], .c [1]] [(0, vP p), (7, vP kb), (8, vP ba)] [E64beb p c cl tp ep (.func (.func 47) #[] #[]) (vP kb) gp rp sl bk er, E85b39 kb c K, Ebed9f ba A, E632c4 A])) (by kernel_rfl) ?_
  refine ok_obl rfl ?_
  refine ok_stop ?_
  refine go_call (some 9) [1, 2, 3] Tryz.call91 (claim_Step c kb ba K A (by first | assumption | omega | (simp only [InK] at *; omega)) (by first | assumption | omega | (simp only [InK] at *; omega)) (by first | assumption | omega | (simp only [InK] at *; omega)) (by first | assumption | omega | (simp only [InK] at *; omega)) (by first | assumption | omega | (simp only [InK] at *; omega))) (by kernel_rfl) ?_
  rintro v post ⟨rfl, rfl⟩
  refine go_exec (rs := []) (by kernel_rfl) 4000 [.sp [10] [.dead] [.e 0, .z [0, 1] 5 [0, 11, 15]]] (o := .br (!((K.step c A).1.at_ == -1)) (.bad) (.obl (p = p) (.stop [.o [0, 1] 5, .c [1, 1]] [(0, vP p), (11, vP p), (15, vP kb)] [E64beb p c cl tp ep (.func (.func 47) #[] #[]) (vP kb) gp rp sl bk er, E85b39 kb c ((K.step c A).1), Ebed9f ba ((K.step c A).2), E632c4 ((K.step c A).2)]))) (by kernel_rfl) ?_
  refine ok_br (fun h => absurd (show (!((K.step c A).1.at_ == -1)) = false from (by simp [ha])) (by rw [h]; simp)) (fun _ => ?_)
  refine ok_obl rfl ?_
  refine ok_stop ?_
  refine go_call (some 16) [1] Tryz.call92 (claim_Slot c kb ((K.step c A).1) ha) (by kernel_rfl) ?_
  rintro v post ⟨rfl, rfl⟩
  refine go_exec (rs := []) (by kernel_rfl) 4000 [.e 0, .e 0, .e 0, .sp [26] [.dead] [.z [1, 1, 1, 1] 0 [0]]] (o := .obl (p = p) (.obl (p = p) (.obl (p = p) (.br (((K.step c A).1.slot) == (-1)) (.bad) (.stop [.c [1, 1, 1, 1]] [(0, vP p)] [E64beb p c cl tp ep (.func (.func 93) #[] #[]) (vP kb) gp rp ((K.step c A).1.slot) bk er, Ebed9f ba ((K.step c A).2), E632c4 ((K.step c A).2), E85b39 kb c ((K.step c A).1)]))))) (by kernel_rfl) ?_
  refine ok_obl rfl ?_
  refine ok_obl rfl ?_
  refine ok_obl rfl ?_
  refine ok_br (fun h => absurd (show (((K.step c A).1.slot) == (-1)) = false from (beq_eq_false_iff_ne.2 hq)) (by rw [h]; simp)) (fun _ => ?_)
  refine ok_stop ?_
  refine go_lz (by kernel_rfl) (by kernel_rfl) ?_
  refine lz_node (l' := (mk 25 [0, 1, 2, 3, 4, 5, 6, 7, 8, 9, 10, 11, 12, 13, 14, 15, 16, 17, 18, 19, 20])) (V' := [0, 1, 2, 3, 4, 5, 6, 7, 8, 9, 10, 11, 12, 13, 14, 15, 16, 17, 18, 19, 20]) (T1 := [(0, vP p), (34, vP p), (35, vP p), (36, vP p), (37, vP p), (38, cfgV c), (39, vP p), (40, vP p), (41, .pointer (some ⟨p, 9, none⟩)), (42, vI cl), (43, vP p), (44, vP p), (45, .pointer (some ⟨p, 16, none⟩)), (46, vI ((K.step c A).1.slot)), (47, vP p), (48, vP p), (49, .pointer (some ⟨p, 10, none⟩)), (50, vI tp), (51, vP p), (52, vP p), (53, .pointer (some ⟨p, 11, none⟩)), (54, vI ep)]) (ps := [p = p, p = p, p = p, p = p, p = p]) [0, 1, 2, 3, 4, 5, 6, 7, 8, 9, 10, 11, 12, 13, 14, 15, 16, 17, 18, 19, 20] [(0, .h .w), (1, .h .w), (2, .h .w), (3, .h .w), (4, .h (.e 0)), (5, .h .w), (6, .h .w), (7, .h .w), (8, .h (.e 0)), (9, .h .w), (10, .h .w), (11, .h .w), (12, .h (.e 0)), (13, .h .w), (14, .h .w), (15, .h .w), (16, .h (.e 0)), (17, .h .w), (18, .h .w), (19, .h .w), (20, .h (.e 0))] [0, 34, 35, 36, 37, 38, 39, 40, 41, 42, 43, 44, 45, 46, 47, 48, 49, 50, 51, 52, 53, 54] [21] (by kernel_rfl) ⟨rfl, rfl, rfl, rfl, rfl, trivial⟩ ⟨?_, trivial⟩
  refine lz_call (l' := (mk 25 [0, 1, 2, 3, 4, 5, 6, 7, 8, 9, 10, 11, 12, 13, 14, 15, 16, 17, 18, 19, 20, 21])) (V' := [0]) (some 55) [] Tryz.call94 (guard_New c cl ((K.step c A).1.slot) tp ep (by first | assumption | omega | (simp only [InK] at *; omega)) hcl hsl htp) (by kernel_rfl) ?_
  rintro v post ⟨g_21_1, rfl, rfl⟩
  refine lz_node (l' := (mk 25 [0, 1, 2, 3, 4, 5, 6, 7, 8, 9, 10, 11, 12, 13, 14, 15, 16, 17, 18, 19, 20, 21, 22, 23])) (V' := [0, 22, 23]) (T1 := [(55, vP g_21_1), (0, vP p), (34, vP p), (56, vP p), (57, .pointer (some ⟨p, 14, none⟩))]) (ps := []) [22, 23] [(0, .h .w), (22, .h .w), (23, .h .w)] [55, 0, 34, 56, 57] [24] (by kernel_rfl) trivial ⟨?_, trivial⟩
  refine lz_op (l' := (mk 25 [0, 1, 2, 3, 4, 5, 6, 7, 8, 9, 10, 11, 12, 13, 14, 15, 16, 17, 18, 19, 20, 21, 22, 23, 24])) (V' := []) (so := .obl (p = p) (.ok .skip [E64beb p c cl tp ep (.func (.func 93) #[] #[]) (vP kb) (vP g_21_1) rp ((K.step c A).1.slot) bk er, Ebed9f ba ((K.step c A).2), E632c4 ((K.step c A).2), E85b39 kb c ((K.step c A).1), E6f719 g_21_1 c (newGu c cl ((K.step c A).1.slot) tp ep) g_21_1])) (dst := none) (.e 0) (by kernel_rfl) ?_
  refine sat_obl rfl ?_
  refine sat_skip ?_
  refine lz_end (T1 := []) (ps := []) [] [] [] (by kernel_rfl) trivial ?_
  refine go_exec (rs := []) (by kernel_rfl) 4000 [] (o := .ret (undef) [E64beb p c cl tp ep (.func (.func 93) #[] #[]) (vP kb) (vP g_21_1) rp ((K.step c A).1.slot) bk er, Ebed9f ba ((K.step c A).2), E632c4 ((K.step c A).2), E85b39 kb c ((K.step c A).1), E6f719 g_21_1 c (newGu c cl ((K.step c A).1.slot) tp ep) g_21_1]) (by kernel_rfl) ?_
  exact ret_ok (post := [E64beb p c cl tp ep (.func (.func 93) #[] #[]) (vP kb) (vP g_21_1) rp ((K.step c A).1.slot) bk er, E85b39 kb c ((K.step c A).1), Ebed9f ba ((K.step c A).2), E632c4 ((K.step c A).2), E6f719 g_21_1 c (newGu c cl ((K.step c A).1.slot) tp ep) g_21_1]) [0, 3, 1, 2, 4] (by kernel_rfl) ⟨g_21_1, rfl, (by kernel_rfl)⟩


theorem guard_ToldK (c : Cfg) (g : Nat) (G : Gu) (hph : G.ph = 0) (hcd : G.code = 0) :
    Ctr Tryz.prog 125 #[vP g] [E6f719 g c G g] (Ret (.tuple #[vI G.block, .nilIface]) [E6f719 g c G g]) := by
  have h := guard_Told c g G (by omega)
  rw [(told_of hph).1] at h
  have h : Ctr Tryz.prog 125 #[.pointer (some ⟨g, 0, none⟩)] [E6f719 g c G g] (Ret (.tuple #[.int .i64 G.block, errV G.code]) [E6f719 g c G g]) := h
  rw [hcd] at h
  exact h


theorem guard_ToldE (c : Cfg) (g : Nat) (G : Gu) (hph : G.ph = 0) (hcd : G.code ≠ 0) :
    Ctr Tryz.prog 125 #[vP g] [E6f719 g c G g] (Ret (.tuple #[vI G.block, .iface 46 (vI G.code)]) [E6f719 g c G g]) := by
  have h := guard_Told c g G (by omega)
  rw [(told_of hph).1] at h
  have h : Ctr Tryz.prog 125 #[.pointer (some ⟨g, 0, none⟩)] [E6f719 g c G g] (Ret (.tuple #[.int .i64 G.block, errV G.code]) [E6f719 g c G g]) := h
  rw [errV_ne hcd] at h
  exact h

noncomputable def B93 : Code := (Tryz.f93.body).getD .skip

theorem pGuardsW (c : Cfg) (p ba kb gb : Nat) (cl tp ep sl bk : Int) (rp er : Value) (G : Gu) (A : Ar) (hc : c.Ok) (hn : A.ws.length = A.n) (hs : 0 ≤ A.steps ∧ A.steps ≤ 1000000000) (hR : RngW A.ws) (hG : Gu.Ok c A.n G) (hd : (G.step c.retry A).1.ph ≠ 0) :
    Ctr Tryz.prog 93 #[vP p, vP ba] [E64beb p c cl tp ep (.func (.func 93) #[] #[]) (vP kb) (vP gb) rp sl bk er, E6f719 gb c G gb, Ebed9f ba A, E632c4 A] (Ret (undef) [E64beb p c cl tp ep (.func (.func 93) #[] #[]) (vP kb) (vP gb) rp sl bk er, E6f719 gb c ((G.step c.retry A).1) gb, Ebed9f ba ((G.step c.retry A).2), E632c4 ((G.step c.retry A).2)]) := by
  refine ctr_of (args := [vP p, vP ba]) (fn := Tryz.f93) (body := B93) (nt := 48) Tryz.func93 (by kernel_rfl) (by kernel_rfl) ?_
  intro F
  refine go_exec (rs := []) (by kernel_rfl) 4000 [.e 0, .z [0, 0] 5 [0, 7, 8]] (o := .obl (p = p) (.stop [.o [0, 0] 5, .c [1, 0], .c [1]] [(0, vP p), (7, vP gb), (8, vP ba)] [E64beb p c cl tp ep (.func (.func 93) #[] #[]) (vP kb) (vP gb) rp sl bk er, E6f719 gb c G gb, Ebed9f ba A, E632c4 A])) (by kernel_rfl) ?_
  refine ok_obl rfl ?_
  refine ok_stop ?_
  refine go_call (some 9) [1, 2, 3] Tryz.call124 (guard_Step c gb ba G A (by first | assumption | omega | (simp only [InK] at *; omega)) (by first | assumption | omega | (simp only [InK] at *; omega)) (by first | assumption | omega | (simp only [InK] at *; omega)) hR hG) (by kernel_rfl) ?_
  rintro v post ⟨rfl, rfl⟩
  refine go_exec (rs := []) (by kernel_rfl) 4000 [.sp [10] [] [.dead]] (o := .br (!((G.step c.retry A).1.ph == 0)) (.ret (undef) [E64beb p c cl tp ep (.func (.func 93) #[] #[]) (vP kb) (vP gb) rp sl bk er, E6f719 gb c ((G.step c.retry A).1) gb, Ebed9f ba ((G.step c.retry A).2), E632c4 ((G.step c.retry A).2)]) (.bad)) (by kernel_rfl) ?_
  refine ok_br (fun _ => ?_) (fun h => absurd (show (!((G.step c.retry A).1.ph == 0)) = true from (by simp [hd])) (by rw [h]; simp))
  exact ret_ok (post := [E64beb p c cl tp ep (.func (.func 93) #[] #[]) (vP kb) (vP gb) rp sl bk er, E6f719 gb c ((G.step c.retry A).1) gb, Ebed9f ba ((G.step c.retry A).2), E632c4 ((G.step c.retry A).2)]) [0, 1, 2, 3] (by kernel_rfl) ⟨rfl, (by kernel_rfl)⟩


theorem pGuardsK (c : Cfg) (p ba kb gb : Nat) (cl tp ep sl bk : Int) (rp er : Value) (G : Gu) (A : Ar) (hc : c.Ok) (hn : A.ws.length = A.n) (hs : 0 ≤ A.steps ∧ A.steps ≤ 1000000000) (hR : RngW A.ws) (hG : Gu.Ok c A.n G) (hd : (G.step c.retry A).1.ph = 0) (he : (G.step c.retry A).1.code = 0) :
    Ctr Tryz.prog 93 #[vP p, vP ba] [E64beb p c cl tp ep (.func (.func 93) #[] #[]) (vP kb) (vP gb) rp sl bk er, E6f719 gb c G gb, Ebed9f ba A, E632c4 A] (Ret (undef) [Eea5c0 p c cl tp ep (.nilFunc) (vP kb) (vP gb) rp sl ((G.step c.retry A).1.block), E6f719 gb c ((G.step c.retry A).1) gb, Ebed9f ba ((G.step c.retry A).2), E632c4 ((G.step c.retry A).2)]) := by
  refine ctr_of (args := [vP p, vP ba]) (fn := Tryz.f93) (body := B93) (nt := 48) Tryz.func93 (by kernel_rfl) (by kernel_rfl) ?_
  intro F
  refine go_exec (rs := []) (by kernel_rfl) 4000 [.e 0, .z [0, 0] 5 [0, 7, 8]] (o := .obl (p = p) (.stop [.o [0, 0] 5, .c [1, 0], .c [1]] [(0, vP p), (7, vP gb), (8, vP ba)] [E64beb p c cl tp ep (.func (.func 93) #[] #[]) (vP kb) (vP gb) rp sl bk er, E6f719 gb c G gb, Ebed9f ba A, E632c4 A])) (by kernel_rfl) ?_
  refine ok_obl rfl ?_
  refine ok_stop ?_
  refine go_call (some 9) [1, 2, 3] Tryz.call124 (guard_Step c gb ba G A (by first | assumption | omega | (simp only [InK] at *; omega)) (by first | assumption | omega | (simp only [InK] at *; omega)) (by first | assumption | omega | (simp only [InK] at *; omega)) hR hG) (by kernel_rfl) ?_
  rintro v post ⟨rfl, rfl⟩
  refine go_exec (rs := []) (by kernel_rfl) 4000 [.sp [10] [.dead] [.e 0, .e 0, .z [0, 1, 1] 6 [0, 15, 16, 20]]] (o := .br (!((G.step c.retry A).1.ph == 0)) (.bad) (.obl (p = p) (.obl (p = p) (.stop [.o [0, 1, 1] 6, .c [1, 1, 1]] [(0, vP p), (15, vP p), (16, vP p), (20, vP gb)] [E64beb p c cl tp ep (.nilFunc) (vP kb) (vP gb) rp sl bk er, E6f719 gb c ((G.step c.retry A).1) gb, Ebed9f ba ((G.step c.retry A).2), E632c4 ((G.step c.retry A).2)])))) (by kernel_rfl) ?_
  refine ok_br (fun h => absurd (show (!((G.step c.retry A).1.ph == 0)) = false from (by simp [hd])) (by rw [h]; simp)) (fun _ => ?_)
  refine ok_obl rfl ?_
  refine ok_obl rfl ?_
  refine ok_stop ?_
  refine go_call (some 21) [1] Tryz.call125 (guard_ToldK c gb ((G.step c.retry A).1) hd he) (by kernel_rfl) ?_
  rintro v post ⟨rfl, rfl⟩
  refine go_exec (rs := []) (by kernel_rfl) 4000 [.e 0, .e 0, .e 0] (o := .obl (p = p) (.obl (p = p) (.obl (p = p) (.ret (undef) [Eea5c0 p c cl tp ep (.nilFunc) (vP kb) (vP gb) rp sl ((G.step c.retry A).1.block), Ebed9f ba ((G.step c.retry A).2), E632c4 ((G.step c.retry A).2), E0d039 gb c ((G.step c.retry A).1) gb (((G.step c.retry A).1).ph) (((G.step c.retry A).1).code)])))) (by kernel_rfl) ?_
  refine ok_obl rfl ?_
  refine ok_obl rfl ?_
  refine ok_obl rfl ?_
  exact ret_ok (post := [Eea5c0 p c cl tp ep (.nilFunc) (vP kb) (vP gb) rp sl ((G.step c.retry A).1.block), E0d039 gb c ((G.step c.retry A).1) gb (((G.step c.retry A).1).ph) (((G.step c.retry A).1).code), Ebed9f ba ((G.step c.retry A).2), E632c4 ((G.step c.retry A).2)]) [0, 3, 1, 2] (by kernel_rfl) ⟨rfl, (by kernel_rfl)⟩


theorem pGuardsE (c : Cfg) (p ba kb gb : Nat) (cl tp ep sl bk : Int) (rp er : Value) (G : Gu) (A : Ar) (hc : c.Ok) (hn : A.ws.length = A.n) (hs : 0 ≤ A.steps ∧ A.steps ≤ 1000000000) (hR : RngW A.ws) (hG : Gu.Ok c A.n G) (hd : (G.step c.retry A).1.ph = 0) (he : (G.step c.retry A).1.code ≠ 0) (hsl : 0 ≤ sl ∧ sl < c.slots) :
    Ctr Tryz.prog 93 #[vP p, vP ba] [E64beb p c cl tp ep (.func (.func 93) #[] #[]) (vP kb) (vP gb) rp sl bk er, E6f719 gb c G gb, Ebed9f ba A, E632c4 A] (fun v L => ∃ (rb : Nat), v = undef ∧ L = [E64beb p c cl tp ep (.func (.func 127) #[] #[]) (vP kb) (vP gb) (vP rb) sl ((G.step c.retry A).1.block) (.iface 46 (vI ((G.step c.retry A).1.code))), E6f719 gb c ((G.step c.retry A).1) gb, Ebed9f ba ((G.step c.retry A).2), E632c4 ((G.step c.retry A).2), .pts rb [vI (slotAt c sl), .bool false] 214]) := by
  refine ctr_of (args := [vP p, vP ba]) (fn := Tryz.f93) (body := B93) (nt := 48) Tryz.func93 (by kernel_rfl) (by kernel_rfl) ?_
  intro F
  refine go_exec (rs := []) (by kernel_rfl) 4000 [.e 0, .z [0, 0] 5 [0, 7, 8]] (o := .obl (p = p) (.stop [.o [0, 0] 5, .c [1, 0], .c [1]] [(0, vP p), (7, vP gb), (8, vP ba)] [E64beb p c cl tp ep (.func (.func 93) #[] #[]) (vP kb) (vP gb) rp sl bk er, E6f719 gb c G gb, Ebed9f ba A, E632c4 A])) (by kernel_rfl) ?_
  refine ok_obl rfl ?_
  refine ok_stop ?_
  refine go_call (some 9) [1, 2, 3] Tryz.call124 (guard_Step c gb ba G A (by first | assumption | omega | (simp only [InK] at *; omega)) (by first | assumption | omega | (simp only [InK] at *; omega)) (by first | assumption | omega | (simp only [InK] at *; omega)) hR hG) (by kernel_rfl) ?_
  rintro v post ⟨rfl, rfl⟩
  refine go_exec (rs := []) (by kernel_rfl) 4000 [.sp [10] [.dead] [.e 0, .e 0, .z [0, 1, 1] 6 [0, 15, 16, 20]]] (o := .br (!((G.step c.retry A).1.ph == 0)) (.bad) (.obl (p = p) (.obl (p = p) (.stop [.o [0, 1, 1] 6, .c [1, 1, 1]] [(0, vP p), (15, vP p), (16, vP p), (20, vP gb)] [E64beb p c cl tp ep (.nilFunc) (vP kb) (vP gb) rp sl bk er, E6f719 gb c ((G.step c.retry A).1) gb, Ebed9f ba ((G.step c.retry A).2), E632c4 ((G.step c.retry A).2)])))) (by kernel_rfl) ?_
  refine ok_br (fun h => absurd (show (!((G.step c.retry A).1.ph == 0)) = false from (by simp [hd])) (by rw [h]; simp)) (fun _ => ?_)
  refine ok_obl rfl ?_
  refine ok_obl rfl ?_
  refine ok_stop ?_
  refine go_call (some 21) [1] Tryz.call125 (guard_ToldE c gb ((G.step c.retry A).1) hd he) (by kernel_rfl) ?_
  rintro v post ⟨rfl, rfl⟩
  refine go_exec (rs := []) (by kernel_rfl) 4000 [.e 0, .e 0, .e 0, .z [0, 0, 1, 1, 1, 1] 0 [0]] (o := .obl (p = p) (.obl (p = p) (.obl (p = p) (.stop [.c [0, 0, 1, 1, 1, 1], .c [1, 0, 1, 1, 1, 1]] [(0, vP p)] [E64beb p c cl tp ep (.nilFunc) (vP kb) (vP gb) rp sl ((G.step c.retry A).1.block) (.iface 46 (vI (((G.step c.retry A).1).code))), Ebed9f ba ((G.step c.retry A).2), E632c4 ((G.step c.retry A).2), E0d039 gb c ((G.step c.retry A).1) gb (((G.step c.retry A).1).ph) (((G.step c.retry A).1).code)])))) (by kernel_rfl) ?_
  refine ok_obl rfl ?_
  refine ok_obl rfl ?_
  refine ok_obl rfl ?_
  refine ok_stop ?_
  refine go_lz (by kernel_rfl) (by kernel_rfl) ?_
  refine lz_node (l' := (mk 13 [0, 1, 2, 3, 4, 5, 6, 7, 8])) (V' := [0, 1, 2, 3, 4, 5, 6, 7, 8]) (T1 := [(0, vP p), (33, vP p), (34, vP p), (35, vP p), (36, vP p), (37, cfgV c), (38, vP p), (39, vP p), (40, .pointer (some ⟨p, 16, none⟩)), (41, vI sl)]) (ps := [p = p, p = p]) [0, 1, 2, 3, 4, 5, 6, 7, 8] [(0, .h .w), (1, .h .w), (2, .h .w), (3, .h .w), (4, .h (.e 0)), (5, .h .w), (6, .h .w), (7, .h .w), (8, .h (.e 0))] [0, 33, 34, 35, 36, 37, 38, 39, 40, 41] [9] (by kernel_rfl) ⟨rfl, rfl, trivial⟩ ⟨?_, trivial⟩
  refine lz_call (l' := (mk 13 [0, 1, 2, 3, 4, 5, 6, 7, 8, 9])) (V' := [0]) (some 42) [] Tryz.call126 (new_Release c sl (by first | assumption | omega | (simp only [InK] at *; omega)) hsl) (by kernel_rfl) ?_
  rintro v post ⟨r_9_1, rfl, rfl⟩
  refine lz_node (l' := (mk 13 [0, 1, 2, 3, 4, 5, 6, 7, 8, 9, 10, 11])) (V' := [0, 10, 11]) (T1 := [(42, vP r_9_1), (0, vP p), (33, vP p), (43, vP p), (44, .pointer (some ⟨p, 15, none⟩))]) (ps := []) [10, 11] [(0, .h .w), (10, .h .w), (11, .h .w)] [42, 0, 33, 43, 44] [12] (by kernel_rfl) trivial ⟨?_, trivial⟩
  refine lz_op (l' := (mk 13 [0, 1, 2, 3, 4, 5, 6, 7, 8, 9, 10, 11, 12])) (V' := []) (so := .obl (p = p) (.ok .skip [E64beb p c cl tp ep (.nilFunc) (vP kb) (vP gb) (vP r_9_1) sl ((G.step c.retry A).1.block) (.iface 46 (vI (((G.step c.retry A).1).code))), Ebed9f ba ((G.step c.retry A).2), E632c4 ((G.step c.retry A).2), E0d039 gb c ((G.step c.retry A).1) gb (((G.step c.retry A).1).ph) (((G.step c.retry A).1).code), .pts r_9_1 [vI (slotAt c sl), .bool false] 214])) (dst := none) (.e 0) (by kernel_rfl) ?_
  refine sat_obl rfl ?_
  refine sat_skip ?_
  refine lz_end (T1 := [(0, vP p)]) (ps := []) [] [] [0] (by kernel_rfl) trivial ?_
  refine go_exec (rs := []) (by kernel_rfl) 4000 [.e 0] (o := .obl (p = p) (.ret (undef) [E64beb p c cl tp ep (.func (.func 127) #[] #[]) (vP kb) (vP gb) (vP r_9_1) sl ((G.step c.retry A).1.block) (.iface 46 (vI (((G.step c.retry A).1).code))), Ebed9f ba ((G.step c.retry A).2), E632c4 ((G.step c.retry A).2), E0d039 gb c ((G.step c.retry A).1) gb (((G.step c.retry A).1).ph) (((G.step c.retry A).1).code), .pts r_9_1 [vI (slotAt c sl), .bool false] 214])) (by kernel_rfl) ?_
  refine ok_obl rfl ?_
  exact ret_ok (post := [E64beb p c cl tp ep (.func (.func 127) #[] #[]) (vP kb) (vP gb) (vP r_9_1) sl ((G.step c.retry A).1.block) (.iface 46 (vI (((G.step c.retry A).1).code))), E0d039 gb c ((G.step c.retry A).1) gb (((G.step c.retry A).1).ph) (((G.step c.retry A).1).code), Ebed9f ba ((G.step c.retry A).2), E632c4 ((G.step c.retry A).2), .pts r_9_1 [vI (slotAt c sl), .bool false] 214]) [0, 3, 1, 2, 4] (by kernel_rfl) ⟨r_9_1, rfl, (by kernel_rfl)⟩

noncomputable def B127 : Code := (Tryz.f127.body).getD .skip

theorem pReleases (c : Cfg) (p ba kb rb : Nat) (cl tp ep sl bk : Int) (gp er : Value) (a : Int) (A : Ar) (hn : A.ws.length = A.n) (hs : 0 ≤ A.steps ∧ A.steps ≤ 1000000000) (hi : 0 ≤ a ∧ a < A.n) :
    Ctr Tryz.prog 127 #[vP p, vP ba] [E64beb p c cl tp ep (.func (.func 127) #[] #[]) (vP kb) gp (vP rb) sl bk er, .pts rb [vI a, .bool false] 214, Ebed9f ba A, E632c4 A] (Ret (undef) [E64beb p c cl tp ep (.nilFunc) (vP kb) gp (vP rb) (-1) bk er, .pts rb [vI a, .bool true] 214, Ebed9f ba (A.store a 0), E632c4 (A.store a 0)]) := by
  refine ctr_of (args := [vP p, vP ba]) (fn := Tryz.f127) (body := B127) (nt := 16) Tryz.func127 (by kernel_rfl) (by kernel_rfl) ?_
  intro F
  refine go_exec (rs := []) (by kernel_rfl) 4000 [.e 0, .z [0] 5 [0, 7, 8]] (o := .obl (p = p) (.stop [.o [0] 5, .c [1]] [(0, vP p), (7, vP rb), (8, vP ba)] [E64beb p c cl tp ep (.func (.func 127) #[] #[]) (vP kb) gp (vP rb) sl bk er, .pts rb [vI a, .bool false] 214, Ebed9f ba A, E632c4 A])) (by kernel_rfl) ?_
  refine ok_obl rfl ?_
  refine ok_stop ?_
  refine go_call (some 9) [1, 2, 3] Tryz.call136 (release_Step rb ba a A (by first | assumption | omega | (simp only [InK] at *; omega)) hi (by first | assumption | omega | (simp only [InK] at *; omega))) (by kernel_rfl) ?_
  rintro v post ⟨rfl, rfl⟩
  refine go_exec (rs := []) (by kernel_rfl) 4000 [.e 0, .e 0] (o := .obl (p = p) (.obl (p = p) (.ret (undef) [E64beb p c cl tp ep (.nilFunc) (vP kb) gp (vP rb) (-1) bk er, .pts rb [vI a, .bool true] 214, Ebed9f ba (A.store a 0), E632c4 (A.store a 0)]))) (by kernel_rfl) ?_
  refine ok_obl rfl ?_
  refine ok_obl rfl ?_
  exact ret_ok (post := [E64beb p c cl tp ep (.nilFunc) (vP kb) gp (vP rb) (-1) bk er, .pts rb [vI a, .bool true] 214, Ebed9f ba (A.store a 0), E632c4 (A.store a 0)]) [0, 1, 2, 3] (by kernel_rfl) ⟨rfl, (by kernel_rfl)⟩

noncomputable def B11 : Code := (Tryz.f11.body).getD .skip

theorem pDone0 (c : Cfg) (p kb : Nat) (cl tp ep sl bk : Int) (gp rp er : Value)  :
    Ctr Tryz.prog 11 #[vP p] [E64beb p c cl tp ep (.nilFunc) (vP kb) gp rp sl bk er] (Ret (.bool true) [E64beb p c cl tp ep (.nilFunc) (vP kb) gp rp sl bk er]) := by
  refine ctr_of (args := [vP p]) (fn := Tryz.f11) (body := B11) (nt := 12) Tryz.func11 (by kernel_rfl) (by kernel_rfl) ?_
  intro F
  refine go_exec (rs := [.tmp 2]) (by kernel_rfl) 4000 [.e 0] (o := .obl (p = p) (.ret (.bool true) [E64beb p c cl tp ep (.nilFunc) (vP kb) gp rp sl bk er])) (by kernel_rfl) ?_
  refine ok_obl rfl ?_
  exact ret_ok (post := [E64beb p c cl tp ep (.nilFunc) (vP kb) gp rp sl bk er]) [0] (by kernel_rfl) ⟨rfl, (by kernel_rfl)⟩


theorem pDone1 (c : Cfg) (p kb : Nat) (cl tp ep sl bk : Int) (gp rp er : Value)  :
    Ctr Tryz.prog 11 #[vP p] [E64beb p c cl tp ep (.func (.func 47) #[] #[]) (vP kb) gp rp sl bk er] (Ret (.bool false) [E64beb p c cl tp ep (.func (.func 47) #[] #[]) (vP kb) gp rp sl bk er]) := by
  refine ctr_of (args := [vP p]) (fn := Tryz.f11) (body := B11) (nt := 12) Tryz.func11 (by kernel_rfl) (by kernel_rfl) ?_
  intro F
  refine go_exec (rs := [.tmp 2]) (by kernel_rfl) 4000 [.e 0] (o := .obl (p = p) (.ret (.bool false) [E64beb p c cl tp ep (.func (.func 47) #[] #[]) (vP kb) gp rp sl bk er])) (by kernel_rfl) ?_
  refine ok_obl rfl ?_
  exact ret_ok (post := [E64beb p c cl tp ep (.func (.func 47) #[] #[]) (vP kb) gp rp sl bk er]) [0] (by kernel_rfl) ⟨rfl, (by kernel_rfl)⟩


theorem pDone2 (c : Cfg) (p kb : Nat) (cl tp ep sl bk : Int) (gp rp er : Value)  :
    Ctr Tryz.prog 11 #[vP p] [E64beb p c cl tp ep (.func (.func 93) #[] #[]) (vP kb) gp rp sl bk er] (Ret (.bool false) [E64beb p c cl tp ep (.func (.func 93) #[] #[]) (vP kb) gp rp sl bk er]) := by
  refine ctr_of (args := [vP p]) (fn := Tryz.f11) (body := B11) (nt := 12) Tryz.func11 (by kernel_rfl) (by kernel_rfl) ?_
  intro F
  refine go_exec (rs := [.tmp 2]) (by kernel_rfl) 4000 [.e 0] (o := .obl (p = p) (.ret (.bool false) [E64beb p c cl tp ep (.func (.func 93) #[] #[]) (vP kb) gp rp sl bk er])) (by kernel_rfl) ?_
  refine ok_obl rfl ?_
  exact ret_ok (post := [E64beb p c cl tp ep (.func (.func 93) #[] #[]) (vP kb) gp rp sl bk er]) [0] (by kernel_rfl) ⟨rfl, (by kernel_rfl)⟩


theorem pDone3 (c : Cfg) (p kb : Nat) (cl tp ep sl bk : Int) (gp rp er : Value)  :
    Ctr Tryz.prog 11 #[vP p] [E64beb p c cl tp ep (.func (.func 127) #[] #[]) (vP kb) gp rp sl bk er] (Ret (.bool false) [E64beb p c cl tp ep (.func (.func 127) #[] #[]) (vP kb) gp rp sl bk er]) := by
  refine ctr_of (args := [vP p]) (fn := Tryz.f11) (body := B11) (nt := 12) Tryz.func11 (by kernel_rfl) (by kernel_rfl) ?_
  intro F
  refine go_exec (rs := [.tmp 2]) (by kernel_rfl) 4000 [.e 0] (o := .obl (p = p) (.ret (.bool false) [E64beb p c cl tp ep (.func (.func 127) #[] #[]) (vP kb) gp rp sl bk er])) (by kernel_rfl) ?_
  refine ok_obl rfl ?_
  exact ret_ok (post := [E64beb p c cl tp ep (.func (.func 127) #[] #[]) (vP kb) gp rp sl bk er]) [0] (by kernel_rfl) ⟨rfl, (by kernel_rfl)⟩


noncomputable def B10 : Code := (Tryz.f10.body).getD .skip

theorem pStep0 (c : Cfg) (p ba kb : Nat) (cl tp ep sl bk : Int) (gp rp er : Value) (A : Ar)  :
    Ctr Tryz.prog 10 #[vP p, vP ba] [E64beb p c cl tp ep (.nilFunc) (vP kb) gp rp sl bk er, Ebed9f ba A, E632c4 A] (Ret (.bool true) [E64beb p c cl tp ep (.nilFunc) (vP kb) gp rp sl bk er, Ebed9f ba A, E632c4 A]) := by
  refine ctr_of (args := [vP p, vP ba]) (fn := Tryz.f10) (body := B10) (nt := 17) Tryz.func10 (by kernel_rfl) (by kernel_rfl) ?_
  intro F
  refine go_exec (rs := [.tmp 4]) (by kernel_rfl) 4000 [.z [0, 0, 1] 1 [0, 1, 5]] (o := .stop [.o [0, 0, 1] 1, .c [1, 0, 1], .c [1, 1]] [(0, vP p), (1, vP ba), (5, vP p)] [E64beb p c cl tp ep (.nilFunc) (vP kb) gp rp sl bk er, Ebed9f ba A, E632c4 A]) (by kernel_rfl) ?_
  refine ok_stop ?_
  refine go_call (some 6) [0] Tryz.call11 (pDone0 c p kb cl tp ep sl bk gp rp er) (by kernel_rfl) ?_
  rintro v post ⟨rfl, rfl⟩
  refine go_exec (rs := [.tmp 4]) (by kernel_rfl) 4000 [.z [0, 1, 1] 1 [15]] (o := .stop [.o [0, 1, 1] 1, .c [1, 1, 1]] [(15, vP p)] [Ebed9f ba A, E632c4 A, E64beb p c cl tp ep (.nilFunc) (vP kb) gp rp sl bk er]) (by kernel_rfl) ?_
  refine ok_stop ?_
  refine go_call (some 16) [2] Tryz.call11 (pDone0 c p kb cl tp ep sl bk gp rp er) (by kernel_rfl) ?_
  rintro v post ⟨rfl, rfl⟩
  refine go_exec (rs := [.tmp 4]) (by kernel_rfl) 4000 [] (o := .ret (.bool true) [Ebed9f ba A, E632c4 A, E64beb p c cl tp ep (.nilFunc) (vP kb) gp rp sl bk er]) (by kernel_rfl) ?_
  exact ret_ok (post := [E64beb p c cl tp ep (.nilFunc) (vP kb) gp rp sl bk er, Ebed9f ba A, E632c4 A]) [2, 0, 1] (by kernel_rfl) ⟨rfl, (by kernel_rfl)⟩


theorem pStep1W (c : Cfg) (p ba kb : Nat) (cl tp ep sl bk : Int) (gp rp er : Value) (K : Cl) (A : Ar) (hc : c.Ok) (hn : A.ws.length = A.n) (hs : 0 ≤ A.steps ∧ A.steps ≤ 1000000000) (hz : (A.n : Int) = sizeOfC c) (hK : Cl.Ok c K) (ha : (K.step c A).1.at_ ≠ -1) :
    Ctr Tryz.prog 10 #[vP p, vP ba] [E64beb p c cl tp ep (.func (.func 47) #[] #[]) (vP kb) gp rp sl bk er, E85b39 kb c K, Ebed9f ba A, E632c4 A] (Ret (.bool false) [E64beb p c cl tp ep (.func (.func 47) #[] #[]) (vP kb) gp rp sl bk er, E85b39 kb c ((K.step c A).1), Ebed9f ba ((K.step c A).2), E632c4 ((K.step c A).2)]) := by
  refine ctr_of (args := [vP p, vP ba]) (fn := Tryz.f10) (body := B10) (nt := 17) Tryz.func10 (by kernel_rfl) (by kernel_rfl) ?_
  intro F
  refine go_exec (rs := [.tmp 4]) (by kernel_rfl) 4000 [.z [0, 0, 1] 1 [0, 1, 5]] (o := .stop [.o [0, 0, 1] 1, .c [1, 0, 1], .c [1, 1]] [(0, vP p), (1, vP ba), (5, vP p)] [E64beb p c cl tp ep (.func (.func 47) #[] #[]) (vP kb) gp rp sl bk er, E85b39 kb c K, Ebed9f ba A, E632c4 A]) (by kernel_rfl) ?_
  refine ok_stop ?_
  refine go_call (some 6) [0] Tryz.call11 (pDone1 c p kb cl tp ep sl bk gp rp er) (by kernel_rfl) ?_
  rintro v post ⟨rfl, rfl⟩
  refine go_exec (rs := [.tmp 4]) (by kernel_rfl) 4000 [.e 3, .z [0, 1, 0, 1] 6 [0, 11, 12, 13]] (o := .obl (p = p) (.stop [.o [0, 1, 0, 1] 6, .c [1, 1]] [(0, vP p), (11, .func (.func 47) #[] #[]), (12, vP p), (13, vP ba)] [E85b39 kb c K, Ebed9f ba A, E632c4 A, E64beb p c cl tp ep (.func (.func 47) #[] #[]) (vP kb) gp rp sl bk er])) (by kernel_rfl) ?_
  refine ok_obl rfl ?_
  refine ok_stop ?_
  refine go_call (some 14) [3, 0, 1, 2] Tryz.call47 (pClaimsW c p ba kb cl tp ep sl bk gp rp er K A (by first | assumption | omega | (simp only [InK] at *; omega)) (by first | assumption | omega | (simp only [InK] at *; omega)) (by first | assumption | omega | (simp only [InK] at *; omega)) (by first | assumption | omega | (simp only [InK] at *; omega)) (by first | assumption | omega | (simp only [InK] at *; omega)) (by first | assumption | omega | (simp only [InK] at *; omega))) (by kernel_rfl) ?_
  rintro v post ⟨rfl, rfl⟩
  refine go_exec (rs := [.tmp 4]) (by kernel_rfl) 4000 [.z [0, 1, 1] 1 [15]] (o := .stop [.o [0, 1, 1] 1, .c [1, 1, 1]] [(15, vP p)] [E64beb p c cl tp ep (.func (.func 47) #[] #[]) (vP kb) gp rp sl bk er, E85b39 kb c ((K.step c A).1), Ebed9f ba ((K.step c A).2), E632c4 ((K.step c A).2)]) (by kernel_rfl) ?_
  refine ok_stop ?_
  refine go_call (some 16) [0] Tryz.call11 (pDone1 c p kb cl tp ep sl bk gp rp er) (by kernel_rfl) ?_
  rintro v post ⟨rfl, rfl⟩
  refine go_exec (rs := [.tmp 4]) (by kernel_rfl) 4000 [] (o := .ret (.bool false) [E85b39 kb c ((K.step c A).1), Ebed9f ba ((K.step c A).2), E632c4 ((K.step c A).2), E64beb p c cl tp ep (.func (.func 47) #[] #[]) (vP kb) gp rp sl bk er]) (by kernel_rfl) ?_
  exact ret_ok (post := [E64beb p c cl tp ep (.func (.func 47) #[] #[]) (vP kb) gp rp sl bk er, E85b39 kb c ((K.step c A).1), Ebed9f ba ((K.step c A).2), E632c4 ((K.step c A).2)]) [3, 0, 1, 2] (by kernel_rfl) ⟨rfl, (by kernel_rfl)⟩


theorem pStep1N (c : Cfg) (p ba kb : Nat) (cl tp ep sl bk : Int) (gp rp er : Value) (K : Cl) (A : Ar) (hc : c.Ok) (hn : A.ws.length = A.n) (hs : 0 ≤ A.steps ∧ A.steps ≤ 1000000000) (hz : (A.n : Int) = sizeOfC c) (hK : Cl.Ok c K) (ha : (K.step c A).1.at_ = -1) (hq : (K.step c A).1.slot = -1) :
    Ctr Tryz.prog 10 #[vP p, vP ba] [E64beb p c cl tp ep (.func (.func 47) #[] #[]) (vP kb) gp rp sl bk er, E85b39 kb c K, Ebed9f ba A, E632c4 A] (Ret (.bool true) [E64beb p c cl tp ep (.nilFunc) (vP kb) gp rp ((K.step c A).1.slot) bk (.iface 46 (vI 19)), E85b39 kb c ((K.step c A).1), Ebed9f ba ((K.step c A).2), E632c4 ((K.step c A).2)]) := by
  refine ctr_of (args := [vP p, vP ba]) (fn := Tryz.f10) (body := B10) (nt := 17) Tryz.func10 (by kernel_rfl) (by kernel_rfl) ?_
  intro F
  refine go_exec (rs := [.tmp 4]) (by kernel_rfl) 4000 [.z [0, 0, 1] 1 [0, 1, 5]] (o := .stop [.o [0, 0, 1] 1, .c [1, 0, 1], .c [1, 1]] [(0, vP p), (1, vP ba), (5, vP p)] [E64beb p c cl tp ep (.func (.func 47) #[] #[]) (vP kb) gp rp sl bk er, E85b39 kb c K, Ebed9f ba A, E632c4 A]) (by kernel_rfl) ?_
  refine ok_stop ?_
  refine go_call (some 6) [0] Tryz.call11 (pDone1 c p kb cl tp ep sl bk gp rp er) (by kernel_rfl) ?_
  rintro v post ⟨rfl, rfl⟩
  refine go_exec (rs := [.tmp 4]) (by kernel_rfl) 4000 [.e 3, .z [0, 1, 0, 1] 6 [0, 11, 12, 13]] (o := .obl (p = p) (.stop [.o [0, 1, 0, 1] 6, .c [1, 1]] [(0, vP p), (11, .func (.func 47) #[] #[]), (12, vP p), (13, vP ba)] [E85b39 kb c K, Ebed9f ba A, E632c4 A, E64beb p c cl tp ep (.func (.func 47) #[] #[]) (vP kb) gp rp sl bk er])) (by kernel_rfl) ?_
  refine ok_obl rfl ?_
  refine ok_stop ?_
  refine go_call (some 14) [3, 0, 1, 2] Tryz.call47 (pClaimsN c p ba kb cl tp ep sl bk gp rp er K A (by first | assumption | omega | (simp only [InK] at *; omega)) (by first | assumption | omega | (simp only [InK] at *; omega)) (by first | assumption | omega | (simp only [InK] at *; omega)) (by first | assumption | omega | (simp only [InK] at *; omega)) (by first | assumption | omega | (simp only [InK] at *; omega)) (by first | assumption | omega | (simp only [InK] at *; omega)) (by first | assumption | omega | (simp only [InK] at *; omega))) (by kernel_rfl) ?_
  rintro v post ⟨rfl, rfl⟩
  refine go_exec (rs := [.tmp 4]) (by kernel_rfl) 4000 [.z [0, 1, 1] 1 [15]] (o := .stop [.o [0, 1, 1] 1, .c [1, 1, 1]] [(15, vP p)] [E64beb p c cl tp ep (.nilFunc) (vP kb) gp rp ((K.step c A).1.slot) bk (.iface 46 (vI 19)), E85b39 kb c ((K.step c A).1), Ebed9f ba ((K.step c A).2), E632c4 ((K.step c A).2)]) (by kernel_rfl) ?_
  refine ok_stop ?_
  refine go_call (some 16) [0] Tryz.call11 (pDone0 c p kb cl tp ep ((K.step c A).1.slot) bk gp rp (.iface 46 (vI 19))) (by kernel_rfl) ?_
  rintro v post ⟨rfl, rfl⟩
  refine go_exec (rs := [.tmp 4]) (by kernel_rfl) 4000 [] (o := .ret (.bool true) [E85b39 kb c ((K.step c A).1), Ebed9f ba ((K.step c A).2), E632c4 ((K.step c A).2), E64beb p c cl tp ep (.nilFunc) (vP kb) gp rp ((K.step c A).1.slot) bk (.iface 46 (vI 19))]) (by kernel_rfl) ?_
  exact ret_ok (post := [E64beb p c cl tp ep (.nilFunc) (vP kb) gp rp ((K.step c A).1.slot) bk (.iface 46 (vI 19)), E85b39 kb c ((K.step c A).1), Ebed9f ba ((K.step c A).2), E632c4 ((K.step c A).2)]) [3, 0, 1, 2] (by kernel_rfl) ⟨rfl, (by kernel_rfl)⟩


theorem pStep1Y (c : Cfg) (p ba kb : Nat) (cl tp ep sl bk : Int) (gp rp er : Value) (K : Cl) (A : Ar) (hc : c.Ok) (hn : A.ws.length = A.n) (hs : 0 ≤ A.steps ∧ A.steps ≤ 1000000000) (hz : (A.n : Int) = sizeOfC c) (hK : Cl.Ok c K) (ha : (K.step c A).1.at_ = -1) (hq : (K.step c A).1.slot ≠ -1) (hsl : 0 ≤ (K.step c A).1.slot ∧ (K.step c A).1.slot < c.slots) (hcl : 0 ≤ cl ∧ cl < c.clients) (htp : 0 ≤ tp ∧ tp < c.topics) :
    Ctr Tryz.prog 10 #[vP p, vP ba] [E64beb p c cl tp ep (.func (.func 47) #[] #[]) (vP kb) gp rp sl bk er, E85b39 kb c K, Ebed9f ba A, E632c4 A] (fun v L => ∃ (gb : Nat), v = .bool false ∧ L = [E64beb p c cl tp ep (.func (.func 93) #[] #[]) (vP kb) (vP gb) rp ((K.step c A).1.slot) bk er, E85b39 kb c ((K.step c A).1), Ebed9f ba ((K.step c A).2), E632c4 ((K.step c A).2), E6f719 gb c (newGu c cl (K.step c A).1.slot tp ep) gb]) := by
  refine ctr_of (args := [vP p, vP ba]) (fn := Tryz.f10) (body := B10) (nt := 17) Tryz.func10 (by kernel_rfl) (by kernel_rfl) ?_
  intro F
  refine go_exec (rs := [.tmp 4]) (by kernel_rfl) 4000 [.z [0, 0, 1] 1 [0, 1, 5]] (o := .stop [.o [0, 0, 1] 1, .c [1, 0, 1], .c [1, 1]] [(0, vP p), (1, vP ba), (5, vP p)] [E64beb p c cl tp ep (.func (.func 47) #[] #[]) (vP kb) gp rp sl bk er, E85b39 kb c K, Ebed9f ba A, E632c4 A]) (by kernel_rfl) ?_
  refine ok_stop ?_
  refine go_call (some 6) [0] Tryz.call11 (pDone1 c p kb cl tp ep sl bk gp rp er) (by kernel_rfl) ?_
  rintro v post ⟨rfl, rfl⟩
  refine go_exec (rs := [.tmp 4]) (by kernel_rfl) 4000 [.e 3, .z [0, 1, 0, 1] 6 [0, 11, 12, 13]] (o := .obl (p = p) (.stop [.o [0, 1, 0, 1] 6, .c [1, 1]] [(0, vP p), (11, .func (.func 47) #[] #[]), (12, vP p), (13, vP ba)] [E85b39 kb c K, Ebed9f ba A, E632c4 A, E64beb p c cl tp ep (.func (.func 47) #[] #[]) (vP kb) gp rp sl bk er])) (by kernel_rfl) ?_
  refine ok_obl rfl ?_
  refine ok_stop ?_
  refine go_call (some 14) [3, 0, 1, 2] Tryz.call47 (pClaimsY c p ba kb cl tp ep sl bk gp rp er K A (by first | assumption | omega | (simp only [InK] at *; omega)) (by first | assumption | omega | (simp only [InK] at *; omega)) (by first | assumption | omega | (simp only [InK] at *; omega)) (by first | assumption | omega | (simp only [InK] at *; omega)) (by first | assumption | omega | (simp only [InK] at *; omega)) (by first | assumption | omega | (simp only [InK] at *; omega)) (by first | assumption | omega | (simp only [InK] at *; omega)) (by first | assumption | omega | (simp only [InK] at *; omega)) (by first | assumption | omega | (simp only [InK] at *; omega)) (by first | assumption | omega | (simp only [InK] at *; omega))) (by kernel_rfl) ?_
  rintro v post ⟨gb_1, rfl, rfl⟩
  refine go_exec (rs := [.tmp 4]) (by kernel_rfl) 4000 [.z [0, 1, 1] 1 [15]] (o := .stop [.o [0, 1, 1] 1, .c [1, 1, 1]] [(15, vP p)] [E64beb p c cl tp ep (.func (.func 93) #[] #[]) (vP kb) (vP gb_1) rp ((K.step c A).1.slot) bk er, E85b39 kb c ((K.step c A).1), Ebed9f ba ((K.step c A).2), E632c4 ((K.step c A).2), E6f719 gb_1 c (newGu c cl (K.step c A).1.slot tp ep) gb_1]) (by kernel_rfl) ?_
  refine ok_stop ?_
  refine go_call (some 16) [0] Tryz.call11 (pDone2 c p kb cl tp ep ((K.step c A).1.slot) bk (vP gb_1) rp er) (by kernel_rfl) ?_
  rintro v post ⟨rfl, rfl⟩
  refine go_exec (rs := [.tmp 4]) (by kernel_rfl) 4000 [] (o := .ret (.bool false) [E85b39 kb c ((K.step c A).1), Ebed9f ba ((K.step c A).2), E632c4 ((K.step c A).2), E6f719 gb_1 c (newGu c cl (K.step c A).1.slot tp ep) gb_1, E64beb p c cl tp ep (.func (.func 93) #[] #[]) (vP kb) (vP gb_1) rp ((K.step c A).1.slot) bk er]) (by kernel_rfl) ?_
  exact ret_ok (post := [E64beb p c cl tp ep (.func (.func 93) #[] #[]) (vP kb) (vP gb_1) rp ((K.step c A).1.slot) bk er, E85b39 kb c ((K.step c A).1), Ebed9f ba ((K.step c A).2), E632c4 ((K.step c A).2), E6f719 gb_1 c (newGu c cl (K.step c A).1.slot tp ep) gb_1]) [4, 0, 1, 2, 3] (by kernel_rfl) ⟨gb_1, rfl, (by kernel_rfl)⟩


theorem pStep2W (c : Cfg) (p ba kb gb : Nat) (cl tp ep sl bk : Int) (rp er : Value) (G : Gu) (A : Ar) (hc : c.Ok) (hn : A.ws.length = A.n) (hs : 0 ≤ A.steps ∧ A.steps ≤ 1000000000) (hR : RngW A.ws) (hG : Gu.Ok c A.n G) (hd : (G.step c.retry A).1.ph ≠ 0) :
    Ctr Tryz.prog 10 #[vP p, vP ba] [E64beb p c cl tp ep (.func (.func 93) #[] #[]) (vP kb) (vP gb) rp sl bk er, E6f719 gb c G gb, Ebed9f ba A, E632c4 A] (Ret (.bool false) [E64beb p c cl tp ep (.func (.func 93) #[] #[]) (vP kb) (vP gb) rp sl bk er, E6f719 gb c ((G.step c.retry A).1) gb, Ebed9f ba ((G.step c.retry A).2), E632c4 ((G.step c.retry A).2)]) := by
  refine ctr_of (args := [vP p, vP ba]) (fn := Tryz.f10) (body := B10) (nt := 17) Tryz.func10 (by kernel_rfl) (by kernel_rfl) ?_
  intro F
  refine go_exec (rs := [.tmp 4]) (by kernel_rfl) 4000 [.z [0, 0, 1] 1 [0, 1, 5]] (o := .stop [.o [0, 0, 1] 1, .c [1, 0, 1], .c [1, 1]] [(0, vP p), (1, vP ba), (5, vP p)] [E64beb p c cl tp ep (.func (.func 93) #[] #[]) (vP kb) (vP gb) rp sl bk er, E6f719 gb c G gb, Ebed9f ba A, E632c4 A]) (by kernel_rfl) ?_
  refine ok_stop ?_
  refine go_call (some 6) [0] Tryz.call11 (pDone2 c p kb cl tp ep sl bk (vP gb) rp er) (by kernel_rfl) ?_
  rintro v post ⟨rfl, rfl⟩
  refine go_exec (rs := [.tmp 4]) (by kernel_rfl) 4000 [.e 3, .z [0, 1, 0, 1] 6 [0, 11, 12, 13]] (o := .obl (p = p) (.stop [.o [0, 1, 0, 1] 6, .c [1, 1]] [(0, vP p), (11, .func (.func 93) #[] #[]), (12, vP p), (13, vP ba)] [E6f719 gb c G gb, Ebed9f ba A, E632c4 A, E64beb p c cl tp ep (.func (.func 93) #[] #[]) (vP kb) (vP gb) rp sl bk er])) (by kernel_rfl) ?_
  refine ok_obl rfl ?_
  refine ok_stop ?_
  refine go_call (some 14) [3, 0, 1, 2] Tryz.call93 (pGuardsW c p ba kb gb cl tp ep sl bk rp er G A (by first | assumption | omega | (simp only [InK] at *; omega)) (by first | assumption | omega | (simp only [InK] at *; omega)) (by first | assumption | omega | (simp only [InK] at *; omega)) (by first | assumption | omega | (simp only [InK] at *; omega)) (by first | assumption | omega | (simp only [InK] at *; omega)) (by first | assumption | omega | (simp only [InK] at *; omega))) (by kernel_rfl) ?_
  rintro v post ⟨rfl, rfl⟩
  refine go_exec (rs := [.tmp 4]) (by kernel_rfl) 4000 [.z [0, 1, 1] 1 [15]] (o := .stop [.o [0, 1, 1] 1, .c [1, 1, 1]] [(15, vP p)] [E64beb p c cl tp ep (.func (.func 93) #[] #[]) (vP kb) (vP gb) rp sl bk er, E6f719 gb c ((G.step c.retry A).1) gb, Ebed9f ba ((G.step c.retry A).2), E632c4 ((G.step c.retry A).2)]) (by kernel_rfl) ?_
  refine ok_stop ?_
  refine go_call (some 16) [0] Tryz.call11 (pDone2 c p kb cl tp ep sl bk (vP gb) rp er) (by kernel_rfl) ?_
  rintro v post ⟨rfl, rfl⟩
  refine go_exec (rs := [.tmp 4]) (by kernel_rfl) 4000 [] (o := .ret (.bool false) [E6f719 gb c ((G.step c.retry A).1) gb, Ebed9f ba ((G.step c.retry A).2), E632c4 ((G.step c.retry A).2), E64beb p c cl tp ep (.func (.func 93) #[] #[]) (vP kb) (vP gb) rp sl bk er]) (by kernel_rfl) ?_
  exact ret_ok (post := [E64beb p c cl tp ep (.func (.func 93) #[] #[]) (vP kb) (vP gb) rp sl bk er, E6f719 gb c ((G.step c.retry A).1) gb, Ebed9f ba ((G.step c.retry A).2), E632c4 ((G.step c.retry A).2)]) [3, 0, 1, 2] (by kernel_rfl) ⟨rfl, (by kernel_rfl)⟩


theorem pStep2K (c : Cfg) (p ba kb gb : Nat) (cl tp ep sl bk : Int) (rp er : Value) (G : Gu) (A : Ar) (hc : c.Ok) (hn : A.ws.length = A.n) (hs : 0 ≤ A.steps ∧ A.steps ≤ 1000000000) (hR : RngW A.ws) (hG : Gu.Ok c A.n G) (hd : (G.step c.retry A).1.ph = 0) (he : (G.step c.retry A).1.code = 0) :
    Ctr Tryz.prog 10 #[vP p, vP ba] [E64beb p c cl tp ep (.func (.func 93) #[] #[]) (vP kb) (vP gb) rp sl bk er, E6f719 gb c G gb, Ebed9f ba A, E632c4 A] (Ret (.bool true) [Eea5c0 p c cl tp ep (.nilFunc) (vP kb) (vP gb) rp sl ((G.step c.retry A).1.block), E6f719 gb c ((G.step c.retry A).1) gb, Ebed9f ba ((G.step c.retry A).2), E632c4 ((G.step c.retry A).2)]) := by
  refine ctr_of (args := [vP p, vP ba]) (fn := Tryz.f10) (body := B10) (nt := 17) Tryz.func10 (by kernel_rfl) (by kernel_rfl) ?_
  intro F
  refine go_exec (rs := [.tmp 4]) (by kernel_rfl) 4000 [.z [0, 0, 1] 1 [0, 1, 5]] (o := .stop [.o [0, 0, 1] 1, .c [1, 0, 1], .c [1, 1]] [(0, vP p), (1, vP ba), (5, vP p)] [E64beb p c cl tp ep (.func (.func 93) #[] #[]) (vP kb) (vP gb) rp sl bk er, E6f719 gb c G gb, Ebed9f ba A, E632c4 A]) (by kernel_rfl) ?_
  refine ok_stop ?_
  refine go_call (some 6) [0] Tryz.call11 (pDone2 c p kb cl tp ep sl bk (vP gb) rp er) (by kernel_rfl) ?_
  rintro v post ⟨rfl, rfl⟩
  refine go_exec (rs := [.tmp 4]) (by kernel_rfl) 4000 [.e 3, .z [0, 1, 0, 1] 6 [0, 11, 12, 13]] (o := .obl (p = p) (.stop [.o [0, 1, 0, 1] 6, .c [1, 1]] [(0, vP p), (11, .func (.func 93) #[] #[]), (12, vP p), (13, vP ba)] [E6f719 gb c G gb, Ebed9f ba A, E632c4 A, E64beb p c cl tp ep (.func (.func 93) #[] #[]) (vP kb) (vP gb) rp sl bk er])) (by kernel_rfl) ?_
  refine ok_obl rfl ?_
  refine ok_stop ?_
  refine go_call (some 14) [3, 0, 1, 2] Tryz.call93 (pGuardsK c p ba kb gb cl tp ep sl bk rp er G A (by first | assumption | omega | (simp only [InK] at *; omega)) (by first | assumption | omega | (simp only [InK] at *; omega)) (by first | assumption | omega | (simp only [InK] at *; omega)) (by first | assumption | omega | (simp only [InK] at *; omega)) (by first | assumption | omega | (simp only [InK] at *; omega)) (by first | assumption | omega | (simp only [InK] at *; omega)) (by first | assumption | omega | (simp only [InK] at *; omega))) (by kernel_rfl) ?_
  rintro v post ⟨rfl, rfl⟩
  refine go_exec (rs := [.tmp 4]) (by kernel_rfl) 4000 [.z [0, 1, 1] 1 [15]] (o := .stop [.o [0, 1, 1] 1, .c [1, 1, 1]] [(15, vP p)] [Eea5c0 p c cl tp ep (.nilFunc) (vP kb) (vP gb) rp sl ((G.step c.retry A).1.block), E6f719 gb c ((G.step c.retry A).1) gb, Ebed9f ba ((G.step c.retry A).2), E632c4 ((G.step c.retry A).2)]) (by kernel_rfl) ?_
  refine ok_stop ?_
  refine go_call (some 16) [0] Tryz.call11 (pDone0 c p kb cl tp ep sl ((G.step c.retry A).1.block) (vP gb) rp (.nilIface)) (by kernel_rfl) ?_
  rintro v post ⟨rfl, rfl⟩
  refine go_exec (rs := [.tmp 4]) (by kernel_rfl) 4000 [] (o := .ret (.bool true) [E6f719 gb c ((G.step c.retry A).1) gb, Ebed9f ba ((G.step c.retry A).2), E632c4 ((G.step c.retry A).2), Eea5c0 p c cl tp ep (.nilFunc) (vP kb) (vP gb) rp sl ((G.step c.retry A).1.block)]) (by kernel_rfl) ?_
  exact ret_ok (post := [Eea5c0 p c cl tp ep (.nilFunc) (vP kb) (vP gb) rp sl ((G.step c.retry A).1.block), E6f719 gb c ((G.step c.retry A).1) gb, Ebed9f ba ((G.step c.retry A).2), E632c4 ((G.step c.retry A).2)]) [3, 0, 1, 2] (by kernel_rfl) ⟨rfl, (by kernel_rfl)⟩


theorem pStep2E (c : Cfg) (p ba kb gb : Nat) (cl tp ep sl bk : Int) (rp er : Value) (G : Gu) (A : Ar) (hc : c.Ok) (hn : A.ws.length = A.n) (hs : 0 ≤ A.steps ∧ A.steps ≤ 1000000000) (hR : RngW A.ws) (hG : Gu.Ok c A.n G) (hd : (G.step c.retry A).1.ph = 0) (he : (G.step c.retry A).1.code ≠ 0) (hsl : 0 ≤ sl ∧ sl < c.slots) :
    Ctr Tryz.prog 10 #[vP p, vP ba] [E64beb p c cl tp ep (.func (.func 93) #[] #[]) (vP kb) (vP gb) rp sl bk er, E6f719 gb c G gb, Ebed9f ba A, E632c4 A] (fun v L => ∃ (rb : Nat), v = .bool false ∧ L = [E64beb p c cl tp ep (.func (.func 127) #[] #[]) (vP kb) (vP gb) (vP rb) sl ((G.step c.retry A).1.block) (.iface 46 (vI ((G.step c.retry A).1.code))), E6f719 gb c ((G.step c.retry A).1) gb, Ebed9f ba ((G.step c.retry A).2), E632c4 ((G.step c.retry A).2), .pts rb [vI (slotAt c sl), .bool false] 214]) := by
  refine ctr_of (args := [vP p, vP ba]) (fn := Tryz.f10) (body := B10) (nt := 17) Tryz.func10 (by kernel_rfl) (by kernel_rfl) ?_
  intro F
  refine go_exec (rs := [.tmp 4]) (by kernel_rfl) 4000 [.z [0, 0, 1] 1 [0, 1, 5]] (o := .stop [.o [0, 0, 1] 1, .c [1, 0, 1], .c [1, 1]] [(0, vP p), (1, vP ba), (5, vP p)] [E64beb p c cl tp ep (.func (.func 93) #[] #[]) (vP kb) (vP gb) rp sl bk er, E6f719 gb c G gb, Ebed9f ba A, E632c4 A]) (by kernel_rfl) ?_
  refine ok_stop ?_
  refine go_call (some 6) [0] Tryz.call11 (pDone2 c p kb cl tp ep sl bk (vP gb) rp er) (by kernel_rfl) ?_
  rintro v post ⟨rfl, rfl⟩
  refine go_exec (rs := [.tmp 4]) (by kernel_rfl) 4000 [.e 3, .z [0, 1, 0, 1] 6 [0, 11, 12, 13]] (o := .obl (p = p) (.stop [.o [0, 1, 0, 1] 6, .c [1, 1]] [(0, vP p), (11, .func (.func 93) #[] #[]), (12, vP p), (13, vP ba)] [E6f719 gb c G gb, Ebed9f ba A, E632c4 A, E64beb p c cl tp ep (.func (.func 93) #[] #[]) (vP kb) (vP gb) rp sl bk er])) (by kernel_rfl) ?_
  refine ok_obl rfl ?_
  refine ok_stop ?_
  refine go_call (some 14) [3, 0, 1, 2] Tryz.call93 (pGuardsE c p ba kb gb cl tp ep sl bk rp er G A (by first | assumption | omega | (simp only [InK] at *; omega)) (by first | assumption | omega | (simp only [InK] at *; omega)) (by first | assumption | omega | (simp only [InK] at *; omega)) (by first | assumption | omega | (simp only [InK] at *; omega)) (by first | assumption | omega | (simp only [InK] at *; omega)) (by first | assumption | omega | (simp only [InK] at *; omega)) (by first | assumption | omega | (simp only [InK] at *; omega)) (by first | assumption | omega | (simp only [InK] at *; omega))) (by kernel_rfl) ?_
  rintro v post ⟨rb_1, rfl, rfl⟩
  refine go_exec (rs := [.tmp 4]) (by kernel_rfl) 4000 [.z [0, 1, 1] 1 [15]] (o := .stop [.o [0, 1, 1] 1, .c [1, 1, 1]] [(15, vP p)] [E64beb p c cl tp ep (.func (.func 127) #[] #[]) (vP kb) (vP gb) (vP rb_1) sl ((G.step c.retry A).1.block) (.iface 46 (vI ((G.step c.retry A).1.code))), E6f719 gb c ((G.step c.retry A).1) gb, Ebed9f ba ((G.step c.retry A).2), E632c4 ((G.step c.retry A).2), .pts rb_1 [vI (slotAt c sl), .bool false] 214]) (by kernel_rfl) ?_
  refine ok_stop ?_
  refine go_call (some 16) [0] Tryz.call11 (pDone3 c p kb cl tp ep sl ((G.step c.retry A).1.block) (vP gb) (vP rb_1) (.iface 46 (vI ((G.step c.retry A).1.code)))) (by kernel_rfl) ?_
  rintro v post ⟨rfl, rfl⟩
  refine go_exec (rs := [.tmp 4]) (by kernel_rfl) 4000 [] (o := .ret (.bool false) [E6f719 gb c ((G.step c.retry A).1) gb, Ebed9f ba ((G.step c.retry A).2), E632c4 ((G.step c.retry A).2), .pts rb_1 [vI (slotAt c sl), .bool false] 214, E64beb p c cl tp ep (.func (.func 127) #[] #[]) (vP kb) (vP gb) (vP rb_1) sl ((G.step c.retry A).1.block) (.iface 46 (vI ((G.step c.retry A).1.code)))]) (by kernel_rfl) ?_
  exact ret_ok (post := [E64beb p c cl tp ep (.func (.func 127) #[] #[]) (vP kb) (vP gb) (vP rb_1) sl ((G.step c.retry A).1.block) (.iface 46 (vI ((G.step c.retry A).1.code))), E6f719 gb c ((G.step c.retry A).1) gb, Ebed9f ba ((G.step c.retry A).2), E632c4 ((G.step c.retry A).2), .pts rb_1 [vI (slotAt c sl), .bool false] 214]) [4, 0, 1, 2, 3] (by kernel_rfl) ⟨rb_1, rfl, (by kernel_rfl)⟩


theorem pStep3 (c : Cfg) (p ba kb rb : Nat) (cl tp ep sl bk : Int) (gp er : Value) (a : Int) (A : Ar) (hn : A.ws.length = A.n) (hs : 0 ≤ A.steps ∧ A.steps ≤ 1000000000) (hi : 0 ≤ a ∧ a < A.n) :
    Ctr Tryz.prog 10 #[vP p, vP ba] [E64beb p c cl tp ep (.func (.func 127) #[] #[]) (vP kb) gp (vP rb) sl bk er, .pts rb [vI a, .bool false] 214, Ebed9f ba A, E632c4 A] (Ret (.bool true) [E64beb p c cl tp ep (.nilFunc) (vP kb) gp (vP rb) (-1) bk er, .pts rb [vI a, .bool true] 214, Ebed9f ba (A.store a 0), E632c4 (A.store a 0)]) := by
  refine ctr_of (args := [vP p, vP ba]) (fn := Tryz.f10) (body := B10) (nt := 17) Tryz.func10 (by kernel_rfl) (by kernel_rfl) ?_
  intro F
  refine go_exec (rs := [.tmp 4]) (by kernel_rfl) 4000 [.z [0, 0, 1] 1 [0, 1, 5]] (o := .stop [.o [0, 0, 1] 1, .c [1, 0, 1], .c [1, 1]] [(0, vP p), (1, vP ba), (5, vP p)] [E64beb p c cl tp ep (.func (.func 127) #[] #[]) (vP kb) gp (vP rb) sl bk er, .pts rb [vI a, .bool false] 214, Ebed9f ba A, E632c4 A]) (by kernel_rfl) ?_
  refine ok_stop ?_
  refine go_call (some 6) [0] Tryz.call11 (pDone3 c p kb cl tp ep sl bk gp (vP rb) er) (by kernel_rfl) ?_
  rintro v post ⟨rfl, rfl⟩
  refine go_exec (rs := [.tmp 4]) (by kernel_rfl) 4000 [.e 3, .z [0, 1, 0, 1] 6 [0, 11, 12, 13]] (o := .obl (p = p) (.stop [.o [0, 1, 0, 1] 6, .c [1, 1]] [(0, vP p), (11, .func (.func 127) #[] #[]), (12, vP p), (13, vP ba)] [.pts rb [vI a, .bool false] 214, Ebed9f ba A, E632c4 A, E64beb p c cl tp ep (.func (.func 127) #[] #[]) (vP kb) gp (vP rb) sl bk er])) (by kernel_rfl) ?_
  refine ok_obl rfl ?_
  refine ok_stop ?_
  refine go_call (some 14) [3, 0, 1, 2] Tryz.call127 (pReleases c p ba kb rb cl tp ep sl bk gp er a A (by first | assumption | omega | (simp only [InK] at *; omega)) (by first | assumption | omega | (simp only [InK] at *; omega)) (by first | assumption | omega | (simp only [InK] at *; omega))) (by kernel_rfl) ?_
  rintro v post ⟨rfl, rfl⟩
  refine go_exec (rs := [.tmp 4]) (by kernel_rfl) 4000 [.z [0, 1, 1] 1 [15]] (o := .stop [.o [0, 1, 1] 1, .c [1, 1, 1]] [(15, vP p)] [E64beb p c cl tp ep (.nilFunc) (vP kb) gp (vP rb) (-1) bk er, .pts rb [vI a, .bool true] 214, Ebed9f ba (A.store a 0), E632c4 (A.store a 0)]) (by kernel_rfl) ?_
  refine ok_stop ?_
  refine go_call (some 16) [0] Tryz.call11 (pDone0 c p kb cl tp ep (-1) bk gp (vP rb) er) (by kernel_rfl) ?_
  rintro v post ⟨rfl, rfl⟩
  refine go_exec (rs := [.tmp 4]) (by kernel_rfl) 4000 [] (o := .ret (.bool true) [.pts rb [vI a, .bool true] 214, Ebed9f ba (A.store a 0), E632c4 (A.store a 0), E64beb p c cl tp ep (.nilFunc) (vP kb) gp (vP rb) (-1) bk er]) (by kernel_rfl) ?_
  exact ret_ok (post := [E64beb p c cl tp ep (.nilFunc) (vP kb) gp (vP rb) (-1) bk er, .pts rb [vI a, .bool true] 214, Ebed9f ba (A.store a 0), E632c4 (A.store a 0)]) [3, 0, 1, 2] (by kernel_rfl) ⟨rfl, (by kernel_rfl)⟩


noncomputable def B7 : Code := (Tryz.f7.body).getD .skip

theorem pTold0 (c : Cfg) (p kb : Nat) (cl tp ep sl bk : Int) (gp rp er : Value)  :
    Ctr Tryz.prog 7 #[vP p] [E64beb p c cl tp ep (.nilFunc) (vP kb) gp rp sl bk er] (Ret (.tuple #[vI sl, vI bk, er]) [E64beb p c cl tp ep (.nilFunc) (vP kb) gp rp sl bk er]) := by
  refine ctr_of (args := [vP p]) (fn := Tryz.f7) (body := B7) (nt := 26) Tryz.func7 (by kernel_rfl) (by kernel_rfl) ?_
  intro F
  refine go_exec (rs := [.tmp 2, .tmp 3, .tmp 4]) (by kernel_rfl) 4000 [.z [0, 1, 1, 0, 0, 1] 1 [0, 10]] (o := .stop [.o [0, 1, 1, 0, 0, 1] 1, .c [1, 1, 1, 0, 0, 1], .b 0, .c [1, 1]] [(0, vP p), (10, vP p)] [E64beb p c cl tp ep (.nilFunc) (vP kb) gp rp sl bk er]) (by kernel_rfl) ?_
  refine ok_stop ?_
  refine go_call (some 11) [0] Tryz.call11 (pDone0 c p kb cl tp ep sl bk gp rp er) (by kernel_rfl) ?_
  rintro v post ⟨rfl, rfl⟩
  refine go_exec (rs := [.tmp 2, .tmp 3, .tmp 4]) (by kernel_rfl) 4000 [.z [0, 1, 1] 0 [0]] (o := .stop [.c [0, 1, 1], .c [1, 1, 1]] [(0, vP p)] [E64beb p c cl tp ep (.nilFunc) (vP kb) gp rp sl bk er]) (by kernel_rfl) ?_
  refine ok_stop ?_
  refine go_quiet (tm' := [(2, vI sl), (3, vI bk), (4, er)]) (ps := [p = p, p = p, p = p]) (cs := []) [(0, .h .w), (1, .h .w), (2, .h .w), (3, .h (.e 0)), (4, .h .w), (5, .h .w), (6, .h .w), (7, .h (.e 0)), (8, .h .w), (9, .h .w), (10, .h .w), (11, .h (.e 0)), (12, .h .w), (13, .h .w), (14, .h .w)] [2, 3, 4] (by kernel_rfl) (by kernel_rfl) ⟨rfl, rfl, rfl, trivial⟩ trivial ?_
  refine go_exec (rs := [.tmp 2, .tmp 3, .tmp 4]) (by kernel_rfl) 4000 [] (o := .ret (.tuple #[vI sl, vI bk, er]) [E64beb p c cl tp ep (.nilFunc) (vP kb) gp rp sl bk er]) (by kernel_rfl) ?_
  exact ret_ok (post := [E64beb p c cl tp ep (.nilFunc) (vP kb) gp rp sl bk er]) [0] (by kernel_rfl) ⟨rfl, (by kernel_rfl)⟩


theorem pTold1 (c : Cfg) (p kb : Nat) (cl tp ep sl bk : Int) (gp rp er : Value)  :
    Ctr Tryz.prog 7 #[vP p] [E64beb p c cl tp ep (.func (.func 47) #[] #[]) (vP kb) gp rp sl bk er] (Ret (.tuple #[vI (-1), vI 0, .iface 46 (vI 13)]) [E64beb p c cl tp ep (.func (.func 47) #[] #[]) (vP kb) gp rp sl bk er]) := by
  refine ctr_of (args := [vP p]) (fn := Tryz.f7) (body := B7) (nt := 26) Tryz.func7 (by kernel_rfl) (by kernel_rfl) ?_
  intro F
  refine go_exec (rs := [.tmp 2, .tmp 3, .tmp 4]) (by kernel_rfl) 4000 [.z [0, 1, 1, 0, 0, 1] 1 [0, 10]] (o := .stop [.o [0, 1, 1, 0, 0, 1] 1, .c [1, 1, 1, 0, 0, 1], .b 0, .c [1, 1]] [(0, vP p), (10, vP p)] [E64beb p c cl tp ep (.func (.func 47) #[] #[]) (vP kb) gp rp sl bk er]) (by kernel_rfl) ?_
  refine ok_stop ?_
  refine go_call (some 11) [0] Tryz.call11 (pDone1 c p kb cl tp ep sl bk gp rp er) (by kernel_rfl) ?_
  rintro v post ⟨rfl, rfl⟩
  refine go_exec (rs := [.tmp 2, .tmp 3, .tmp 4]) (by kernel_rfl) 4000 [.z q52_1 0 []] (o := .stop [.o q52_1 0, .c q52_2, .b 0, .c [1, 1]] [] [E64beb p c cl tp ep (.func (.func 47) #[] #[]) (vP kb) gp rp sl bk er]) (by kernel_rfl) ?_
  refine ok_stop ?_
  refine go_call (some 13) [] Tryz.call36 (cause_NewE 13 (by decide)) (by kernel_rfl) ?_
  rintro v post ⟨rfl, rfl⟩
  refine go_exec (rs := [.tmp 2, .tmp 3, .tmp 4]) (by kernel_rfl) 4000 [] (o := .ret (.tuple #[vI (-1), vI 0, .iface 46 (vI 13)]) [E64beb p c cl tp ep (.func (.func 47) #[] #[]) (vP kb) gp rp sl bk er]) (by kernel_rfl) ?_
  exact ret_ok (post := [E64beb p c cl tp ep (.func (.func 47) #[] #[]) (vP kb) gp rp sl bk er]) [0] (by kernel_rfl) ⟨rfl, (by kernel_rfl)⟩


theorem pTold2 (c : Cfg) (p kb : Nat) (cl tp ep sl bk : Int) (gp rp er : Value)  :
    Ctr Tryz.prog 7 #[vP p] [E64beb p c cl tp ep (.func (.func 93) #[] #[]) (vP kb) gp rp sl bk er] (Ret (.tuple #[vI (-1), vI 0, .iface 46 (vI 13)]) [E64beb p c cl tp ep (.func (.func 93) #[] #[]) (vP kb) gp rp sl bk er]) := by
  refine ctr_of (args := [vP p]) (fn := Tryz.f7) (body := B7) (nt := 26) Tryz.func7 (by kernel_rfl) (by kernel_rfl) ?_
  intro F
  refine go_exec (rs := [.tmp 2, .tmp 3, .tmp 4]) (by kernel_rfl) 4000 [.z [0, 1, 1, 0, 0, 1] 1 [0, 10]] (o := .stop [.o [0, 1, 1, 0, 0, 1] 1, .c [1, 1, 1, 0, 0, 1], .b 0, .c [1, 1]] [(0, vP p), (10, vP p)] [E64beb p c cl tp ep (.func (.func 93) #[] #[]) (vP kb) gp rp sl bk er]) (by kernel_rfl) ?_
  refine ok_stop ?_
  refine go_call (some 11) [0] Tryz.call11 (pDone2 c p kb cl tp ep sl bk gp rp er) (by kernel_rfl) ?_
  rintro v post ⟨rfl, rfl⟩
  refine go_exec (rs := [.tmp 2, .tmp 3, .tmp 4]) (by kernel_rfl) 4000 [.z q52_1 0 []] (o := .stop [.o q52_1 0, .c q52_2, .b 0, .c [1, 1]] [] [E64beb p c cl tp ep (.func (.func 93) #[] #[]) (vP kb) gp rp sl bk er]) (by kernel_rfl) ?_
  refine ok_stop ?_
  refine go_call (some 13) [] Tryz.call36 (cause_NewE 13 (by decide)) (by kernel_rfl) ?_
  rintro v post ⟨rfl, rfl⟩
  refine go_exec (rs := [.tmp 2, .tmp 3, .tmp 4]) (by kernel_rfl) 4000 [] (o := .ret (.tuple #[vI (-1), vI 0, .iface 46 (vI 13)]) [E64beb p c cl tp ep (.func (.func 93) #[] #[]) (vP kb) gp rp sl bk er]) (by kernel_rfl) ?_
  exact ret_ok (post := [E64beb p c cl tp ep (.func (.func 93) #[] #[]) (vP kb) gp rp sl bk er]) [0] (by kernel_rfl) ⟨rfl, (by kernel_rfl)⟩


theorem pTold3 (c : Cfg) (p kb : Nat) (cl tp ep sl bk : Int) (gp rp er : Value)  :
    Ctr Tryz.prog 7 #[vP p] [E64beb p c cl tp ep (.func (.func 127) #[] #[]) (vP kb) gp rp sl bk er] (Ret (.tuple #[vI (-1), vI 0, .iface 46 (vI 13)]) [E64beb p c cl tp ep (.func (.func 127) #[] #[]) (vP kb) gp rp sl bk er]) := by
  refine ctr_of (args := [vP p]) (fn := Tryz.f7) (body := B7) (nt := 26) Tryz.func7 (by kernel_rfl) (by kernel_rfl) ?_
  intro F
  refine go_exec (rs := [.tmp 2, .tmp 3, .tmp 4]) (by kernel_rfl) 4000 [.z [0, 1, 1, 0, 0, 1] 1 [0, 10]] (o := .stop [.o [0, 1, 1, 0, 0, 1] 1, .c [1, 1, 1, 0, 0, 1], .b 0, .c [1, 1]] [(0, vP p), (10, vP p)] [E64beb p c cl tp ep (.func (.func 127) #[] #[]) (vP kb) gp rp sl bk er]) (by kernel_rfl) ?_
  refine ok_stop ?_
  refine go_call (some 11) [0] Tryz.call11 (pDone3 c p kb cl tp ep sl bk gp rp er) (by kernel_rfl) ?_
  rintro v post ⟨rfl, rfl⟩
  refine go_exec (rs := [.tmp 2, .tmp 3, .tmp 4]) (by kernel_rfl) 4000 [.z q52_1 0 []] (o := .stop [.o q52_1 0, .c q52_2, .b 0, .c [1, 1]] [] [E64beb p c cl tp ep (.func (.func 127) #[] #[]) (vP kb) gp rp sl bk er]) (by kernel_rfl) ?_
  refine ok_stop ?_
  refine go_call (some 13) [] Tryz.call36 (cause_NewE 13 (by decide)) (by kernel_rfl) ?_
  rintro v post ⟨rfl, rfl⟩
  refine go_exec (rs := [.tmp 2, .tmp 3, .tmp 4]) (by kernel_rfl) 4000 [] (o := .ret (.tuple #[vI (-1), vI 0, .iface 46 (vI 13)]) [E64beb p c cl tp ep (.func (.func 127) #[] #[]) (vP kb) gp rp sl bk er]) (by kernel_rfl) ?_
  exact ret_ok (post := [E64beb p c cl tp ep (.func (.func 127) #[] #[]) (vP kb) gp rp sl bk er]) [0] (by kernel_rfl) ⟨rfl, (by kernel_rfl)⟩


noncomputable def B13 : Code := (Tryz.f13.body).getD .skip

theorem pSlot (c : Cfg) (p kb : Nat) (cl tp ep sl bk : Int) (nx gp rp er : Value)  :
    Ctr Tryz.prog 13 #[vP p] [E64beb p c cl tp ep nx (vP kb) gp rp sl bk er] (Ret (vI sl) [E64beb p c cl tp ep nx (vP kb) gp rp sl bk er]) := by
  refine ctr_of (args := [vP p]) (fn := Tryz.f13) (body := B13) (nt := 9) Tryz.func13 (by kernel_rfl) (by kernel_rfl) ?_
  intro F
  refine go_exec (rs := [.tmp 2]) (by kernel_rfl) 4000 [.e 0] (o := .obl (p = p) (.ret (vI sl) [E64beb p c cl tp ep nx (vP kb) gp rp sl bk er])) (by kernel_rfl) ?_
  refine ok_obl rfl ?_
  exact ret_ok (post := [E64beb p c cl tp ep nx (vP kb) gp rp sl bk er]) [0] (by kernel_rfl) ⟨rfl, (by kernel_rfl)⟩


noncomputable def B14 : Code := (Tryz.f14.body).getD .skip

theorem pCommit1 (c : Cfg) (p kb : Nat) (cl tp ep sl bk : Int) (gp rp er : Value)  :
    Ctr Tryz.prog 14 #[vP p] [E64beb p c cl tp ep (.func (.func 47) #[] #[]) (vP kb) gp rp sl bk er] (Ret (vI 0) [E64beb p c cl tp ep (.func (.func 47) #[] #[]) (vP kb) gp rp sl bk er]) := by
  refine ctr_of (args := [vP p]) (fn := Tryz.f14) (body := B14) (nt := 15) Tryz.func14 (by kernel_rfl) (by kernel_rfl) ?_
  intro F
  refine go_exec (rs := [.tmp 2]) (by kernel_rfl) 4000 [.z [0, 0, 1] 4 [0, 5, 6]] (o := .stop [.o [0, 0, 1] 4, .c [1, 0, 1], .c [1, 1]] [(0, vP p), (5, .bool false), (6, vP p)] [E64beb p c cl tp ep (.func (.func 47) #[] #[]) (vP kb) gp rp sl bk er]) (by kernel_rfl) ?_
  refine ok_stop ?_
  refine go_call (some 7) [0] Tryz.call11 (pDone1 c p kb cl tp ep sl bk gp rp er) (by kernel_rfl) ?_
  rintro v post ⟨rfl, rfl⟩
  refine go_exec (rs := [.tmp 2]) (by kernel_rfl) 4000 [] (o := .ret (vI 0) [E64beb p c cl tp ep (.func (.func 47) #[] #[]) (vP kb) gp rp sl bk er]) (by kernel_rfl) ?_
  exact ret_ok (post := [E64beb p c cl tp ep (.func (.func 47) #[] #[]) (vP kb) gp rp sl bk er]) [0] (by kernel_rfl) ⟨rfl, (by kernel_rfl)⟩


theorem pCommit2 (c : Cfg) (p kb : Nat) (cl tp ep sl bk : Int) (gp rp er : Value)  :
    Ctr Tryz.prog 14 #[vP p] [E64beb p c cl tp ep (.func (.func 93) #[] #[]) (vP kb) gp rp sl bk er] (Ret (vI 0) [E64beb p c cl tp ep (.func (.func 93) #[] #[]) (vP kb) gp rp sl bk er]) := by
  refine ctr_of (args := [vP p]) (fn := Tryz.f14) (body := B14) (nt := 15) Tryz.func14 (by kernel_rfl) (by kernel_rfl) ?_
  intro F
  refine go_exec (rs := [.tmp 2]) (by kernel_rfl) 4000 [.z [0, 0, 1] 4 [0, 5, 6]] (o := .stop [.o [0, 0, 1] 4, .c [1, 0, 1], .c [1, 1]] [(0, vP p), (5, .bool false), (6, vP p)] [E64beb p c cl tp ep (.func (.func 93) #[] #[]) (vP kb) gp rp sl bk er]) (by kernel_rfl) ?_
  refine ok_stop ?_
  refine go_call (some 7) [0] Tryz.call11 (pDone2 c p kb cl tp ep sl bk gp rp er) (by kernel_rfl) ?_
  rintro v post ⟨rfl, rfl⟩
  refine go_exec (rs := [.tmp 2]) (by kernel_rfl) 4000 [] (o := .ret (vI 0) [E64beb p c cl tp ep (.func (.func 93) #[] #[]) (vP kb) gp rp sl bk er]) (by kernel_rfl) ?_
  exact ret_ok (post := [E64beb p c cl tp ep (.func (.func 93) #[] #[]) (vP kb) gp rp sl bk er]) [0] (by kernel_rfl) ⟨rfl, (by kernel_rfl)⟩


theorem pCommit3 (c : Cfg) (p kb : Nat) (cl tp ep sl bk : Int) (gp rp er : Value)  :
    Ctr Tryz.prog 14 #[vP p] [E64beb p c cl tp ep (.func (.func 127) #[] #[]) (vP kb) gp rp sl bk er] (Ret (vI 0) [E64beb p c cl tp ep (.func (.func 127) #[] #[]) (vP kb) gp rp sl bk er]) := by
  refine ctr_of (args := [vP p]) (fn := Tryz.f14) (body := B14) (nt := 15) Tryz.func14 (by kernel_rfl) (by kernel_rfl) ?_
  intro F
  refine go_exec (rs := [.tmp 2]) (by kernel_rfl) 4000 [.z [0, 0, 1] 4 [0, 5, 6]] (o := .stop [.o [0, 0, 1] 4, .c [1, 0, 1], .c [1, 1]] [(0, vP p), (5, .bool false), (6, vP p)] [E64beb p c cl tp ep (.func (.func 127) #[] #[]) (vP kb) gp rp sl bk er]) (by kernel_rfl) ?_
  refine ok_stop ?_
  refine go_call (some 7) [0] Tryz.call11 (pDone3 c p kb cl tp ep sl bk gp rp er) (by kernel_rfl) ?_
  rintro v post ⟨rfl, rfl⟩
  refine go_exec (rs := [.tmp 2]) (by kernel_rfl) 4000 [] (o := .ret (vI 0) [E64beb p c cl tp ep (.func (.func 127) #[] #[]) (vP kb) gp rp sl bk er]) (by kernel_rfl) ?_
  exact ret_ok (post := [E64beb p c cl tp ep (.func (.func 127) #[] #[]) (vP kb) gp rp sl bk er]) [0] (by kernel_rfl) ⟨rfl, (by kernel_rfl)⟩


theorem pCommit0N (c : Cfg) (p kb : Nat) (cl tp ep sl bk : Int) (rp er : Value)  :
    Ctr Tryz.prog 14 #[vP p] [E64beb p c cl tp ep (.nilFunc) (vP kb) (.pointer none) rp sl bk er] (Ret (vI 0) [E64beb p c cl tp ep (.nilFunc) (vP kb) (.pointer none) rp sl bk er]) := by
  refine ctr_of (args := [vP p]) (fn := Tryz.f14) (body := B14) (nt := 15) Tryz.func14 (by kernel_rfl) (by kernel_rfl) ?_
  intro F
  refine go_exec (rs := [.tmp 2]) (by kernel_rfl) 4000 [.z [0, 0, 1] 4 [0, 5, 6]] (o := .stop [.o [0, 0, 1] 4, .c [1, 0, 1], .c [1, 1]] [(0, vP p), (5, .bool false), (6, vP p)] [E64beb p c cl tp ep (.nilFunc) (vP kb) (.pointer none) rp sl bk er]) (by kernel_rfl) ?_
  refine ok_stop ?_
  refine go_call (some 7) [0] Tryz.call11 (pDone0 c p kb cl tp ep sl bk (.pointer none) rp er) (by kernel_rfl) ?_
  rintro v post ⟨rfl, rfl⟩
  refine go_exec (rs := [.tmp 2]) (by kernel_rfl) 4000 [.e 0, .z [0, 1, 1] 4 [13]] (o := .obl (p = p) (.stop [.o [0, 1, 1] 4, .c [1, 1, 1]] [(13, .pointer none)] [E64beb p c cl tp ep (.nilFunc) (vP kb) (.pointer none) rp sl bk er])) (by kernel_rfl) ?_
  refine ok_obl rfl ?_
  refine ok_stop ?_
  refine go_call (some 14) [] Tryz.call39 (gCommit_nil) (by kernel_rfl) ?_
  rintro v post ⟨rfl, rfl⟩
  refine go_exec (rs := [.tmp 2]) (by kernel_rfl) 4000 [] (o := .ret (vI 0) [E64beb p c cl tp ep (.nilFunc) (vP kb) (.pointer none) rp sl bk er]) (by kernel_rfl) ?_
  exact ret_ok (post := [E64beb p c cl tp ep (.nilFunc) (vP kb) (.pointer none) rp sl bk er]) [0] (by kernel_rfl) ⟨rfl, (by kernel_rfl)⟩


theorem pCommit0S (c : Cfg) (p kb gb : Nat) (cl tp ep sl bk : Int) (rp er : Value) (G : Gu) (hph : G.ph ≤ 3) :
    Ctr Tryz.prog 14 #[vP p] [E64beb p c cl tp ep (.nilFunc) (vP kb) (vP gb) rp sl bk er, E6f719 gb c G gb] (Ret (vI (Gu.comm G)) [E64beb p c cl tp ep (.nilFunc) (vP kb) (vP gb) rp sl bk er, E6f719 gb c G gb]) := by
  refine ctr_of (args := [vP p]) (fn := Tryz.f14) (body := B14) (nt := 15) Tryz.func14 (by kernel_rfl) (by kernel_rfl) ?_
  intro F
  refine go_exec (rs := [.tmp 2]) (by kernel_rfl) 4000 [.z [0, 0, 1] 4 [0, 5, 6]] (o := .stop [.o [0, 0, 1] 4, .c [1, 0, 1], .c [1, 1]] [(0, vP p), (5, .bool false), (6, vP p)] [E64beb p c cl tp ep (.nilFunc) (vP kb) (vP gb) rp sl bk er, E6f719 gb c G gb]) (by kernel_rfl) ?_
  refine ok_stop ?_
  refine go_call (some 7) [0] Tryz.call11 (pDone0 c p kb cl tp ep sl bk (vP gb) rp er) (by kernel_rfl) ?_
  rintro v post ⟨rfl, rfl⟩
  refine go_exec (rs := [.tmp 2]) (by kernel_rfl) 4000 [.e 1, .z [0, 1, 1] 4 [13]] (o := .obl (p = p) (.stop [.o [0, 1, 1] 4, .c [1, 1, 1]] [(13, vP gb)] [E6f719 gb c G gb, E64beb p c cl tp ep (.nilFunc) (vP kb) (vP gb) rp sl bk er])) (by kernel_rfl) ?_
  refine ok_obl rfl ?_
  refine ok_stop ?_
  refine go_call (some 14) [0] Tryz.call39 (guard_Commit c gb G (by first | assumption | omega | (simp only [InK] at *; omega))) (by kernel_rfl) ?_
  rintro v post ⟨rfl, rfl⟩
  refine go_exec (rs := [.tmp 2]) (by kernel_rfl) 4000 [] (o := .ret (vI (Gu.comm G)) [E64beb p c cl tp ep (.nilFunc) (vP kb) (vP gb) rp sl bk er, E6f719 gb c G gb]) (by kernel_rfl) ?_
  exact ret_ok (post := [E64beb p c cl tp ep (.nilFunc) (vP kb) (vP gb) rp sl bk er, E6f719 gb c G gb]) [0, 1] (by kernel_rfl) ⟨rfl, (by kernel_rfl)⟩


end Go.Proofs.YtiiepkjckmdmkaaGreatDoor


namespace Go.Proofs.YtiiepkjckmdmkaaGreatDoor
open Go.Sx
noncomputable abbrev E73368 (x0 : Nat) (c1 : Cfg) (x2 : Int) (x3 : Int) (x4 : Int) (p5 : Pn) (x6 : Value) (x7 : Nat) (x8 : Nat) : Ent := .pts x0 [.int .i64 c1.topics, .int .i64 c1.small, .int .i64 c1.slots, .int .i64 c1.clients, .int .i64 c1.s0, .int .i64 c1.n0, .int .i64 c1.s1, .int .i64 c1.n1, .int .i64 c1.retry, .int .i64 x2, .int .i64 x3, .int .i64 x4, (nxP p5.ph), x6, (gpO x7 p5.gu), (rpO x8 p5.rl), .int .i64 p5.slot, .int .i64 p5.block, (errV p5.code)] 95
noncomputable abbrev Ea3da3 (x0 : Nat) (c1 : Cfg) (x2 : Int) (x3 : Int) (x4 : Int) (x5 : Nat) (x6 : Value) (x7 : Value) (x8 : Value) (x9 : Int) (x10 : Int) (x11 : Value) : Ent := .pts x0 [.int .i64 c1.topics, .int .i64 c1.small, .int .i64 c1.slots, .int .i64 c1.clients, .int .i64 c1.s0, .int .i64 c1.n0, .int .i64 c1.s1, .int .i64 c1.n1, .int .i64 c1.retry, .int .i64 x2, .int .i64 x3, .int .i64 x4, (nxP x5), x6, x7, x8, .int .i64 x9, .int .i64 x10, x11] 95

noncomputable def guL (c : Cfg) (b : Nat) : Option Gu → List Ent
  | none => []
  | some G => [E6f719 b c G b]
noncomputable def rlL (b : Nat) : Option (Int × Bool) → List Ent
  | none => []
  | some x => [.pts b [vI x.1, .bool x.2] 214]
structure PnH where
  kb : Nat
  gb : Nat
  rb : Nat
noncomputable def pnL (p : Nat) (c : Cfg) (cl tp ep : Int) (S : Pn) (h : PnH) : List Ent :=
  [E73368 p c cl tp ep S (vP h.kb) h.gb h.rb, E85b39 h.kb c S.cl, .res (dens (guL c h.gb S.gu)), .res (dens (rlL h.rb S.rl))]
noncomputable def PnR (p : Nat) (c : Cfg) (cl tp ep : Int) (S : Pn) : Res := Box (fun _ : PnH => True) (pnL p c cl tp ep S)

theorem pin_Step (c : Cfg) (p ba : Nat) (cl tp ep : Int) (S : Pn) (A : Ar) (hc : c.Ok) (hn : A.ws.length = A.n) (hs : 0 ≤ A.steps ∧ A.steps ≤ 1000000000) (hz : (A.n : Int) = sizeOfC c) (hR : RngW A.ws) (hS : Pn.Ok c cl A.n S) (htp : 0 ≤ tp ∧ tp < c.topics) :
    Ctr Tryz.prog 10 #[vP p, vP ba] [.res (PnR p c cl tp ep S), Ebed9f ba A, E632c4 A] (Ret (.bool ((S.step c cl tp ep A).1.ph == 0)) [.res (PnR p c cl tp ep ((S.step c cl tp ep A).1)), Ebed9f ba ((S.step c cl tp ep A).2), E632c4 ((S.step c cl tp ep A).2)]) := by
  refine ctr_open (I := fun _ : PnH => True) (LL := pnL p c cl tp ep S) (M := [Ebed9f ba A, E632c4 A]) 0 (by kernel_rfl) ?_
  rintro ⟨kb, gb, rb⟩ -
  obtain ⟨K, gu, rl, sl, bk, cd, ph⟩ := S
  obtain ⟨h1, h2, h3, h4, h5, h6, h7, h8, h9, h10, h11⟩ := hS
  simp only at h1 h2 h3 h4 h5 h6 h7 h8 h9 h10 h11
  match ph, h1 with
  | 0, _ =>
    refine ctr_post (ctr_frame [2, 0, 1] (by kernel_rfl) (pStep0 c p ba kb cl tp ep sl bk (gpO gb gu) (rpO rb rl) (errV cd) A)) ?_
    rintro v L ⟨post, ⟨rfl, rfl⟩, rfl⟩
    exact ⟨_, (view_pack (fun _ : PnH => True) (pnL p c cl tp ep (⟨K, gu, rl, sl, bk, cd, 0⟩ : Pn)) ⟨kb, gb, rb⟩ (M := [Ebed9f ba A, E632c4 A]) [3, 0, 1, 2] (by kernel_rfl) trivial).trans (view_pick [2, 0, 1] (by kernel_rfl)), rfl, rfl⟩
  | 1, _ =>
    obtain ⟨e1, e2, e3, e4⟩ := h5 rfl
    subst e1; subst e2
    have hk : Cl.Ok c (Cl.step c K A).1 := (cl_step (k := A.steps) hc h2 ⟨hn, hz, hR, hs.1, Int.le_refl _⟩).1
    have hcl : 0 ≤ cl ∧ cl < c.clients := by have := h2.client; rw [h3] at this; exact this
    by_cases ha : (Cl.step c K A).1.at_ = -1
    · by_cases hq : (Cl.step c K A).1.slot = -1
      · skip
        have e : Pn.step c cl tp ep (⟨K, none, none, sl, bk, cd, 1⟩ : Pn) A = ((⟨(Cl.step c K A).1, none, none, (Cl.step c K A).1.slot, bk, 19, 0⟩ : Pn), (Cl.step c K A).2) := by unfold Pn.step; simp only; rw [if_pos ha, if_pos hq, hq]
        rw [e]
        refine ctr_post (ctr_frame [2, 3, 0, 1] (by kernel_rfl) (pStep1N c p ba kb cl tp ep sl bk (.pointer none) (.pointer none) (errV cd) K A hc hn hs hz h2 ha hq)) ?_
        rintro v L ⟨post, ⟨rfl, rfl⟩, rfl⟩
        exact ⟨_, (view_pack (fun _ : PnH => True) (pnL p c cl tp ep (⟨(Cl.step c K A).1, none, none, (Cl.step c K A).1.slot, bk, 19, 0⟩ : Pn)) ⟨kb, gb, rb⟩ (M := [Ebed9f ba ((Cl.step c K A).2), E632c4 ((Cl.step c K A).2)]) [2, 3, 0, 1] (by kernel_rfl) trivial).trans (view_pick [2, 0, 1] (by kernel_rfl)), rfl, rfl⟩
      · skip
        have e : Pn.step c cl tp ep (⟨K, none, none, sl, bk, cd, 1⟩ : Pn) A = ((⟨(Cl.step c K A).1, (some (newGu c cl (Cl.step c K A).1.slot tp ep)), none, (Cl.step c K A).1.slot, bk, cd, 2⟩ : Pn), (Cl.step c K A).2) := by unfold Pn.step; simp only; rw [if_pos ha, if_neg hq]
        rw [e]
        refine ctr_post (ctr_frame [2, 3, 0, 1] (by kernel_rfl) (pStep1Y c p ba kb cl tp ep sl bk (.pointer none) (.pointer none) (errV cd) K A hc hn hs hz h2 ha hq (hk.slot.resolve_left hq) hcl htp)) ?_
        rintro v L ⟨post, ⟨g2, rfl, rfl⟩, rfl⟩
        exact ⟨_, (view_fold (e := E6f719 g2 c (newGu c cl (Cl.step c K A).1.slot tp ep) g2) 6 (by kernel_rfl)).trans ((view_pack (fun _ : PnH => True) (pnL p c cl tp ep (⟨(Cl.step c K A).1, (some (newGu c cl (Cl.step c K A).1.slot tp ep)), none, (Cl.step c K A).1.slot, bk, cd, 2⟩ : Pn)) ⟨kb, g2, rb⟩ (M := [.res (dens [])] ++ [Ebed9f ba ((Cl.step c K A).2), E632c4 ((Cl.step c K A).2)]) [2, 3, 6, 1] (by kernel_rfl) trivial).trans (view_pick [3, 1, 2] (by kernel_rfl))), rfl, rfl⟩
    · skip
      have e : Pn.step c cl tp ep (⟨K, none, none, sl, bk, cd, 1⟩ : Pn) A = ((⟨(Cl.step c K A).1, none, none, sl, bk, cd, 1⟩ : Pn), (Cl.step c K A).2) := by unfold Pn.step; simp only; rw [if_neg ha]
      rw [e]
      refine ctr_post (ctr_frame [2, 3, 0, 1] (by kernel_rfl) (pStep1W c p ba kb cl tp ep sl bk (.pointer none) (.pointer none) (errV cd) K A hc hn hs hz h2 ha)) ?_
      rintro v L ⟨post, ⟨rfl, rfl⟩, rfl⟩
      exact ⟨_, (view_pack (fun _ : PnH => True) (pnL p c cl tp ep (⟨(Cl.step c K A).1, none, none, sl, bk, cd, 1⟩ : Pn)) ⟨kb, gb, rb⟩ (M := [Ebed9f ba ((Cl.step c K A).2), E632c4 ((Cl.step c K A).2)]) [2, 3, 0, 1] (by kernel_rfl) trivial).trans (view_pick [2, 0, 1] (by kernel_rfl)), rfl, rfl⟩
  | 2, _ =>
    obtain ⟨⟨G, e1, e2, e4⟩, e3⟩ := h6 rfl
    subst e1; subst e3
    have hsl : 0 ≤ sl ∧ sl < c.slots := h9.resolve_left (h10 (.inl rfl))
    by_cases hd : (Gu.step c.retry G A).1.ph = 0
    · by_cases he : (Gu.step c.retry G A).1.code = 0
      · skip
        have e : Pn.step c cl tp ep (⟨K, (some G), none, sl, bk, cd, 2⟩ : Pn) A = ((⟨K, (some (Gu.step c.retry G A).1), none, sl, (Gu.step c.retry G A).1.block, 0, 0⟩ : Pn), (Gu.step c.retry G A).2) := by unfold Pn.step; simp only; rw [if_pos hd, if_pos he]
        rw [e]
        refine ctr_view (view_unfold (e := E6f719 gb c G gb) 4 (by kernel_rfl)) ?_
        refine ctr_post (ctr_frame [2, 4, 0, 1] (by kernel_rfl) (pStep2K c p ba kb gb cl tp ep sl bk (.pointer none) (errV cd) G A hc hn hs hR (h4 G rfl) hd he)) ?_
        rintro v L ⟨post, ⟨rfl, rfl⟩, rfl⟩
        exact ⟨_, (view_fold (e := E6f719 gb c ((Gu.step c.retry G A).1) gb) 3 (by kernel_rfl)).trans ((view_pack (fun _ : PnH => True) (pnL p c cl tp ep (⟨K, (some (Gu.step c.retry G A).1), none, sl, (Gu.step c.retry G A).1.block, 0, 0⟩ : Pn)) ⟨kb, gb, rb⟩ (M := [Ebed9f ba ((Gu.step c.retry G A).2), E632c4 ((Gu.step c.retry G A).2)]) [2, 0, 3, 1] (by kernel_rfl) trivial).trans (view_pick [2, 0, 1] (by kernel_rfl))), rfl, rfl⟩
      · skip
        have e : Pn.step c cl tp ep (⟨K, (some G), none, sl, bk, cd, 2⟩ : Pn) A = ((⟨K, (some (Gu.step c.retry G A).1), (some (slotAt c sl, false)), sl, (Gu.step c.retry G A).1.block, (Gu.step c.retry G A).1.code, 3⟩ : Pn), (Gu.step c.retry G A).2) := by unfold Pn.step; simp only; rw [if_pos hd, if_neg he]
        rw [e]
        refine ctr_view (view_unfold (e := E6f719 gb c G gb) 4 (by kernel_rfl)) ?_
        refine ctr_post (ctr_frame [2, 4, 0, 1] (by kernel_rfl) (pStep2E c p ba kb gb cl tp ep sl bk (.pointer none) (errV cd) G A hc hn hs hR (h4 G rfl) hd he hsl)) ?_
        rintro v L ⟨post, ⟨r2, rfl, rfl⟩, rfl⟩
        exact ⟨_, (view_fold (e := E6f719 gb c ((Gu.step c.retry G A).1) gb) 3 (by kernel_rfl)).trans ((view_fold (e := .pts r2 [vI (slotAt c sl), .bool false] 214) 6 (by kernel_rfl)).trans ((view_set (Eq.trans (by kernel_rfl) (congrArg (fun v : Value => [E85b39 kb c K, .res (dens []), Ea3da3 p c cl tp ep 3 (vP kb) (vP gb) (vP r2) sl ((Gu.step c.retry G A).1.block) v, .res (dens [E6f719 gb c ((Gu.step c.retry G A).1) gb]), Ebed9f ba ((Gu.step c.retry G A).2), E632c4 ((Gu.step c.retry G A).2), .res (dens [.pts r2 [vI (slotAt c sl), .bool false] 214])]) (errV_ne he).symm))).trans ((view_pack (fun _ : PnH => True) (pnL p c cl tp ep (⟨K, (some (Gu.step c.retry G A).1), (some (slotAt c sl, false)), sl, (Gu.step c.retry G A).1.block, (Gu.step c.retry G A).1.code, 3⟩ : Pn)) ⟨kb, gb, r2⟩ (M := [.res (dens [])] ++ [Ebed9f ba ((Gu.step c.retry G A).2), E632c4 ((Gu.step c.retry G A).2)]) [2, 0, 3, 6] (by kernel_rfl) trivial).trans (view_pick [3, 1, 2] (by kernel_rfl))))), rfl, rfl⟩
    · skip
      rw [show ((Pn.step c cl tp ep (⟨K, (some G), none, sl, bk, cd, 2⟩ : Pn) A).1.ph == 0) = false by unfold Pn.step; simp only; rw [if_neg hd]; rfl]
      have e : Pn.step c cl tp ep (⟨K, (some G), none, sl, bk, cd, 2⟩ : Pn) A = ((⟨K, (some (Gu.step c.retry G A).1), none, sl, bk, cd, 2⟩ : Pn), (Gu.step c.retry G A).2) := by unfold Pn.step; simp only; rw [if_neg hd]
      rw [e]
      refine ctr_view (view_unfold (e := E6f719 gb c G gb) 4 (by kernel_rfl)) ?_
      refine ctr_post (ctr_frame [2, 4, 0, 1] (by kernel_rfl) (pStep2W c p ba kb gb cl tp ep sl bk (.pointer none) (errV cd) G A hc hn hs hR (h4 G rfl) hd)) ?_
      rintro v L ⟨post, ⟨rfl, rfl⟩, rfl⟩
      exact ⟨_, (view_fold (e := E6f719 gb c ((Gu.step c.retry G A).1) gb) 3 (by kernel_rfl)).trans ((view_pack (fun _ : PnH => True) (pnL p c cl tp ep (⟨K, (some (Gu.step c.retry G A).1), none, sl, bk, cd, 2⟩ : Pn)) ⟨kb, gb, rb⟩ (M := [Ebed9f ba ((Gu.step c.retry G A).2), E632c4 ((Gu.step c.retry G A).2)]) [2, 0, 3, 1] (by kernel_rfl) trivial).trans (view_pick [2, 0, 1] (by kernel_rfl))), rfl, rfl⟩
  | 3, _ =>
    have e1 := h7 rfl
    subst e1
    have hsl : 0 ≤ sl ∧ sl < c.slots := h9.resolve_left (h10 (.inr rfl))
    have hi : 0 ≤ slotAt c sl ∧ slotAt c sl < A.n := by have := slotAt_ok hc hsl; omega
    have e : Pn.step c cl tp ep (⟨K, gu, (some (slotAt c sl, false)), sl, bk, cd, 3⟩ : Pn) A = ((⟨K, gu, (some (slotAt c sl, true)), (-1), bk, cd, 0⟩ : Pn), A.store (slotAt c sl) 0) := rfl
    rw [e]
    refine ctr_view (view_unfold (e := .pts rb [vI (slotAt c sl), .bool false] 214) 5 (by kernel_rfl)) ?_
    refine ctr_post (ctr_frame [2, 5, 0, 1] (by kernel_rfl) (pStep3 c p ba kb rb cl tp ep sl bk (gpO gb gu) (errV cd) (slotAt c sl) A hn hs hi)) ?_
    rintro v L ⟨post, ⟨rfl, rfl⟩, rfl⟩
    exact ⟨_, (view_fold (e := .pts rb [vI (slotAt c sl), .bool true] 214) 3 (by kernel_rfl)).trans ((view_pack (fun _ : PnH => True) (pnL p c cl tp ep (⟨K, gu, (some (slotAt c sl, true)), (-1), bk, cd, 0⟩ : Pn)) ⟨kb, gb, rb⟩ (M := [Ebed9f ba (A.store (slotAt c sl) 0), E632c4 (A.store (slotAt c sl) 0)]) [2, 0, 1, 3] (by kernel_rfl) trivial).trans (view_pick [2, 0, 1] (by kernel_rfl))), rfl, rfl⟩
  | n + 4, h => omega


theorem pin_Done (c : Cfg) (p : Nat) (cl tp ep : Int) (S : Pn) (hph : S.ph ≤ 3) :
    Ctr Tryz.prog 11 #[vP p] [.res (PnR p c cl tp ep S)] (Ret (.bool (S.ph == 0)) [.res (PnR p c cl tp ep S)]) := by
  refine ctr_open (I := fun _ : PnH => True) (LL := pnL p c cl tp ep S) (M := []) 0 (by kernel_rfl) ?_
  rintro ⟨kb, gb, rb⟩ -
  obtain ⟨K, gu, rl, sl, bk, cd, ph⟩ := S
  simp only at hph
  match ph, hph with
  | 0, _ =>
    refine ctr_post (ctr_frame [0] (by kernel_rfl) (pDone0 c p kb cl tp ep sl bk (gpO gb gu) (rpO rb rl) (errV cd))) ?_
    rintro v L ⟨post, ⟨rfl, rfl⟩, rfl⟩
    exact ⟨_, view_pack (fun _ : PnH => True) (pnL p c cl tp ep (⟨K, gu, rl, sl, bk, cd, 0⟩ : Pn)) ⟨kb, gb, rb⟩ (M := []) [3, 0, 1, 2] (by kernel_rfl) trivial, rfl, rfl⟩
  | 1, _ =>
    refine ctr_post (ctr_frame [0] (by kernel_rfl) (pDone1 c p kb cl tp ep sl bk (gpO gb gu) (rpO rb rl) (errV cd))) ?_
    rintro v L ⟨post, ⟨rfl, rfl⟩, rfl⟩
    exact ⟨_, view_pack (fun _ : PnH => True) (pnL p c cl tp ep (⟨K, gu, rl, sl, bk, cd, 1⟩ : Pn)) ⟨kb, gb, rb⟩ (M := []) [3, 0, 1, 2] (by kernel_rfl) trivial, rfl, rfl⟩
  | 2, _ =>
    refine ctr_post (ctr_frame [0] (by kernel_rfl) (pDone2 c p kb cl tp ep sl bk (gpO gb gu) (rpO rb rl) (errV cd))) ?_
    rintro v L ⟨post, ⟨rfl, rfl⟩, rfl⟩
    exact ⟨_, view_pack (fun _ : PnH => True) (pnL p c cl tp ep (⟨K, gu, rl, sl, bk, cd, 2⟩ : Pn)) ⟨kb, gb, rb⟩ (M := []) [3, 0, 1, 2] (by kernel_rfl) trivial, rfl, rfl⟩
  | 3, _ =>
    refine ctr_post (ctr_frame [0] (by kernel_rfl) (pDone3 c p kb cl tp ep sl bk (gpO gb gu) (rpO rb rl) (errV cd))) ?_
    rintro v L ⟨post, ⟨rfl, rfl⟩, rfl⟩
    exact ⟨_, view_pack (fun _ : PnH => True) (pnL p c cl tp ep (⟨K, gu, rl, sl, bk, cd, 3⟩ : Pn)) ⟨kb, gb, rb⟩ (M := []) [3, 0, 1, 2] (by kernel_rfl) trivial, rfl, rfl⟩
  | n + 4, h => omega


theorem pin_Told (c : Cfg) (p : Nat) (cl tp ep : Int) (S : Pn) (hph : S.ph ≤ 3) :
    Ctr Tryz.prog 7 #[vP p] [.res (PnR p c cl tp ep S)] (Ret (.tuple #[vI ((Pn.told S).1), vI ((Pn.told S).2.1), (errV (Pn.told S).2.2)]) [.res (PnR p c cl tp ep S)]) := by
  refine ctr_open (I := fun _ : PnH => True) (LL := pnL p c cl tp ep S) (M := []) 0 (by kernel_rfl) ?_
  rintro ⟨kb, gb, rb⟩ -
  obtain ⟨K, gu, rl, sl, bk, cd, ph⟩ := S
  simp only at hph
  match ph, hph with
  | 0, _ =>
    refine ctr_post (ctr_frame [0] (by kernel_rfl) (pTold0 c p kb cl tp ep sl bk (gpO gb gu) (rpO rb rl) (errV cd))) ?_
    rintro v L ⟨post, ⟨rfl, rfl⟩, rfl⟩
    exact ⟨_, view_pack (fun _ : PnH => True) (pnL p c cl tp ep (⟨K, gu, rl, sl, bk, cd, 0⟩ : Pn)) ⟨kb, gb, rb⟩ (M := []) [3, 0, 1, 2] (by kernel_rfl) trivial, rfl, rfl⟩
  | 1, _ =>
    refine ctr_post (ctr_frame [0] (by kernel_rfl) (pTold1 c p kb cl tp ep sl bk (gpO gb gu) (rpO rb rl) (errV cd))) ?_
    rintro v L ⟨post, ⟨rfl, rfl⟩, rfl⟩
    exact ⟨_, view_pack (fun _ : PnH => True) (pnL p c cl tp ep (⟨K, gu, rl, sl, bk, cd, 1⟩ : Pn)) ⟨kb, gb, rb⟩ (M := []) [3, 0, 1, 2] (by kernel_rfl) trivial, rfl, rfl⟩
  | 2, _ =>
    refine ctr_post (ctr_frame [0] (by kernel_rfl) (pTold2 c p kb cl tp ep sl bk (gpO gb gu) (rpO rb rl) (errV cd))) ?_
    rintro v L ⟨post, ⟨rfl, rfl⟩, rfl⟩
    exact ⟨_, view_pack (fun _ : PnH => True) (pnL p c cl tp ep (⟨K, gu, rl, sl, bk, cd, 2⟩ : Pn)) ⟨kb, gb, rb⟩ (M := []) [3, 0, 1, 2] (by kernel_rfl) trivial, rfl, rfl⟩
  | 3, _ =>
    refine ctr_post (ctr_frame [0] (by kernel_rfl) (pTold3 c p kb cl tp ep sl bk (gpO gb gu) (rpO rb rl) (errV cd))) ?_
    rintro v L ⟨post, ⟨rfl, rfl⟩, rfl⟩
    exact ⟨_, view_pack (fun _ : PnH => True) (pnL p c cl tp ep (⟨K, gu, rl, sl, bk, cd, 3⟩ : Pn)) ⟨kb, gb, rb⟩ (M := []) [3, 0, 1, 2] (by kernel_rfl) trivial, rfl, rfl⟩
  | n + 4, h => omega


theorem pin_Slot (c : Cfg) (p : Nat) (cl tp ep : Int) (S : Pn) (hph : S.ph ≤ 3) :
    Ctr Tryz.prog 13 #[vP p] [.res (PnR p c cl tp ep S)] (Ret (vI S.slot) [.res (PnR p c cl tp ep S)]) := by
  refine ctr_open (I := fun _ : PnH => True) (LL := pnL p c cl tp ep S) (M := []) 0 (by kernel_rfl) ?_
  rintro ⟨kb, gb, rb⟩ -
  obtain ⟨K, gu, rl, sl, bk, cd, ph⟩ := S
  simp only at hph
  match ph, hph with
  | 0, _ =>
    refine ctr_post (ctr_frame [0] (by kernel_rfl) (pSlot c p kb cl tp ep sl bk (nxP 0) (gpO gb gu) (rpO rb rl) (errV cd))) ?_
    rintro v L ⟨post, ⟨rfl, rfl⟩, rfl⟩
    exact ⟨_, view_pack (fun _ : PnH => True) (pnL p c cl tp ep (⟨K, gu, rl, sl, bk, cd, 0⟩ : Pn)) ⟨kb, gb, rb⟩ (M := []) [3, 0, 1, 2] (by kernel_rfl) trivial, rfl, rfl⟩
  | 1, _ =>
    refine ctr_post (ctr_frame [0] (by kernel_rfl) (pSlot c p kb cl tp ep sl bk (nxP 1) (gpO gb gu) (rpO rb rl) (errV cd))) ?_
    rintro v L ⟨post, ⟨rfl, rfl⟩, rfl⟩
    exact ⟨_, view_pack (fun _ : PnH => True) (pnL p c cl tp ep (⟨K, gu, rl, sl, bk, cd, 1⟩ : Pn)) ⟨kb, gb, rb⟩ (M := []) [3, 0, 1, 2] (by kernel_rfl) trivial, rfl, rfl⟩
  | 2, _ =>
    refine ctr_post (ctr_frame [0] (by kernel_rfl) (pSlot c p kb cl tp ep sl bk (nxP 2) (gpO gb gu) (rpO rb rl) (errV cd))) ?_
    rintro v L ⟨post, ⟨rfl, rfl⟩, rfl⟩
    exact ⟨_, view_pack (fun _ : PnH => True) (pnL p c cl tp ep (⟨K, gu, rl, sl, bk, cd, 2⟩ : Pn)) ⟨kb, gb, rb⟩ (M := []) [3, 0, 1, 2] (by kernel_rfl) trivial, rfl, rfl⟩
  | 3, _ =>
    refine ctr_post (ctr_frame [0] (by kernel_rfl) (pSlot c p kb cl tp ep sl bk (nxP 3) (gpO gb gu) (rpO rb rl) (errV cd))) ?_
    rintro v L ⟨post, ⟨rfl, rfl⟩, rfl⟩
    exact ⟨_, view_pack (fun _ : PnH => True) (pnL p c cl tp ep (⟨K, gu, rl, sl, bk, cd, 3⟩ : Pn)) ⟨kb, gb, rb⟩ (M := []) [3, 0, 1, 2] (by kernel_rfl) trivial, rfl, rfl⟩
  | n + 4, h => omega


theorem pin_Commit (c : Cfg) (p : Nat) (cl tp ep : Int) (S : Pn) (hph : S.ph ≤ 3) (hG : ∀ G, S.gu = some G → G.ph ≤ 3) :
    Ctr Tryz.prog 14 #[vP p] [.res (PnR p c cl tp ep S)] (Ret (vI (Pn.comm S)) [.res (PnR p c cl tp ep S)]) := by
  refine ctr_open (I := fun _ : PnH => True) (LL := pnL p c cl tp ep S) (M := []) 0 (by kernel_rfl) ?_
  rintro ⟨kb, gb, rb⟩ -
  obtain ⟨K, gu, rl, sl, bk, cd, ph⟩ := S
  simp only at hph hG
  match ph, hph with
  | 0, _ =>
    cases gu with
    | none =>
      refine ctr_post (ctr_frame [0] (by kernel_rfl) (pCommit0N c p kb cl tp ep sl bk (rpO rb rl) (errV cd))) ?_
      rintro v L ⟨post, ⟨rfl, rfl⟩, rfl⟩
      exact ⟨_, view_pack (fun _ : PnH => True) (pnL p c cl tp ep (⟨K, none, rl, sl, bk, cd, 0⟩ : Pn)) ⟨kb, gb, rb⟩ (M := []) [3, 0, 1, 2] (by kernel_rfl) trivial, rfl, rfl⟩
    | some G =>
      refine ctr_view (view_unfold (e := E6f719 gb c G gb) 2 (by kernel_rfl)) ?_
      refine ctr_post (ctr_frame [0, 2] (by kernel_rfl) (pCommit0S c p kb gb cl tp ep sl bk (rpO rb rl) (errV cd) G (hG G rfl))) ?_
      rintro v L ⟨post, ⟨rfl, rfl⟩, rfl⟩
      exact ⟨_, (view_fold (e := E6f719 gb c G gb) 3 (by kernel_rfl)).trans (view_pack (fun _ : PnH => True) (pnL p c cl tp ep (⟨K, (some G), rl, sl, bk, cd, 0⟩ : Pn)) ⟨kb, gb, rb⟩ (M := []) [2, 0, 3, 1] (by kernel_rfl) trivial), rfl, rfl⟩
  | 1, _ =>
    refine ctr_post (ctr_frame [0] (by kernel_rfl) (pCommit1 c p kb cl tp ep sl bk (gpO gb gu) (rpO rb rl) (errV cd))) ?_
    rintro v L ⟨post, ⟨rfl, rfl⟩, rfl⟩
    exact ⟨_, view_pack (fun _ : PnH => True) (pnL p c cl tp ep (⟨K, gu, rl, sl, bk, cd, 1⟩ : Pn)) ⟨kb, gb, rb⟩ (M := []) [3, 0, 1, 2] (by kernel_rfl) trivial, rfl, rfl⟩
  | 2, _ =>
    refine ctr_post (ctr_frame [0] (by kernel_rfl) (pCommit2 c p kb cl tp ep sl bk (gpO gb gu) (rpO rb rl) (errV cd))) ?_
    rintro v L ⟨post, ⟨rfl, rfl⟩, rfl⟩
    exact ⟨_, view_pack (fun _ : PnH => True) (pnL p c cl tp ep (⟨K, gu, rl, sl, bk, cd, 2⟩ : Pn)) ⟨kb, gb, rb⟩ (M := []) [3, 0, 1, 2] (by kernel_rfl) trivial, rfl, rfl⟩
  | 3, _ =>
    refine ctr_post (ctr_frame [0] (by kernel_rfl) (pCommit3 c p kb cl tp ep sl bk (gpO gb gu) (rpO rb rl) (errV cd))) ?_
    rintro v L ⟨post, ⟨rfl, rfl⟩, rfl⟩
    exact ⟨_, view_pack (fun _ : PnH => True) (pnL p c cl tp ep (⟨K, gu, rl, sl, bk, cd, 3⟩ : Pn)) ⟨kb, gb, rb⟩ (M := []) [3, 0, 1, 2] (by kernel_rfl) trivial, rfl, rfl⟩
  | n + 4, h => omega

noncomputable def B17 : Code := (Tryz.f17.body).getD .skip

theorem pNew (c : Cfg) (cl tp ep : Int) (hc : c.Ok) (hcl : 0 ≤ cl ∧ cl < c.clients) (htp : 0 ≤ tp ∧ tp < c.topics) :
    Ctr Tryz.prog 17 #[cfgV c, vI cl, vI tp, vI ep] [] (fun v L => ∃ (p : Nat) (kb : Nat), v = vP p ∧ L = [Eea5c0 p c cl tp ep (.func (.func 47) #[] #[]) (vP kb) (.pointer none) (.pointer none) (-1) 0, E33322 kb c cl 0 (-1)]) := by
  refine ctr_of (args := [cfgV c, vI cl, vI tp, vI ep]) (fn := Tryz.f17) (body := B17) (nt := 28) Tryz.func17 (by kernel_rfl) (by kernel_rfl) ?_
  intro F
  refine go_exec (rs := [.tmp 8]) (by kernel_rfl) 4000 [.e 0, .z [0, 1] 2 [1, 2, 3, 4, 10, 11]] (o := .new fun b_1 => .obl (b_1 = b_1) (.stop [.o [0, 1] 2, .c [1, 1]] [(1, vI cl), (2, vI tp), (3, vI ep), (4, vP b_1), (10, cfgV c), (11, vI cl)] [Efdc04 b_1 c])) (by kernel_rfl) ?_
  refine ok_new fun b_1 => ?_
  refine ok_obl rfl ?_
  refine ok_stop ?_
  refine go_call (some 12) [] Tryz.call46 (new_Claim c cl (by first | assumption | omega | (simp only [InK] at *; omega)) (by first | assumption | omega | (simp only [InK] at *; omega))) (by kernel_rfl) ?_
  rintro v post ⟨k_2, rfl, rfl⟩
  refine go_exec (rs := [.tmp 8]) (by kernel_rfl) 4000 [.e 0, .z [0, 0, 1, 1] 5 [1, 2, 3, 4, 9, 15, 16, 17]] (o := .obl (b_1 = b_1) (.stop [.o [0, 0, 1, 1] 5, .c [1, 0, 1, 1], .c [1, 1, 1]] [(1, vI cl), (2, vI tp), (3, vI ep), (4, vP b_1), (9, vP k_2), (15, .bool false), (16, cfgV c), (17, vI tp)] [Efdc04 b_1 c, E33322 k_2 c cl 0 (-1)])) (by kernel_rfl) ?_
  refine ok_obl rfl ?_
  refine ok_stop ?_
  refine go_call (some 18) [] Tryz.call21 (plan_Control c tp (by first | assumption | omega | (simp only [InK] at *; omega))) (by kernel_rfl) ?_
  rintro v post ⟨rfl, rfl⟩
  refine go_exec (rs := [.tmp 8]) (by kernel_rfl) 4000 [.sp [20, 19] [.dead] [.e 0]] (o := .obl (((ctlAt c tp) == (-1)) = ((ctlAt c tp) == (-1))) (.br ((ctlAt c tp) == (-1)) (.bad) (.obl (b_1 = b_1) (.new fun b_3 => .ret (vP b_3) [Efdc04 b_1 c, E33322 k_2 c cl 0 (-1), Eea5c0 b_3 c cl tp ep (.func (.func 47) #[] #[]) (vP k_2) (.pointer none) (.pointer none) (-1) 0])))) (by kernel_rfl) ?_
  refine ok_obl rfl ?_
  refine ok_br (fun h => absurd (show ((ctlAt c tp) == (-1)) = false from (beq_eq_false_iff_ne.2 (by have := ctlAt_pos hc htp; omega))) (by rw [h]; simp)) (fun _ => ?_)
  refine ok_obl rfl ?_
  refine ok_new fun b_3 => ?_
  exact ret_ok (post := [Eea5c0 b_3 c cl tp ep (.func (.func 47) #[] #[]) (vP k_2) (.pointer none) (.pointer none) (-1) 0, E33322 k_2 c cl 0 (-1)]) [2, 1] (by kernel_rfl) ⟨b_3, k_2, rfl, (by kernel_rfl)⟩


theorem pin_New (c : Cfg) (cl tp ep : Int) (hc : c.Ok) (hcl : 0 ≤ cl ∧ cl < c.clients) (htp : 0 ≤ tp ∧ tp < c.topics) :
    Ctr Tryz.prog 17 #[cfgV c, vI cl, vI tp, vI ep] [] (fun v L => ∃ (p : Nat), v = vP p ∧ L = [.res (PnR p c cl tp ep (newPn cl))]) := by
  refine ctr_post (pNew c cl tp ep hc hcl htp) ?_
  rintro v L ⟨p, kb, rfl, rfl⟩
  exact ⟨_, view_unit.trans (view_unit.trans (view_pack (fun _ : PnH => True) (pnL p c cl tp ep (newPn cl)) ⟨kb, 0, 0⟩ (M := []) [0, 1, 2, 3] (by kernel_rfl) trivial)), p, rfl, rfl⟩


end Go.Proofs.YtiiepkjckmdmkaaGreatDoor


namespace Go.Proofs.YtiiepkjckmdmkaaGreatDoor
open Go.Sx
abbrev E1356c (x0 : Nat) (x1 : Int) (x2 : Int) (x3 : Int) (x4 : Int) : Ent := .pts x0 [.int .i64 x1, .int .i64 x2, .int .i64 x3, .int .i64 x4] 33
abbrev E0aaf3 (x0 : Nat) (x1 : Value) (x2 : Int) (x3 : Option Addr) (x4 : Nat) (x5 : Nat) (x6 : Int) (x7 : Int) (x8 : Int) (x9 : Int) : Ent := .pts x0 [x1, .int .i64 x2, .slice x3 x4 x5, .int .i64 x6, .int .i64 x7, .int .u64 x8, .int .i64 x9] 155
abbrev Ee1326 (x0 : Option Addr) (x1 : Nat) (x2 : List Int) : Ent := .sl x0 x1 (encI .i64) 0 1 x2 3
abbrev Eb47ce (x0 : Nat) (x1 : Value) (x2 : Int) (x3 : Value) (x4 : Int) (x5 : Int) (x6 : Int) (x7 : Int) : Ent := .pts x0 [x1, .int .i64 x2, x3, .int .i64 x4, .int .i64 x5, .int .u64 x6, .int .i64 x7] 155
abbrev q54_0 : List Nat := [0, 1, 0, 0, 1, 1, 0, 0, 1, 1, 1, 0, 0, 1, 1, 0, 0, 1, 0, 1, 1, 1, 0, 1]
abbrev q54_1 : List Nat := [1, 1, 0, 0, 1, 1, 0, 0, 1, 1, 1, 0, 0, 1, 1, 0, 0, 1, 0, 1, 1, 1, 0, 1]
abbrev q54_2 : List Nat := [1, 1, 1, 0, 0, 1, 1, 1, 0, 0, 1, 1, 0, 0, 1, 0, 1, 1, 1, 0, 1]
abbrev q54_3 : List Nat := [0, 1, 1, 1, 0, 0, 1, 1, 0, 0, 1, 0, 1, 1, 1, 0, 1]
abbrev q54_4 : List Nat := [1, 1, 1, 0, 0, 1, 0, 1, 1, 1, 0, 1]
abbrev q54_5 : List Nat := [0, 1, 0, 1, 1, 1, 0, 1]
abbrev q54_6 : List Nat := [1, 1, 1, 1, 1, 1, 1, 1, 1, 1, 1, 1, 0, 1, 1, 1, 1]
abbrev q54_7 : List Nat := [1, 1, 1, 1, 0, 1, 1]
noncomputable def B129 : Code := (Tryz.f129.body).getD .skip

theorem typed1   :
    Ctr Tryz.prog 129 #[vI 1] [] (Ret (.tuple #[.bool true, .bool false]) []) := by
  refine ctr_of (args := [vI 1]) (fn := Tryz.f129) (body := B129) (nt := 13) Tryz.func129 (by kernel_rfl) (by kernel_rfl) ?_
  intro F
  refine go_exec (rs := [.tmp 2, .tmp 3]) (by kernel_rfl) 4000 [] (o := .ret (.tuple #[.bool true, .bool false]) []) (by kernel_rfl) ?_
  exact ret_ok (post := []) [] (by kernel_rfl) ⟨rfl, (by kernel_rfl)⟩


theorem typed3   :
    Ctr Tryz.prog 129 #[vI 3] [] (Ret (.tuple #[.bool true, .bool false]) []) := by
  refine ctr_of (args := [vI 3]) (fn := Tryz.f129) (body := B129) (nt := 13) Tryz.func129 (by kernel_rfl) (by kernel_rfl) ?_
  intro F
  refine go_exec (rs := [.tmp 2, .tmp 3]) (by kernel_rfl) 4000 [] (o := .ret (.tuple #[.bool true, .bool false]) []) (by kernel_rfl) ?_
  exact ret_ok (post := []) [] (by kernel_rfl) ⟨rfl, (by kernel_rfl)⟩

noncomputable def B96 : Code := (Tryz.f96.body).getD .skip

noncomputable def B49 : Code := (Tryz.f49.body).getD .skip

theorem sch_right2 (bs bf : Nat)  :
    Ctr Tryz.prog 96 #[.slice (some ⟨bs, 0, none⟩) 1 1] [.pts bs [.slice (some ⟨bf, 0, none⟩) 2 2] 34, E1356c bf 1 0 3 0] (Ret (.bool true) [.pts bs [.slice (some ⟨bf, 0, none⟩) 2 2] 34, E1356c bf 1 0 3 0]) := by
  refine ctr_of (args := [.slice (some ⟨bs, 0, none⟩) 1 1]) (fn := Tryz.f96) (body := B96) (nt := 70) Tryz.func96 (by kernel_rfl) (by kernel_rfl) ?_
  intro F
  refine go_exec (rs := [.tmp 2]) (by kernel_rfl) 4000 [.u, .w, .e 0, .u, .w, .e 1, .e 2, .e 2, .z q54_0 2 [0, 3, 7, 18, 19, 20, 32, 33, 34, 40]] (o := .obl (bs = bs) (.obl (bf = bf) (.new fun b_1 => .obl (b_1 = b_1) (.obl (b_1 = b_1) (.stop [.o q54_0 2, .c q54_1, .b 3, .c q54_2, .r q54_3, .b 2, .b 1, .c q54_4, .r q54_5, .b 0, .c [1, 1, 1, 1, 0, 1]] [(0, .slice (some ⟨bs, 0, none⟩) 1 1), (3, .bool true), (7, vP b_1), (18, .slice (some ⟨bs, 0, none⟩) 1 1), (19, vI 1), (20, vI 0), (32, .slice (some ⟨bf, 0, none⟩) 2 2), (33, vI 2), (34, vI 0), (40, vI 1)] [.pts bs [.slice (some ⟨bf, 0, none⟩) 2 2] 34, E1356c bf 1 0 3 0, .pts b_1 [vI 1, vI 0] 33]))))) (by kernel_rfl) ?_
  refine ok_obl rfl ?_
  refine ok_obl rfl ?_
  refine ok_new fun b_1 => ?_
  refine ok_obl rfl ?_
  refine ok_obl rfl ?_
  refine ok_stop ?_
  refine go_call (some 41) [] Tryz.call129 (typed1) (by kernel_rfl) ?_
  rintro v post ⟨rfl, rfl⟩
  refine go_exec (rs := [.tmp 2]) (by kernel_rfl) 4000 [.e 2, .e 2, .e 2, .w, .u, .w, .e 1, .e 3, .e 3, .z q54_0 2 [0, 3, 7, 18, 19, 20, 32, 33, 34, 40]] (o := .obl (b_1 = b_1) (.obl (b_1 = b_1) (.obl (b_1 = b_1) (.obl (bf = bf) (.new fun b_2 => .obl (b_2 = b_2) (.obl (b_2 = b_2) (.stop [.o q54_0 2, .c q54_1, .b 3, .c q54_2, .r q54_3, .b 2, .b 1, .c q54_4, .r q54_5, .b 0, .c [1, 1, 1, 1, 0, 1]] [(0, .slice (some ⟨bs, 0, none⟩) 1 1), (3, .bool true), (7, vP b_2), (18, .slice (some ⟨bs, 0, none⟩) 1 1), (19, vI 1), (20, vI 0), (32, .slice (some ⟨bf, 0, none⟩) 2 2), (33, vI 2), (34, vI 1), (40, vI 3)] [.pts bs [.slice (some ⟨bf, 0, none⟩) 2 2] 34, E1356c bf 1 0 3 0, .pts b_1 [vI 1, vI 0] 33, .pts b_2 [vI 3, vI 0] 33]))))))) (by kernel_rfl) ?_
  refine ok_obl rfl ?_
  refine ok_obl rfl ?_
  refine ok_obl rfl ?_
  refine ok_obl rfl ?_
  refine ok_new fun b_2 => ?_
  refine ok_obl rfl ?_
  refine ok_obl rfl ?_
  refine ok_stop ?_
  refine go_call (some 41) [] Tryz.call129 (typed3) (by kernel_rfl) ?_
  rintro v post ⟨rfl, rfl⟩
  refine go_exec (rs := [.tmp 2]) (by kernel_rfl) 4000 [.e 3, .e 3, .e 3, .w, .u, .w, .u] (o := .obl (b_2 = b_2) (.obl (b_2 = b_2) (.obl (b_2 = b_2) (.ret (.bool true) [.pts bs [.slice (some ⟨bf, 0, none⟩) 2 2] 34, E1356c bf 1 0 3 0, .pts b_1 [vI 1, vI 0] 33, .pts b_2 [vI 3, vI 0] 33])))) (by kernel_rfl) ?_
  refine ok_obl rfl ?_
  refine ok_obl rfl ?_
  refine ok_obl rfl ?_
  exact ret_ok (post := [.pts bs [.slice (some ⟨bf, 0, none⟩) 2 2] 34, E1356c bf 1 0 3 0]) [0, 1] (by kernel_rfl) ⟨rfl, (by kernel_rfl)⟩


theorem sch_Check2 (bs bf : Nat)  :
    Ctr Tryz.prog 49 #[.slice (some ⟨bs, 0, none⟩) 1 1] [.pts bs [.slice (some ⟨bf, 0, none⟩) 2 2] 34, E1356c bf 1 0 3 0] (Ret (.nilIface) [.pts bs [.slice (some ⟨bf, 0, none⟩) 2 2] 34, E1356c bf 1 0 3 0]) := by
  refine ctr_of (args := [.slice (some ⟨bs, 0, none⟩) 1 1]) (fn := Tryz.f49) (body := B49) (nt := 7) Tryz.func49 (by kernel_rfl) (by kernel_rfl) ?_
  intro F
  refine go_exec (rs := [.tmp 2]) (by kernel_rfl) 4000 [.z [0, 0, 1] 1 [3]] (o := .stop [.o [0, 0, 1] 1, .c [1, 0, 1], .c [1, 1]] [(3, .slice (some ⟨bs, 0, none⟩) 1 1)] [.pts bs [.slice (some ⟨bf, 0, none⟩) 2 2] 34, E1356c bf 1 0 3 0]) (by kernel_rfl) ?_
  refine ok_stop ?_
  refine go_call (some 4) [0, 1] Tryz.call96 (sch_right2 bs bf) (by kernel_rfl) ?_
  rintro v post ⟨rfl, rfl⟩
  refine go_exec (rs := [.tmp 2]) (by kernel_rfl) 4000 [] (o := .ret (.nilIface) [.pts bs [.slice (some ⟨bf, 0, none⟩) 2 2] 34, E1356c bf 1 0 3 0]) (by kernel_rfl) ?_
  exact ret_ok (post := [.pts bs [.slice (some ⟨bf, 0, none⟩) 2 2] 34, E1356c bf 1 0 3 0]) [0, 1] (by kernel_rfl) ⟨rfl, (by kernel_rfl)⟩


noncomputable def B133 : Code := (Tryz.f133.body).getD .skip

theorem sch_fields (bs bf : Nat)  :
    Ctr Tryz.prog 133 #[.slice (some ⟨bs, 0, none⟩) 1 1, vI 0] [.pts bs [.slice (some ⟨bf, 0, none⟩) 2 2] 34, E1356c bf 1 0 3 0] (Ret (.slice (some ⟨bf, 0, none⟩) 2 2) [.pts bs [.slice (some ⟨bf, 0, none⟩) 2 2] 34, E1356c bf 1 0 3 0]) := by
  refine ctr_of (args := [.slice (some ⟨bs, 0, none⟩) 1 1, vI 0]) (fn := Tryz.f133) (body := B133) (nt := 17) Tryz.func133 (by kernel_rfl) (by kernel_rfl) ?_
  intro F
  refine go_exec (rs := [.tmp 4]) (by kernel_rfl) 4000 [.w, .e 0] (o := .obl (bs = bs) (.ret (.slice (some ⟨bf, 0, none⟩) 2 2) [.pts bs [.slice (some ⟨bf, 0, none⟩) 2 2] 34, E1356c bf 1 0 3 0])) (by kernel_rfl) ?_
  refine ok_obl rfl ?_
  exact ret_ok (post := [.pts bs [.slice (some ⟨bf, 0, none⟩) 2 2] 34, E1356c bf 1 0 3 0]) [0, 1] (by kernel_rfl) ⟨rfl, (by kernel_rfl)⟩

noncomputable def B134 : Code := (Tryz.f134.body).getD .skip

theorem sch_field1 (bs bf : Nat)  :
    Ctr Tryz.prog 134 #[.slice (some ⟨bs, 0, none⟩) 1 1, vI 0, vI 1] [.pts bs [.slice (some ⟨bf, 0, none⟩) 2 2] 34, E1356c bf 1 0 3 0] (Ret (.agg #[vI 3, vI 0]) [.pts bs [.slice (some ⟨bf, 0, none⟩) 2 2] 34, E1356c bf 1 0 3 0]) := by
  refine ctr_of (args := [.slice (some ⟨bs, 0, none⟩) 1 1, vI 0, vI 1]) (fn := Tryz.f134) (body := B134) (nt := 24) Tryz.func134 (by kernel_rfl) (by kernel_rfl) ?_
  intro F
  refine go_exec (rs := [.cell 6 33]) (by kernel_rfl) 4000 [.z [0, 1] 2 [2, 6, 8, 9]] (o := .new fun b_1 => .stop [.o [0, 1] 2, .c [1, 1]] [(2, vI 1), (6, vP b_1), (8, .slice (some ⟨bs, 0, none⟩) 1 1), (9, vI 0)] [.pts bs [.slice (some ⟨bf, 0, none⟩) 2 2] 34, E1356c bf 1 0 3 0, .pts b_1 [vI 0, vI 0] 33]) (by kernel_rfl) ?_
  refine ok_new fun b_1 => ?_
  refine ok_stop ?_
  refine go_call (some 10) [0, 1] Tryz.call133 (sch_fields bs bf) (by kernel_rfl) ?_
  rintro v post ⟨rfl, rfl⟩
  refine go_exec (rs := [.cell 6 33]) (by kernel_rfl) 4000 [.w, .e 2, .e 0, .e 0] (o := .obl (bf = bf) (.obl (b_1 = b_1) (.obl (b_1 = b_1) (.ret (.agg #[vI 3, vI 0]) [.pts b_1 [vI 3, vI 0] 33, .pts bs [.slice (some ⟨bf, 0, none⟩) 2 2] 34, E1356c bf 1 0 3 0])))) (by kernel_rfl) ?_
  refine ok_obl rfl ?_
  refine ok_obl rfl ?_
  refine ok_obl rfl ?_
  exact ret_ok (post := [.pts bs [.slice (some ⟨bf, 0, none⟩) 2 2] 34, E1356c bf 1 0 3 0]) [1, 2] (by kernel_rfl) ⟨rfl, (by kernel_rfl)⟩

noncomputable def B117 : Code := (Tryz.f117.body).getD .skip

theorem sch_Kind (bs bf : Nat)  :
    Ctr Tryz.prog 117 #[.slice (some ⟨bs, 0, none⟩) 1 1, vI 0, vI 1] [.pts bs [.slice (some ⟨bf, 0, none⟩) 2 2] 34, E1356c bf 1 0 3 0] (Ret (vI 3) [.pts bs [.slice (some ⟨bf, 0, none⟩) 2 2] 34, E1356c bf 1 0 3 0]) := by
  refine ctr_of (args := [.slice (some ⟨bs, 0, none⟩) 1 1, vI 0, vI 1]) (fn := Tryz.f117) (body := B117) (nt := 12) Tryz.func117 (by kernel_rfl) (by kernel_rfl) ?_
  intro F
  refine go_exec (rs := [.tmp 6]) (by kernel_rfl) 4000 [.z [0, 1] 3 [7, 8, 9]] (o := .stop [.o [0, 1] 3, .c [1, 1]] [(7, .slice (some ⟨bs, 0, none⟩) 1 1), (8, vI 0), (9, vI 1)] [.pts bs [.slice (some ⟨bf, 0, none⟩) 2 2] 34, E1356c bf 1 0 3 0]) (by kernel_rfl) ?_
  refine ok_stop ?_
  refine go_call (some 10) [0, 1] Tryz.call134 (sch_field1 bs bf) (by kernel_rfl) ?_
  rintro v post ⟨rfl, rfl⟩
  refine go_exec (rs := [.tmp 6]) (by kernel_rfl) 4000 [] (o := .ret (vI 3) [.pts bs [.slice (some ⟨bf, 0, none⟩) 2 2] 34, E1356c bf 1 0 3 0]) (by kernel_rfl) ?_
  exact ret_ok (post := [.pts bs [.slice (some ⟨bf, 0, none⟩) 2 2] 34, E1356c bf 1 0 3 0]) [0, 1] (by kernel_rfl) ⟨rfl, (by kernel_rfl)⟩

noncomputable def B118 : Code := (Tryz.f118.body).getD .skip

theorem sch_Type (bs bf : Nat)  :
    Ctr Tryz.prog 118 #[.slice (some ⟨bs, 0, none⟩) 1 1, vI 0, vI 1] [.pts bs [.slice (some ⟨bf, 0, none⟩) 2 2] 34, E1356c bf 1 0 3 0] (Ret (vI 0) [.pts bs [.slice (some ⟨bf, 0, none⟩) 2 2] 34, E1356c bf 1 0 3 0]) := by
  refine ctr_of (args := [.slice (some ⟨bs, 0, none⟩) 1 1, vI 0, vI 1]) (fn := Tryz.f118) (body := B118) (nt := 12) Tryz.func118 (by kernel_rfl) (by kernel_rfl) ?_
  intro F
  refine go_exec (rs := [.tmp 6]) (by kernel_rfl) 4000 [.z [0, 1] 3 [7, 8, 9]] (o := .stop [.o [0, 1] 3, .c [1, 1]] [(7, .slice (some ⟨bs, 0, none⟩) 1 1), (8, vI 0), (9, vI 1)] [.pts bs [.slice (some ⟨bf, 0, none⟩) 2 2] 34, E1356c bf 1 0 3 0]) (by kernel_rfl) ?_
  refine ok_stop ?_
  refine go_call (some 10) [0, 1] Tryz.call134 (sch_field1 bs bf) (by kernel_rfl) ?_
  rintro v post ⟨rfl, rfl⟩
  refine go_exec (rs := [.tmp 6]) (by kernel_rfl) 4000 [] (o := .ret (vI 0) [.pts bs [.slice (some ⟨bf, 0, none⟩) 2 2] 34, E1356c bf 1 0 3 0]) (by kernel_rfl) ?_
  exact ret_ok (post := [.pts bs [.slice (some ⟨bf, 0, none⟩) 2 2] 34, E1356c bf 1 0 3 0]) [0, 1] (by kernel_rfl) ⟨rfl, (by kernel_rfl)⟩

noncomputable def B114 : Code := (Tryz.f114.body).getD .skip

theorem sch_Fields (bs bf : Nat)  :
    Ctr Tryz.prog 114 #[.slice (some ⟨bs, 0, none⟩) 1 1, vI 0] [.pts bs [.slice (some ⟨bf, 0, none⟩) 2 2] 34, E1356c bf 1 0 3 0] (Ret (vI 2) [.pts bs [.slice (some ⟨bf, 0, none⟩) 2 2] 34, E1356c bf 1 0 3 0]) := by
  refine ctr_of (args := [.slice (some ⟨bs, 0, none⟩) 1 1, vI 0]) (fn := Tryz.f114) (body := B114) (nt := 9) Tryz.func114 (by kernel_rfl) (by kernel_rfl) ?_
  intro F
  refine go_exec (rs := [.tmp 4]) (by kernel_rfl) 4000 [.z [0, 1] 2 [5, 6]] (o := .stop [.o [0, 1] 2, .c [1, 1]] [(5, .slice (some ⟨bs, 0, none⟩) 1 1), (6, vI 0)] [.pts bs [.slice (some ⟨bf, 0, none⟩) 2 2] 34, E1356c bf 1 0 3 0]) (by kernel_rfl) ?_
  refine ok_stop ?_
  refine go_call (some 7) [0, 1] Tryz.call133 (sch_fields bs bf) (by kernel_rfl) ?_
  rintro v post ⟨rfl, rfl⟩
  refine go_exec (rs := [.tmp 4]) (by kernel_rfl) 4000 [] (o := .ret (vI 2) [.pts bs [.slice (some ⟨bf, 0, none⟩) 2 2] 34, E1356c bf 1 0 3 0]) (by kernel_rfl) ?_
  exact ret_ok (post := [.pts bs [.slice (some ⟨bf, 0, none⟩) 2 2] 34, E1356c bf 1 0 3 0]) [0, 1] (by kernel_rfl) ⟨rfl, (by kernel_rfl)⟩

noncomputable def B86 : Code := (Tryz.f86.body).getD .skip

theorem walk_enter (w bs bf : Nat) (a : Option Addr) (c0 : Nat)  :
    Ctr Tryz.prog 86 #[vP w, vI 0, vI 1] [E0aaf3 w (.slice (some ⟨bs, 0, none⟩) 1 1) 0 a (([1, 0] : List Int).length) c0 0 0 0 0, .pts bs [.slice (some ⟨bf, 0, none⟩) 2 2] 34, E1356c bf 1 0 3 0, Ee1326 a c0 ([1, 0] : List Int)] (Ret (undef) [E0aaf3 w (.slice (some ⟨bs, 0, none⟩) 1 1) 0 a (([1, 0] : List Int).length) c0 2 0 0 0, .pts bs [.slice (some ⟨bf, 0, none⟩) 2 2] 34, E1356c bf 1 0 3 0, Ee1326 a c0 ([1, 0] : List Int)]) := by
  refine ctr_of (args := [vP w, vI 0, vI 1]) (fn := Tryz.f86) (body := B86) (nt := 53) Tryz.func86 (by kernel_rfl) (by kernel_rfl) ?_
  intro F
  refine go_exec (rs := []) (by kernel_rfl) 4000 [.e 0, .z [0, 0, 1] 0 [0, 1, 2]] (o := .obl (w = w) (.stop [.c [0, 0, 1], .c [1, 0, 1], .c [1, 1]] [(0, vP w), (1, vI 0), (2, vI 1)] [E0aaf3 w (.slice (some ⟨bs, 0, none⟩) 1 1) 0 a (([1, 0] : List Int).length) c0 0 0 0 0, .pts bs [.slice (some ⟨bf, 0, none⟩) 2 2] 34, E1356c bf 1 0 3 0, Ee1326 a c0 ([1, 0] : List Int)])) (by kernel_rfl) ?_
  refine ok_obl rfl ?_
  refine ok_stop ?_
  refine go_quiet (tm' := [(0, vP w), (2, vI 1), (39, .bool false)]) (ps := [w = w, (((([1, 0] : List Int).length : Nat) : Int) == 0) = false, w = w, a = a ∧ ([1, 0] : List Int).length = ([1, 0] : List Int).length, (0 : Int) ≤ 0 ∧ 0 < ((([1, 0] : List Int).length : Nat) : Int), slAt a 0 1 = slAt a 0 1, 0 < ([1, 0] : List Int).length, (decide ((([1, 0] : List Int).getD 0 0) < 0)) = false, w = w, a = a ∧ ([1, 0] : List Int).length = ([1, 0] : List Int).length, (0 : Int) ≤ 0 ∧ 0 < ((([1, 0] : List Int).length : Nat) : Int), slAt a 0 1 = slAt a 0 1, 0 < ([1, 0] : List Int).length, w = w, (decide ((([1, 0] : List Int).getD 0 0) ≥ 2)) = false]) (cs := [(114, #[.slice (some ⟨bs, 0, none⟩) 1 1, vI 0], vI 2)]) [(0, .h .w), (1, .h .w), (2, .h .w), (3, .h (.e 0)), (4, .h .w), (5, .h (.t false)), (6, .h .w), (7, .h .w), (8, .h .w), (9, .h .w), (10, .h (.e 0)), (11, .h (.s 3)), (12, .h (.j 3 0)), (13, .h (.t false)), (14, .h .w), (15, .h .w), (16, .h .w), (17, .h .w), (18, .h .w), (19, .h (.e 0)), (20, .h (.s 3)), (21, .h (.j 3 0)), (22, .h .w), (23, .h .w), (24, .h .w), (25, .h (.e 0)), (26, .h .w), (27, .q (vI 2)), (28, .h (.t false)), (29, .h .w)] [0, 2, 39] (by kernel_rfl) (by kernel_rfl) ⟨rfl, (by decide), rfl, ⟨rfl, (by first | rfl | omega | (simp; done) | (simp; omega))⟩, (by first | omega | (simp; done) | (simp; omega)), rfl, (by first | omega | (simp; done) | (simp; omega)), (by decide), rfl, ⟨rfl, (by first | rfl | omega | (simp; done) | (simp; omega))⟩, (by first | omega | (simp; done) | (simp; omega)), rfl, (by first | omega | (simp; done) | (simp; omega)), rfl, (by decide), trivial⟩ ⟨⟨Tryz.call114, quiet_of [1, 2] (sch_Fields bs bf) (by kernel_rfl) (by rintro v post ⟨rfl, rfl⟩; exact ⟨rfl, rfl⟩)⟩, trivial⟩ ?_
  refine go_exec (rs := []) (by kernel_rfl) 4000 [.e 0, .s 3, .j 3 0, .n, .e 0] (o := .obl (w = w) (.obl (a = a ∧ ([1, 0] : List Int).length = ([1, 0] : List Int).length) (.obl ((0 : Int) ≤ 0 ∧ 0 < ((([1, 0] : List Int).length : Nat) : Int)) (.obl (slAt a 0 1 = slAt a 0 1) (.obl (0 < ([1, 0] : List Int).length) (.obl (InK .i64 (1 + (([1, 0] : List Int).getD 0 0))) (.obl (w = w) (.ret (undef) [E0aaf3 w (.slice (some ⟨bs, 0, none⟩) 1 1) 0 a (([1, 0] : List Int).length) c0 (1 + (([1, 0] : List Int).getD 0 0)) 0 0 0, .pts bs [.slice (some ⟨bf, 0, none⟩) 2 2] 34, E1356c bf 1 0 3 0, Ee1326 a c0 ([1, 0] : List Int)])))))))) (by kernel_rfl) ?_
  refine ok_obl rfl ?_
  refine ok_obl ⟨rfl, (by first | rfl | omega | (simp; done) | (simp; omega))⟩ ?_
  refine ok_obl (by first | omega | (simp; done) | (simp; omega)) ?_
  refine ok_obl rfl ?_
  refine ok_obl (by first | omega | (simp; done) | (simp; omega)) ?_
  refine ok_obl (by simp only [InK]; decide) ?_
  refine ok_obl rfl ?_
  exact ret_ok (post := [E0aaf3 w (.slice (some ⟨bs, 0, none⟩) 1 1) 0 a (([1, 0] : List Int).length) c0 (1 + (([1, 0] : List Int).getD 0 0)) 0 0 0, .pts bs [.slice (some ⟨bf, 0, none⟩) 2 2] 34, E1356c bf 1 0 3 0, Ee1326 a c0 ([1, 0] : List Int)]) [0, 1, 2, 3] (by kernel_rfl) ⟨rfl, (by kernel_rfl)⟩

noncomputable def B41 : Code := (Tryz.f41.body).getD .skip

theorem walk_Start (bs bf : Nat) (a : Option Addr) (c0 : Nat)  :
    Ctr Tryz.prog 41 #[.slice (some ⟨bs, 0, none⟩) 1 1, vI 0, vI 1, .slice a (([1, 0] : List Int).length) c0] [.pts bs [.slice (some ⟨bf, 0, none⟩) 2 2] 34, E1356c bf 1 0 3 0, Ee1326 a c0 ([1, 0] : List Int)] (fun v L => ∃ (w : Nat) (a2 : Option Addr) (c2 : Nat), v = vP w ∧ L = [E0aaf3 w (.slice (some ⟨bs, 0, none⟩) 1 1) 0 a2 (([1, 0] : List Int).length) c2 2 0 0 0, .pts bs [.slice (some ⟨bf, 0, none⟩) 2 2] 34, E1356c bf 1 0 3 0, Ee1326 a c0 ([1, 0] : List Int), Ee1326 a2 c2 ([1, 0] : List Int)]) := by
  refine ctr_of (args := [.slice (some ⟨bs, 0, none⟩) 1 1, vI 0, vI 1, .slice a (([1, 0] : List Int).length) c0]) (fn := Tryz.f41) (body := B41) (nt := 34) Tryz.func41 (by kernel_rfl) (by kernel_rfl) ?_
  intro F
  refine go_exec (rs := [.tmp 8]) (by kernel_rfl) 4000 [.z [0, 0, 1] 1 [0, 1, 2, 3, 10]] (o := .stop [.o [0, 0, 1] 1, .c [1, 0, 1], .c [1, 1]] [(0, .slice (some ⟨bs, 0, none⟩) 1 1), (1, vI 0), (2, vI 1), (3, .slice a (([1, 0] : List Int).length) c0), (10, .slice (some ⟨bs, 0, none⟩) 1 1)] [.pts bs [.slice (some ⟨bf, 0, none⟩) 2 2] 34, E1356c bf 1 0 3 0, Ee1326 a c0 ([1, 0] : List Int)]) (by kernel_rfl) ?_
  refine ok_stop ?_
  refine go_call (some 11) [0, 1] Tryz.call49 (sch_Check2 bs bf) (by kernel_rfl) ?_
  rintro v post ⟨rfl, rfl⟩
  refine go_exec (rs := [.tmp 8]) (by kernel_rfl) 4000 [.z [0, 1, 1] 3 [1, 2, 23, 24, 25]] (o := .new fun b_1 => .stop [.o [0, 1, 1] 3, .c [1, 1, 1]] [(1, vI 0), (2, vI 1), (23, .slice (some ⟨bs, 0, none⟩) 1 1), (24, .slice (some ⟨b_1, 0, none⟩) 0 0), (25, .slice a (([1, 0] : List Int).length) c0)] [Ee1326 a c0 ([1, 0] : List Int), .pts bs [.slice (some ⟨bf, 0, none⟩) 2 2] 34, E1356c bf 1 0 3 0, .pts b_1 [] 3]) (by kernel_rfl) ?_
  refine ok_new fun b_1 => ?_
  refine ok_stop ?_
  refine go_view (L' := [Ee1326 a c0 ([1, 0] : List Int), .pts bs [.slice (some ⟨bf, 0, none⟩) 2 2] 34, E1356c bf 1 0 3 0, Ee1326 (some ⟨b_1, 0, none⟩) 0 []]) (view_empty 3 (b := b_1) (encI .i64) 0 1 3 (sizedI _) (by kernel_rfl)) ?_
  refine go_by (some 26) (appO Tryz.prog _) (some (.slice (some ⟨b_1, 0, none⟩) ([]).length 0, .slice a (([1, 0] : List Int).length) c0, (3, 1, 8))) (R_append 3 (a := (some ⟨b_1, 0, none⟩)) (c := 0) (enc := encI .i64) (d := 0) (sz := 1) (xs := []) (te := 3) (by kernel_rfl) (.slice a (([1, 0] : List Int).length) c0) ([1, 0] : List Int) (src_sl (i := 0) (d := 0) (sz := 1) (t := 3) (by kernel_rfl)) (oneI _) 8 (by first | omega | (simp; done) | (simp; omega)) (by first | omega | (simp; done) | (simp; omega))) (by kernel_rfl) ?_
  rintro v L2 ⟨a_2, c_3, rfl, rfl⟩
  refine go_exec (rs := [.tmp 8]) (by kernel_rfl) 4000 [.z [0, 1, 1, 1] 3 [9, 29, 30, 31]] (o := .new fun b_4 => .stop [.o [0, 1, 1, 1] 3, .c [1, 1, 1, 1]] [(9, vP b_4), (29, vP b_4), (30, vI 0), (31, vI 1)] [Ee1326 a c0 ([1, 0] : List Int), .pts bs [.slice (some ⟨bf, 0, none⟩) 2 2] 34, E1356c bf 1 0 3 0, Ee1326 a_2 c_3 ([] ++ ([1, 0] : List Int)), E0aaf3 b_4 (.slice (some ⟨bs, 0, none⟩) 1 1) 0 a_2 (([] ++ ([1, 0] : List Int)).length) c_3 0 0 0 0]) (by kernel_rfl) ?_
  refine ok_new fun b_4 => ?_
  refine ok_stop ?_
  refine go_call (some 32) [4, 1, 2, 3] Tryz.call86 (walk_enter b_4 bs bf a_2 c_3) (by kernel_rfl) ?_
  rintro v post ⟨rfl, rfl⟩
  refine go_exec (rs := [.tmp 8]) (by kernel_rfl) 4000 [] (o := .ret (vP b_4) [Ee1326 a c0 ([1, 0] : List Int), E0aaf3 b_4 (.slice (some ⟨bs, 0, none⟩) 1 1) 0 a_2 (([1, 0] : List Int).length) c_3 2 0 0 0, .pts bs [.slice (some ⟨bf, 0, none⟩) 2 2] 34, E1356c bf 1 0 3 0, Ee1326 a_2 c_3 ([1, 0] : List Int)]) (by kernel_rfl) ?_
  exact ret_ok (post := [E0aaf3 b_4 (.slice (some ⟨bs, 0, none⟩) 1 1) 0 a_2 (([1, 0] : List Int).length) c_3 2 0 0 0, .pts bs [.slice (some ⟨bf, 0, none⟩) 2 2] 34, E1356c bf 1 0 3 0, Ee1326 a c0 ([1, 0] : List Int), Ee1326 a_2 c_3 ([1, 0] : List Int)]) [1, 2, 3, 0, 4] (by kernel_rfl) ⟨b_4, a_2, c_3, rfl, (by kernel_rfl)⟩

noncomputable def B44 : Code := (Tryz.f44.body).getD .skip

theorem walk_Next2 (w : Nat) (sc pth : Value) (t l n code : Int)  :
    Ctr Tryz.prog 44 #[vP w] [Eb47ce w sc t pth 2 l n code] (Ret (.tuple #[vI 2, .bool true]) [Eb47ce w sc t pth 2 l n code]) := by
  refine ctr_of (args := [vP w]) (fn := Tryz.f44) (body := B44) (nt := 17) Tryz.func44 (by kernel_rfl) (by kernel_rfl) ?_
  intro F
  refine go_exec (rs := [.tmp 2, .tmp 3]) (by kernel_rfl) 4000 [.e 0, .e 0] (o := .obl (w = w) (.obl (w = w) (.ret (.tuple #[vI 2, .bool true]) [Eb47ce w sc t pth 2 l n code]))) (by kernel_rfl) ?_
  refine ok_obl rfl ?_
  refine ok_obl rfl ?_
  exact ret_ok (post := [Eb47ce w sc t pth 2 l n code]) [0] (by kernel_rfl) ⟨rfl, (by kernel_rfl)⟩


theorem walk_Next3 (w : Nat) (sc pth : Value) (t l n code : Int)  :
    Ctr Tryz.prog 44 #[vP w] [Eb47ce w sc t pth 3 l n code] (Ret (.tuple #[vI 3, .bool true]) [Eb47ce w sc t pth 3 l n code]) := by
  refine ctr_of (args := [vP w]) (fn := Tryz.f44) (body := B44) (nt := 17) Tryz.func44 (by kernel_rfl) (by kernel_rfl) ?_
  intro F
  refine go_exec (rs := [.tmp 2, .tmp 3]) (by kernel_rfl) 4000 [.e 0, .e 0] (o := .obl (w = w) (.obl (w = w) (.ret (.tuple #[vI 3, .bool true]) [Eb47ce w sc t pth 3 l n code]))) (by kernel_rfl) ?_
  refine ok_obl rfl ?_
  refine ok_obl rfl ?_
  exact ret_ok (post := [Eb47ce w sc t pth 3 l n code]) [0] (by kernel_rfl) ⟨rfl, (by kernel_rfl)⟩


theorem walk_NextE (w : Nat) (sc pth : Value) (t l n code : Int)  :
    Ctr Tryz.prog 44 #[vP w] [Eb47ce w sc t pth (-1) l n code] (Ret (.tuple #[vI 0, .bool false]) [Eb47ce w sc t pth (-1) l n code]) := by
  refine ctr_of (args := [vP w]) (fn := Tryz.f44) (body := B44) (nt := 17) Tryz.func44 (by kernel_rfl) (by kernel_rfl) ?_
  intro F
  refine go_exec (rs := [.tmp 2, .tmp 3]) (by kernel_rfl) 4000 [.e 0, .sp [12, 11] [] [.dead]] (o := .obl (w = w) (.obl (((-1) == (-1)) = ((-1) == (-1))) (.br ((-1) == (-1)) (.ret (.tuple #[vI 0, .bool false]) [Eb47ce w sc t pth (-1) l n code]) (.bad)))) (by kernel_rfl) ?_
  refine ok_obl rfl ?_
  refine ok_obl rfl ?_
  refine ok_br (fun _ => ?_) (fun h => absurd (show ((-1) == (-1)) = true from (by decide)) (by rw [h]; simp))
  exact ret_ok (post := [Eb47ce w sc t pth (-1) l n code]) [0] (by kernel_rfl) ⟨rfl, (by kernel_rfl)⟩

noncomputable def B87 : Code := (Tryz.f87.body).getD .skip

theorem walk_Told (w : Nat) (sc pth : Value) (t l n : Int)  :
    Ctr Tryz.prog 87 #[vP w] [Eb47ce w sc t pth (-1) l n 0] (Ret (.tuple #[vU n, .nilIface]) [Eb47ce w sc t pth (-1) l n 0]) := by
  refine ctr_of (args := [vP w]) (fn := Tryz.f87) (body := B87) (nt := 24) Tryz.func87 (by kernel_rfl) (by kernel_rfl) ?_
  intro F
  refine go_exec (rs := [.tmp 2, .tmp 3]) (by kernel_rfl) 4000 [.e 0, .sp [8, 13] [.dead] [.z [0, 1, 1] 0 [0]]] (o := .obl (w = w) (.obl (((-1) != (-1)) = ((-1) != (-1))) (.br ((-1) != (-1)) (.bad) (.stop [.c [0, 1, 1], .c [1, 1, 1]] [(0, vP w)] [Eb47ce w sc t pth (-1) l n 0])))) (by kernel_rfl) ?_
  refine ok_obl rfl ?_
  refine ok_obl rfl ?_
  refine ok_br (fun h => absurd (show ((-1) != (-1)) = false from (by decide)) (by rw [h]; simp)) (fun _ => ?_)
  refine ok_stop ?_
  refine go_quiet (tm' := [(2, vU n), (3, .nilIface)]) (ps := [w = w, w = w]) (cs := [(36, #[vI 0], .nilIface)]) [(0, .h .w), (1, .h .w), (2, .h .w), (3, .h (.e 0)), (4, .h .w), (5, .h .w), (6, .h .w), (7, .h (.e 0)), (8, .q (.nilIface)), (9, .h .w), (10, .h .w)] [2, 3] (by kernel_rfl) (by kernel_rfl) ⟨rfl, rfl, trivial⟩ ⟨⟨Tryz.call36, quiet_of [] (cause_New0) (by kernel_rfl) (by rintro v post ⟨rfl, rfl⟩; exact ⟨rfl, rfl⟩)⟩, trivial⟩ ?_
  refine go_exec (rs := [.tmp 2, .tmp 3]) (by kernel_rfl) 4000 [] (o := .ret (.tuple #[vU n, .nilIface]) [Eb47ce w sc t pth (-1) l n 0]) (by kernel_rfl) ?_
  exact ret_ok (post := [Eb47ce w sc t pth (-1) l n 0]) [0] (by kernel_rfl) ⟨rfl, (by kernel_rfl)⟩

noncomputable def B88 : Code := (Tryz.f88.body).getD .skip

theorem walk_end (w : Nat) (sc pth : Value) (t l n code : Int) (ask m e : Int)  :
    Ctr Tryz.prog 88 #[vP w, vU m, vI e] [Eb47ce w sc t pth ask l n code] (Ret (undef) [Eb47ce w sc t pth (-1) l m e]) := by
  refine ctr_of (args := [vP w, vU m, vI e]) (fn := Tryz.f88) (body := B88) (nt := 17) Tryz.func88 (by kernel_rfl) (by kernel_rfl) ?_
  intro F
  refine go_exec (rs := []) (by kernel_rfl) 4000 [.e 0, .e 0, .e 0] (o := .obl (w = w) (.obl (w = w) (.obl (w = w) (.ret (undef) [Eb47ce w sc t pth (-1) l m e])))) (by kernel_rfl) ?_
  refine ok_obl rfl ?_
  refine ok_obl rfl ?_
  refine ok_obl rfl ?_
  exact ret_ok (post := [Eb47ce w sc t pth (-1) l m e]) [0] (by kernel_rfl) ⟨rfl, (by kernel_rfl)⟩

noncomputable def B119 : Code := (Tryz.f119.body).getD .skip

theorem part   :
    Ctr Tryz.prog 119 #[vU 8589934593] [] (Ret (.tuple #[vI 1, vI 2]) []) := by
  refine ctr_of (args := [vU 8589934593]) (fn := Tryz.f119) (body := B119) (nt := 10) Tryz.func119 (by kernel_rfl) (by kernel_rfl) ?_
  intro F
  refine go_exec (rs := [.tmp 2, .tmp 3]) (by kernel_rfl) 4000 [.w, .w, .w, .w] (o := .ret (.tuple #[vI 1, vI 2]) []) (by kernel_rfl) ?_
  exact ret_ok (post := []) [] (by kernel_rfl) ⟨rfl, (by kernel_rfl)⟩

noncomputable def B120 : Code := (Tryz.f120.body).getD .skip

theorem walk_item (w bs bf : Nat) (pth : Value) (a3 : Option Addr) (c3 : Nat)  :
    Ctr Tryz.prog 120 #[vP w, vI 3, vI 0, vI 3, .slice a3 (([0] : List Int).length) c3] [Eb47ce w (.slice (some ⟨bs, 0, none⟩) 1 1) 0 pth 2 0 0 0, .pts bs [.slice (some ⟨bf, 0, none⟩) 2 2] 34, E1356c bf 1 0 3 0, Ee1326 a3 c3 ([0] : List Int)] (Ret (undef) [E0aaf3 w (.slice (some ⟨bs, 0, none⟩) 1 1) 0 a3 (([0] : List Int).length) c3 3 3 0 0, .pts bs [.slice (some ⟨bf, 0, none⟩) 2 2] 34, E1356c bf 1 0 3 0, Ee1326 a3 c3 ([0] : List Int)]) := by
  refine ctr_of (args := [vP w, vI 3, vI 0, vI 3, .slice a3 (([0] : List Int).length) c3]) (fn := Tryz.f120) (body := B120) (nt := 69) Tryz.func120 (by kernel_rfl) (by kernel_rfl) ?_
  intro F
  refine go_exec (rs := []) (by kernel_rfl) 4000 [.e 0, .z [0] 5 [0, 1, 2, 3, 4, 15, 16]] (o := .obl (w = w) (.stop [.o [0] 5, .c [1]] [(0, vP w), (1, vI 3), (2, vI 0), (3, vI 3), (4, .slice a3 (([0] : List Int).length) c3), (15, .slice (some ⟨bs, 0, none⟩) 1 1), (16, vI 0)] [Eb47ce w (.slice (some ⟨bs, 0, none⟩) 1 1) 0 pth 2 0 0 0, .pts bs [.slice (some ⟨bf, 0, none⟩) 2 2] 34, E1356c bf 1 0 3 0, Ee1326 a3 c3 ([0] : List Int)])) (by kernel_rfl) ?_
  refine ok_obl rfl ?_
  refine ok_stop ?_
  refine go_call (some 17) [1, 2] Tryz.call114 (sch_Fields bs bf) (by kernel_rfl) ?_
  rintro v post ⟨rfl, rfl⟩
  refine go_exec (rs := []) (by kernel_rfl) 4000 [.s 1, .j 1 0, .sp [52] [.dead] [.n, .e 0, .e 0, .e 0]] (o := .obl (a3 = a3 ∧ ([0] : List Int).length = ([0] : List Int).length) (.obl ((0 : Int) ≤ 0 ∧ 0 < ((([0] : List Int).length : Nat) : Int)) (.obl (slAt a3 0 1 = slAt a3 0 1) (.obl (0 < ([0] : List Int).length) (.br (decide (((([0] : List Int).length : Nat) : Int) > 1)) (.bad) (.obl (InK .i64 (3 + (([0] : List Int).getD 0 0))) (.obl (w = w) (.obl (w = w) (.obl (w = w) (.ret (undef) [E0aaf3 w (.slice (some ⟨bs, 0, none⟩) 1 1) 0 a3 (([0] : List Int).length) c3 (3 + (([0] : List Int).getD 0 0)) 3 0 0, Ee1326 a3 c3 ([0] : List Int), .pts bs [.slice (some ⟨bf, 0, none⟩) 2 2] 34, E1356c bf 1 0 3 0])))))))))) (by kernel_rfl) ?_
  refine ok_obl ⟨rfl, (by first | rfl | omega | (simp; done) | (simp; omega))⟩ ?_
  refine ok_obl (by first | omega | (simp; done) | (simp; omega)) ?_
  refine ok_obl rfl ?_
  refine ok_obl (by first | omega | (simp; done) | (simp; omega)) ?_
  refine ok_br (fun h => absurd (show (decide (((([0] : List Int).length : Nat) : Int) > 1)) = false from (by decide)) (by rw [h]; simp)) (fun _ => ?_)
  refine ok_obl (by simp only [InK]; decide) ?_
  refine ok_obl rfl ?_
  refine ok_obl rfl ?_
  refine ok_obl rfl ?_
  exact ret_ok (post := [E0aaf3 w (.slice (some ⟨bs, 0, none⟩) 1 1) 0 a3 (([0] : List Int).length) c3 (3 + (([0] : List Int).getD 0 0)) 3 0 0, .pts bs [.slice (some ⟨bf, 0, none⟩) 2 2] 34, E1356c bf 1 0 3 0, Ee1326 a3 c3 ([0] : List Int)]) [0, 2, 3, 1] (by kernel_rfl) ⟨rfl, (by kernel_rfl)⟩

noncomputable def B90 : Code := (Tryz.f90.body).getD .skip

theorem walk_field (w bs bf : Nat) (a : Option Addr) (c0 : Nat)  :
    Ctr Tryz.prog 90 #[vP w, vU 8589934593] [E0aaf3 w (.slice (some ⟨bs, 0, none⟩) 1 1) 0 a (([1, 0] : List Int).length) c0 2 0 0 0, .pts bs [.slice (some ⟨bf, 0, none⟩) 2 2] 34, E1356c bf 1 0 3 0, Ee1326 a c0 ([1, 0] : List Int)] (fun v L => ∃ (a3 : Option Addr) (c3 : Nat), v = undef ∧ L = [E0aaf3 w (.slice (some ⟨bs, 0, none⟩) 1 1) 0 a3 (([0] : List Int).length) c3 3 3 0 0, .pts bs [.slice (some ⟨bf, 0, none⟩) 2 2] 34, E1356c bf 1 0 3 0, Ee1326 a3 c3 ([0] : List Int)]) := by
  refine ctr_of (args := [vP w, vU 8589934593]) (fn := Tryz.f90) (body := B90) (nt := 113) Tryz.func90 (by kernel_rfl) (by kernel_rfl) ?_
  intro F
  refine go_exec (rs := []) (by kernel_rfl) 4000 [.z [0] 0 [0, 1]] (o := .stop [.c [0], .c [1]] [(0, vP w), (1, vU 8589934593)] [E0aaf3 w (.slice (some ⟨bs, 0, none⟩) 1 1) 0 a (([1, 0] : List Int).length) c0 2 0 0 0, .pts bs [.slice (some ⟨bf, 0, none⟩) 2 2] 34, E1356c bf 1 0 3 0, Ee1326 a c0 ([1, 0] : List Int)]) (by kernel_rfl) ?_
  refine ok_stop ?_
  refine go_lz (by kernel_rfl) (by kernel_rfl) ?_
  refine lz_end (T1 := [(0, vP w), (1, vU 8589934593), (4, vI (([1, 0] : List Int).getD 0 0)), (5, .slice (cutA a c0 1 1) ((([1, 0] : List Int).drop 1).length) (c0 - 1))]) (ps := [w = w, a = a ∧ ([1, 0] : List Int).length = ([1, 0] : List Int).length, (0 : Int) ≤ 0 ∧ 0 < ((([1, 0] : List Int).length : Nat) : Int), slAt a 0 1 = slAt a 0 1, 0 < ([1, 0] : List Int).length, w = w, LawQ Tryz.prog F [E0aaf3 w (.slice (some ⟨bs, 0, none⟩) 1 1) 0 a (([1, 0] : List Int).length) c0 2 0 0 0, .pts bs [.slice (some ⟨bf, 0, none⟩) 2 2] 34, E1356c bf 1 0 3 0, Ee1326 a c0 ([1, 0] : List Int)] (.slice (cutA a c0 1 1) ((([1, 0] : List Int).drop 1).length) (c0 - 1)) cutO (.slice a (([1, 0] : List Int)).length c0, some (vI 1), none, 1)]) [0, 1, 2, 3, 4, 5, 6, 7, 8, 9, 10, 11, 12] [(0, .h .w), (1, .h .w), (2, .h .w), (3, .h (.e 0)), (4, .h (.s 3)), (5, .h (.j 3 0)), (6, .h .w), (7, .h .w), (8, .h .w), (9, .h (.e 0)), (10, .cut (.slice (cutA a c0 1 1) ((([1, 0] : List Int).drop 1).length) (c0 - 1))), (11, .h .w), (12, .h .w)] [0, 1, 4, 5] (by kernel_rfl) ⟨rfl, ⟨rfl, (by first | rfl | omega | (simp; done) | (simp; omega))⟩, (by first | omega | (simp; done) | (simp; omega)), rfl, (by first | omega | (simp; done) | (simp; omega)), rfl, (fun _ => (R_cutV 3 (a := a) (c := c0) (enc := encI .i64) (d := 0) (sz := 1) (xs := ([1, 0] : List Int)) (te := 3) (by kernel_rfl) .i64 1 ⟨(by first | omega | (simp; done) | (simp; omega)), (by first | omega | (simp; done) | (simp; omega))⟩)), trivial⟩ ?_
  refine go_view (L' := [E0aaf3 w (.slice (some ⟨bs, 0, none⟩) 1 1) 0 a (([1, 0] : List Int).length) c0 2 0 0 0, .pts bs [.slice (some ⟨bf, 0, none⟩) 2 2] 34, E1356c bf 1 0 3 0, Ee1326 (cutA a c0 1 1) (c0 - 1) (([1, 0] : List Int).drop 1)]) (view_cut 3 (a := a) (c := c0) (enc := encI .i64) (d := 0) (sz := 1) (xs := ([1, 0] : List Int)) (te := 3) (by kernel_rfl) 1 (by first | omega | (simp; done) | (simp; omega))) ?_
  refine go_exec (rs := []) (by kernel_rfl) 4000 [.z [0, 1] 0 [0, 1, 4, 5]] (o := .stop [.c [0, 1], .c [1, 1]] [(0, vP w), (1, vU 8589934593), (4, vI (([1, 0] : List Int).getD 0 0)), (5, .slice (cutA a c0 1 1) ((([1, 0] : List Int).drop 1).length) (c0 - 1))] [E0aaf3 w (.slice (some ⟨bs, 0, none⟩) 1 1) 0 a (([1, 0] : List Int).length) c0 2 0 0 0, .pts bs [.slice (some ⟨bf, 0, none⟩) 2 2] 34, E1356c bf 1 0 3 0, Ee1326 (cutA a c0 1 1) (c0 - 1) (([1, 0] : List Int).drop 1)]) (by kernel_rfl) ?_
  refine ok_stop ?_
  refine go_quiet (tm' := [(0, vP w), (1, vU 8589934593), (5, .slice (cutA a c0 1 1) ((([1, 0] : List Int).drop 1).length) (c0 - 1)), (6, vI 3), (7, vI 0)]) (ps := [w = w, w = w, w = w, w = w]) (cs := [(117, #[.slice (some ⟨bs, 0, none⟩) 1 1, vI 0, vI (([1, 0] : List Int).getD 0 0)], vI 3), (118, #[.slice (some ⟨bs, 0, none⟩) 1 1, vI 0, vI (([1, 0] : List Int).getD 0 0)], vI 0)]) [(0, .h .w), (1, .h .w), (2, .h .w), (3, .h (.e 0)), (4, .h .w), (5, .h .w), (6, .h .w), (7, .h (.e 0)), (8, .h .w), (9, .q (vI 3)), (10, .h .w), (11, .h .w), (12, .h .w), (13, .h (.e 0)), (14, .h .w), (15, .h .w), (16, .h .w), (17, .h (.e 0)), (18, .h .w), (19, .q (vI 0)), (20, .h .w), (21, .h .w)] [0, 1, 5, 6, 7] (by kernel_rfl) (by kernel_rfl) ⟨rfl, rfl, rfl, rfl, trivial⟩ ⟨⟨Tryz.call117, quiet_of [1, 2] (sch_Kind bs bf) (by kernel_rfl) (by rintro v post ⟨rfl, rfl⟩; exact ⟨rfl, rfl⟩)⟩, ⟨Tryz.call118, quiet_of [1, 2] (sch_Type bs bf) (by kernel_rfl) (by rintro v post ⟨rfl, rfl⟩; exact ⟨rfl, rfl⟩)⟩, trivial⟩ ?_
  refine go_exec (rs := []) (by kernel_rfl) 4000 [.z [0, 1, 1] 1 [0, 1, 5, 6, 7, 43]] (o := .stop [.o [0, 1, 1] 1, .c [1, 1, 1]] [(0, vP w), (1, vU 8589934593), (5, .slice (cutA a c0 1 1) ((([1, 0] : List Int).drop 1).length) (c0 - 1)), (6, vI 3), (7, vI 0), (43, vU 8589934593)] [E0aaf3 w (.slice (some ⟨bs, 0, none⟩) 1 1) 0 a (([1, 0] : List Int).length) c0 2 0 0 0, .pts bs [.slice (some ⟨bf, 0, none⟩) 2 2] 34, E1356c bf 1 0 3 0, Ee1326 (cutA a c0 1 1) (c0 - 1) (([1, 0] : List Int).drop 1)]) (by kernel_rfl) ?_
  refine ok_stop ?_
  refine go_call (some 44) [] Tryz.call119 (part) (by kernel_rfl) ?_
  rintro v post ⟨rfl, rfl⟩
  refine go_exec (rs := []) (by kernel_rfl) 4000 [.e 0, .w, .sp [75, 78] [.dead] [.s 3, .j 3 0, .sp [104, 103] [.dead] [.s 3, .j 3 0, .sp [99, 109, 110] [.dead] [.z q54_6 5 [53, 54, 55, 56, 57]]]]] (o := .obl (w = w) (.obl (((((([1, 0] : List Int).drop 1).length : Nat) : Int) == 0) = ((((([1, 0] : List Int).drop 1).length : Nat) : Int) == 0)) (.br ((((([1, 0] : List Int).drop 1).length : Nat) : Int) == 0) (.bad) (.obl ((cutA a c0 1 1) = (cutA a c0 1 1) ∧ (([1, 0] : List Int).drop 1).length = (([1, 0] : List Int).drop 1).length) (.obl ((0 : Int) ≤ 0 ∧ 0 < (((([1, 0] : List Int).drop 1).length : Nat) : Int)) (.obl (slAt (cutA a c0 1 1) 0 1 = slAt (cutA a c0 1 1) 0 1) (.obl (0 < (([1, 0] : List Int).drop 1).length) (.obl ((decide (((([1, 0] : List Int).drop 1).getD 0 0) < 0)) = (decide (((([1, 0] : List Int).drop 1).getD 0 0) < 0))) (.br (decide (((([1, 0] : List Int).drop 1).getD 0 0) < 0)) (.bad) (.obl ((cutA a c0 1 1) = (cutA a c0 1 1) ∧ (([1, 0] : List Int).drop 1).length = (([1, 0] : List Int).drop 1).length) (.obl ((0 : Int) ≤ 0 ∧ 0 < (((([1, 0] : List Int).drop 1).length : Nat) : Int)) (.obl (slAt (cutA a c0 1 1) 0 1 = slAt (cutA a c0 1 1) 0 1) (.obl (0 < (([1, 0] : List Int).drop 1).length) (.obl ((decide (((([1, 0] : List Int).drop 1).getD 0 0) ≥ 2)) = (decide (((([1, 0] : List Int).drop 1).getD 0 0) ≥ 2))) (.obl ((decide (((([1, 0] : List Int).drop 1).getD 0 0) ≥ 2)) = (decide (((([1, 0] : List Int).drop 1).getD 0 0) ≥ 2))) (.br (decide (((([1, 0] : List Int).drop 1).getD 0 0) ≥ 2)) (.bad) (.stop [.o q54_6 5, .b 0] [(53, vP w), (54, vI 3), (55, vI 0), (56, vI 3), (57, .slice (cutA a c0 1 1) ((([1, 0] : List Int).drop 1).length) (c0 - 1))] [E0aaf3 w (.slice (some ⟨bs, 0, none⟩) 1 1) 0 a (([1, 0] : List Int).length) c0 2 0 0 0, .pts bs [.slice (some ⟨bf, 0, none⟩) 2 2] 34, E1356c bf 1 0 3 0, Ee1326 (cutA a c0 1 1) (c0 - 1) (([1, 0] : List Int).drop 1)]))))))))))))))))) (by kernel_rfl) ?_
  refine ok_obl rfl ?_
  refine ok_obl rfl ?_
  refine ok_br (fun h => absurd (show ((((([1, 0] : List Int).drop 1).length : Nat) : Int) == 0) = false from (by decide)) (by rw [h]; simp)) (fun _ => ?_)
  refine ok_obl ⟨rfl, (by first | rfl | omega | (simp; done) | (simp; omega))⟩ ?_
  refine ok_obl (by first | omega | (simp; done) | (simp; omega)) ?_
  refine ok_obl rfl ?_
  refine ok_obl (by first | omega | (simp; done) | (simp; omega)) ?_
  refine ok_obl rfl ?_
  refine ok_br (fun h => absurd (show (decide (((([1, 0] : List Int).drop 1).getD 0 0) < 0)) = false from (by decide)) (by rw [h]; simp)) (fun _ => ?_)
  refine ok_obl ⟨rfl, (by first | rfl | omega | (simp; done) | (simp; omega))⟩ ?_
  refine ok_obl (by first | omega | (simp; done) | (simp; omega)) ?_
  refine ok_obl rfl ?_
  refine ok_obl (by first | omega | (simp; done) | (simp; omega)) ?_
  refine ok_obl rfl ?_
  refine ok_obl rfl ?_
  refine ok_br (fun h => absurd (show (decide (((([1, 0] : List Int).drop 1).getD 0 0) ≥ 2)) = false from (by decide)) (by rw [h]; simp)) (fun _ => ?_)
  refine ok_stop ?_
  refine go_call (some 58) [0, 1, 2, 3] Tryz.call120 (walk_item w bs bf (.slice a (([1, 0] : List Int).length) c0) (cutA a c0 1 1) (c0 - 1)) (by kernel_rfl) ?_
  rintro v post ⟨rfl, rfl⟩
  refine go_exec (rs := []) (by kernel_rfl) 4000 [] (o := .ret (undef) [E0aaf3 w (.slice (some ⟨bs, 0, none⟩) 1 1) 0 (cutA a c0 1 1) (([0] : List Int).length) (c0 - 1) 3 3 0 0, .pts bs [.slice (some ⟨bf, 0, none⟩) 2 2] 34, E1356c bf 1 0 3 0, Ee1326 (cutA a c0 1 1) (c0 - 1) ([0] : List Int)]) (by kernel_rfl) ?_
  exact ret_ok (post := [E0aaf3 w (.slice (some ⟨bs, 0, none⟩) 1 1) 0 (cutA a c0 1 1) (([0] : List Int).length) (c0 - 1) 3 3 0 0, .pts bs [.slice (some ⟨bf, 0, none⟩) 2 2] 34, E1356c bf 1 0 3 0, Ee1326 (cutA a c0 1 1) (c0 - 1) ([0] : List Int)]) [0, 1, 2, 3] (by kernel_rfl) ⟨(cutA a c0 1 1), (c0 - 1), rfl, (by kernel_rfl)⟩

noncomputable def B45 : Code := (Tryz.f45.body).getD .skip

theorem walk_Give1 (w bs bf : Nat) (a : Option Addr) (c0 : Nat)  :
    Ctr Tryz.prog 45 #[vP w, vU 8589934593] [E0aaf3 w (.slice (some ⟨bs, 0, none⟩) 1 1) 0 a (([1, 0] : List Int).length) c0 2 0 0 0, .pts bs [.slice (some ⟨bf, 0, none⟩) 2 2] 34, E1356c bf 1 0 3 0, Ee1326 a c0 ([1, 0] : List Int)] (fun v L => ∃ (a3 : Option Addr) (c3 : Nat), v = undef ∧ L = [E0aaf3 w (.slice (some ⟨bs, 0, none⟩) 1 1) 0 a3 (([0] : List Int).length) c3 3 3 0 0, .pts bs [.slice (some ⟨bf, 0, none⟩) 2 2] 34, E1356c bf 1 0 3 0, Ee1326 a3 c3 ([0] : List Int)]) := by
  refine ctr_of (args := [vP w, vU 8589934593]) (fn := Tryz.f45) (body := B45) (nt := 39) Tryz.func45 (by kernel_rfl) (by kernel_rfl) ?_
  intro F
  refine go_exec (rs := []) (by kernel_rfl) 4000 [.e 0, .e 0, .z q54_7 2 [17, 18]] (o := .obl (w = w) (.obl (w = w) (.stop [.o q54_7 2, .b 0] [(17, vP w), (18, vU 8589934593)] [E0aaf3 w (.slice (some ⟨bs, 0, none⟩) 1 1) 0 a (([1, 0] : List Int).length) c0 2 0 0 0, .pts bs [.slice (some ⟨bf, 0, none⟩) 2 2] 34, E1356c bf 1 0 3 0, Ee1326 a c0 ([1, 0] : List Int)]))) (by kernel_rfl) ?_
  refine ok_obl rfl ?_
  refine ok_obl rfl ?_
  refine ok_stop ?_
  refine go_call (some 19) [0, 1, 2, 3] Tryz.call90 (walk_field w bs bf a c0) (by kernel_rfl) ?_
  rintro v post ⟨a3_1, c3_2, rfl, rfl⟩
  refine go_exec (rs := []) (by kernel_rfl) 4000 [] (o := .ret (undef) [E0aaf3 w (.slice (some ⟨bs, 0, none⟩) 1 1) 0 a3_1 (([0] : List Int).length) c3_2 3 3 0 0, .pts bs [.slice (some ⟨bf, 0, none⟩) 2 2] 34, E1356c bf 1 0 3 0, Ee1326 a3_1 c3_2 ([0] : List Int)]) (by kernel_rfl) ?_
  exact ret_ok (post := [E0aaf3 w (.slice (some ⟨bs, 0, none⟩) 1 1) 0 a3_1 (([0] : List Int).length) c3_2 3 3 0 0, .pts bs [.slice (some ⟨bf, 0, none⟩) 2 2] 34, E1356c bf 1 0 3 0, Ee1326 a3_1 c3_2 ([0] : List Int)]) [0, 1, 2, 3] (by kernel_rfl) ⟨a3_1, c3_2, rfl, (by kernel_rfl)⟩


theorem walk_Give1w (w bs bf : Nat) (a : Option Addr) (c0 : Nat) (w_ : Int) (hw : w_ = 8589934593) :
    Ctr Tryz.prog 45 #[vP w, vU w_] [E0aaf3 w (.slice (some ⟨bs, 0, none⟩) 1 1) 0 a (([1, 0] : List Int).length) c0 2 0 0 0, .pts bs [.slice (some ⟨bf, 0, none⟩) 2 2] 34, E1356c bf 1 0 3 0, Ee1326 a c0 ([1, 0] : List Int)] (fun v L => ∃ (a3 : Option Addr) (c3 : Nat), v = undef ∧ L = [E0aaf3 w (.slice (some ⟨bs, 0, none⟩) 1 1) 0 a3 (([0] : List Int).length) c3 3 3 0 0, .pts bs [.slice (some ⟨bf, 0, none⟩) 2 2] 34, E1356c bf 1 0 3 0, Ee1326 a3 c3 ([0] : List Int)]) := by
  subst hw; exact walk_Give1 w bs bf a c0


theorem walk_Give2 (w bs : Nat) (pth : Value) (w_ : Int)  :
    Ctr Tryz.prog 45 #[vP w, vU w_] [Eb47ce w (.slice (some ⟨bs, 0, none⟩) 1 1) 0 pth 3 3 0 0] (Ret (undef) [Eb47ce w (.slice (some ⟨bs, 0, none⟩) 1 1) 0 pth (-1) 3 w_ 0]) := by
  refine ctr_of (args := [vP w, vU w_]) (fn := Tryz.f45) (body := B45) (nt := 39) Tryz.func45 (by kernel_rfl) (by kernel_rfl) ?_
  intro F
  refine go_exec (rs := []) (by kernel_rfl) 4000 [.e 0, .e 0, .z [0, 1, 0, 1, 1] 2 [22, 23]] (o := .obl (w = w) (.obl (w = w) (.stop [.o [0, 1, 0, 1, 1] 2, .b 0] [(22, vP w), (23, vU w_)] [Eb47ce w (.slice (some ⟨bs, 0, none⟩) 1 1) 0 pth 3 3 0 0]))) (by kernel_rfl) ?_
  refine ok_obl rfl ?_
  refine ok_obl rfl ?_
  refine ok_stop ?_
  refine go_call (some 24) [0] Tryz.call88 (walk_end w (.slice (some ⟨bs, 0, none⟩) 1 1) pth 0 3 0 0 3 w_ 0) (by kernel_rfl) ?_
  rintro v post ⟨rfl, rfl⟩
  refine go_exec (rs := []) (by kernel_rfl) 4000 [] (o := .ret (undef) [Eb47ce w (.slice (some ⟨bs, 0, none⟩) 1 1) 0 pth (-1) 3 w_ 0]) (by kernel_rfl) ?_
  exact ret_ok (post := [Eb47ce w (.slice (some ⟨bs, 0, none⟩) 1 1) 0 pth (-1) 3 w_ 0]) [0] (by kernel_rfl) ⟨rfl, (by kernel_rfl)⟩

end Go.Proofs.YtiiepkjckmdmkaaGreatDoor


namespace Go.Proofs.YtiiepkjckmdmkaaGreatDoor
open Go.Sx
abbrev Efb8cf (x0 : Nat) (x1 : Value) (x2 : Int) (x3 : Int) (x4 : Value) (x5 : Value) (x6 : Bool) (x7 : Int) (x8 : Value) : Ent := .pts x0 [x1, .int .i64 x2, .int .i64 x3, x4, x5, .bool x6, .int .u64 x7, x8] 98
abbrev E7c595 (x0 : Nat) (x1 : Value) (x2 : Int) (x3 : Int) (x4 : Value) (x5 : Value) (x6 : Bool) (x7 : Int) : Ent := .pts x0 [x1, .int .i64 x2, .int .i64 x3, x4, x5, .bool x6, .int .u64 x7, .nilIface] 98
abbrev E18c61 (x0 : Nat) (x1 : Value) (x2 : Int) (x3 : Int) (x4 : Option Addr) (x5 : Nat) (x6 : Nat) (x7 : Value) (x8 : Bool) (x9 : Int) : Ent := .pts x0 [x1, .int .i64 x2, .int .i64 x3, .slice x4 x5 x6, x7, .bool x8, .int .u64 x9, .nilIface] 98
abbrev q55_0 : List Nat := [0, 0, 1, 1, 1, 0, 0, 1]
abbrev q55_1 : List Nat := [0, 1, 0, 1, 1, 1, 0, 0, 1]
abbrev q55_2 : List Nat := [1, 1, 1, 0, 1, 1, 1, 0, 0, 1]
abbrev q55_3 : List Nat := [0, 1, 1, 1, 1, 0, 0, 1]
abbrev q55_4 : List Nat := [1, 1, 1, 1, 1, 0, 0, 1]
abbrev q55_5 : List Nat := [0, 1, 1, 1, 1, 1, 0, 0, 1]
abbrev q55_6 : List Nat := [1, 1, 1, 1, 1, 1, 0, 0, 1]
noncomputable def B16 : Code := (Tryz.f16.body).getD .skip

theorem fDoneT (f : Nat) (sc pth wk er : Value) (fr sz n : Int)  :
    Ctr Tryz.prog 16 #[vP f] [Efb8cf f sc fr sz pth wk true n er] (Ret (.bool true) [Efb8cf f sc fr sz pth wk true n er]) := by
  refine ctr_of (args := [vP f]) (fn := Tryz.f16) (body := B16) (nt := 11) Tryz.func16 (by kernel_rfl) (by kernel_rfl) ?_
  intro F
  refine go_exec (rs := [.tmp 2]) (by kernel_rfl) 4000 [.e 0] (o := .obl (f = f) (.ret (.bool true) [Efb8cf f sc fr sz pth wk true n er])) (by kernel_rfl) ?_
  refine ok_obl rfl ?_
  exact ret_ok (post := [Efb8cf f sc fr sz pth wk true n er]) [0] (by kernel_rfl) ⟨rfl, (by kernel_rfl)⟩


theorem fDoneF (f : Nat) (sc pth wk er : Value) (fr sz n : Int)  :
    Ctr Tryz.prog 16 #[vP f] [Efb8cf f sc fr sz pth wk false n er] (Ret (.bool false) [Efb8cf f sc fr sz pth wk false n er]) := by
  refine ctr_of (args := [vP f]) (fn := Tryz.f16) (body := B16) (nt := 11) Tryz.func16 (by kernel_rfl) (by kernel_rfl) ?_
  intro F
  refine go_exec (rs := [.tmp 2]) (by kernel_rfl) 4000 [.e 0] (o := .obl (f = f) (.ret (.bool false) [Efb8cf f sc fr sz pth wk false n er])) (by kernel_rfl) ?_
  refine ok_obl rfl ?_
  exact ret_ok (post := [Efb8cf f sc fr sz pth wk false n er]) [0] (by kernel_rfl) ⟨rfl, (by kernel_rfl)⟩


noncomputable def B42 : Code := (Tryz.f42.body).getD .skip

theorem fendN (f : Nat) (sc pth wk er : Value) (fr sz n : Int) (m : Int)  :
    Ctr Tryz.prog 42 #[vP f, vU m, .nilIface] [Efb8cf f sc fr sz pth wk false n er] (Ret (undef) [E7c595 f sc fr sz pth wk true m]) := by
  refine ctr_of (args := [vP f, vU m, .nilIface]) (fn := Tryz.f42) (body := B42) (nt := 17) Tryz.func42 (by kernel_rfl) (by kernel_rfl) ?_
  intro F
  refine go_exec (rs := []) (by kernel_rfl) 4000 [.e 0, .e 0, .e 0] (o := .obl (f = f) (.obl (f = f) (.obl (f = f) (.ret (undef) [E7c595 f sc fr sz pth wk true m])))) (by kernel_rfl) ?_
  refine ok_obl rfl ?_
  refine ok_obl rfl ?_
  refine ok_obl rfl ?_
  exact ret_ok (post := [E7c595 f sc fr sz pth wk true m]) [0] (by kernel_rfl) ⟨rfl, (by kernel_rfl)⟩

noncomputable def B8 : Code := (Tryz.f8.body).getD .skip

theorem fTold (f : Nat) (sc pth wk er : Value) (fr sz n : Int)  :
    Ctr Tryz.prog 8 #[vP f] [Efb8cf f sc fr sz pth wk true n er] (Ret (.tuple #[vU n, er]) [Efb8cf f sc fr sz pth wk true n er]) := by
  refine ctr_of (args := [vP f]) (fn := Tryz.f8) (body := B8) (nt := 23) Tryz.func8 (by kernel_rfl) (by kernel_rfl) ?_
  intro F
  refine go_exec (rs := [.tmp 2, .tmp 3]) (by kernel_rfl) 4000 [.e 0, .z [0, 1, 1] 0 [0]] (o := .obl (f = f) (.stop [.c [0, 1, 1], .c [1, 1, 1]] [(0, vP f)] [Efb8cf f sc fr sz pth wk true n er])) (by kernel_rfl) ?_
  refine ok_obl rfl ?_
  refine ok_stop ?_
  refine go_quiet (tm' := [(2, vU n), (3, er)]) (ps := [f = f, f = f]) (cs := []) [(0, .h .w), (1, .h .w), (2, .h .w), (3, .h (.e 0)), (4, .h .w), (5, .h .w), (6, .h .w), (7, .h (.e 0)), (8, .h .w), (9, .h .w)] [2, 3] (by kernel_rfl) (by kernel_rfl) ⟨rfl, rfl, trivial⟩ trivial ?_
  refine go_exec (rs := [.tmp 2, .tmp 3]) (by kernel_rfl) 4000 [] (o := .ret (.tuple #[vU n, er]) [Efb8cf f sc fr sz pth wk true n er]) (by kernel_rfl) ?_
  exact ret_ok (post := [Efb8cf f sc fr sz pth wk true n er]) [0] (by kernel_rfl) ⟨rfl, (by kernel_rfl)⟩


noncomputable def B15 : Code := (Tryz.f15.body).getD .skip

noncomputable def B43 : Code := (Tryz.f43.body).getD .skip

theorem fnext2 (f w : Nat) (fr sz : Int) (sc pth wsc wp : Value) (l : Int) (hsz : 4 ≤ sz) :
    Ctr Tryz.prog 43 #[vP f] [E7c595 f sc fr sz pth (vP w) false 0, Eb47ce w wsc 0 wp 2 l 0 0] (Ret (undef) [E7c595 f sc fr sz pth (vP w) false 0, Eb47ce w wsc 0 wp 2 l 0 0]) := by
  refine ctr_of (args := [vP f]) (fn := Tryz.f43) (body := B43) (nt := 34) Tryz.func43 (by kernel_rfl) (by kernel_rfl) ?_
  intro F
  refine go_exec (rs := []) (by kernel_rfl) 4000 [.e 0, .z [0] 4 [0, 8]] (o := .obl (f = f) (.stop [.o [0] 4, .c [1]] [(0, vP f), (8, vP w)] [E7c595 f sc fr sz pth (vP w) false 0, Eb47ce w wsc 0 wp 2 l 0 0])) (by kernel_rfl) ?_
  refine ok_obl rfl ?_
  refine ok_stop ?_
  refine go_call (some 9) [1] Tryz.call44 (walk_Next2 w wsc wp 0 l 0 0) (by kernel_rfl) ?_
  rintro v post ⟨rfl, rfl⟩
  refine go_exec (rs := []) (by kernel_rfl) 4000 [.e 0, .sp [24, 30] [.dead] []] (o := .obl (f = f) (.obl ((decide (2 ≥ sz)) = (decide (2 ≥ sz))) (.br (decide (2 ≥ sz)) (.bad) (.ret (undef) [E7c595 f sc fr sz pth (vP w) false 0, Eb47ce w wsc 0 wp 2 l 0 0])))) (by kernel_rfl) ?_
  refine ok_obl rfl ?_
  refine ok_obl rfl ?_
  refine ok_br (fun h => absurd (show (decide (2 ≥ sz)) = false from (decide_eq_false (by omega))) (by rw [h]; simp)) (fun _ => ?_)
  exact ret_ok (post := [E7c595 f sc fr sz pth (vP w) false 0, Eb47ce w wsc 0 wp 2 l 0 0]) [0, 1] (by kernel_rfl) ⟨rfl, (by kernel_rfl)⟩


theorem fnext3 (f w : Nat) (fr sz : Int) (sc pth wsc wp : Value) (l : Int) (hsz : 4 ≤ sz) :
    Ctr Tryz.prog 43 #[vP f] [E7c595 f sc fr sz pth (vP w) false 0, Eb47ce w wsc 0 wp 3 l 0 0] (Ret (undef) [E7c595 f sc fr sz pth (vP w) false 0, Eb47ce w wsc 0 wp 3 l 0 0]) := by
  refine ctr_of (args := [vP f]) (fn := Tryz.f43) (body := B43) (nt := 34) Tryz.func43 (by kernel_rfl) (by kernel_rfl) ?_
  intro F
  refine go_exec (rs := []) (by kernel_rfl) 4000 [.e 0, .z [0] 4 [0, 8]] (o := .obl (f = f) (.stop [.o [0] 4, .c [1]] [(0, vP f), (8, vP w)] [E7c595 f sc fr sz pth (vP w) false 0, Eb47ce w wsc 0 wp 3 l 0 0])) (by kernel_rfl) ?_
  refine ok_obl rfl ?_
  refine ok_stop ?_
  refine go_call (some 9) [1] Tryz.call44 (walk_Next3 w wsc wp 0 l 0 0) (by kernel_rfl) ?_
  rintro v post ⟨rfl, rfl⟩
  refine go_exec (rs := []) (by kernel_rfl) 4000 [.e 0, .sp [24, 30] [.dead] []] (o := .obl (f = f) (.obl ((decide (3 ≥ sz)) = (decide (3 ≥ sz))) (.br (decide (3 ≥ sz)) (.bad) (.ret (undef) [E7c595 f sc fr sz pth (vP w) false 0, Eb47ce w wsc 0 wp 3 l 0 0])))) (by kernel_rfl) ?_
  refine ok_obl rfl ?_
  refine ok_obl rfl ?_
  refine ok_br (fun h => absurd (show (decide (3 ≥ sz)) = false from (decide_eq_false (by omega))) (by rw [h]; simp)) (fun _ => ?_)
  exact ret_ok (post := [E7c595 f sc fr sz pth (vP w) false 0, Eb47ce w wsc 0 wp 3 l 0 0]) [0, 1] (by kernel_rfl) ⟨rfl, (by kernel_rfl)⟩


theorem fnextE (f w : Nat) (fr sz : Int) (sc pth wsc wp : Value) (l m : Int)  :
    Ctr Tryz.prog 43 #[vP f] [E7c595 f sc fr sz pth (vP w) false 0, Eb47ce w wsc 0 wp (-1) l m 0] (Ret (undef) [E7c595 f sc fr sz pth (vP w) true m, Eb47ce w wsc 0 wp (-1) l m 0]) := by
  refine ctr_of (args := [vP f]) (fn := Tryz.f43) (body := B43) (nt := 34) Tryz.func43 (by kernel_rfl) (by kernel_rfl) ?_
  intro F
  refine go_exec (rs := []) (by kernel_rfl) 4000 [.e 0, .z [0] 4 [0, 8]] (o := .obl (f = f) (.stop [.o [0] 4, .c [1]] [(0, vP f), (8, vP w)] [E7c595 f sc fr sz pth (vP w) false 0, Eb47ce w wsc 0 wp (-1) l m 0])) (by kernel_rfl) ?_
  refine ok_obl rfl ?_
  refine ok_stop ?_
  refine go_call (some 9) [1] Tryz.call44 (walk_NextE w wsc wp 0 l m 0) (by kernel_rfl) ?_
  rintro v post ⟨rfl, rfl⟩
  refine go_exec (rs := []) (by kernel_rfl) 4000 [.e 0, .z [0, 1, 0, 1] 5 [15, 19]] (o := .obl (f = f) (.stop [.o [0, 1, 0, 1] 5, .b 0] [(15, vP f), (19, vP w)] [E7c595 f sc fr sz pth (vP w) false 0, Eb47ce w wsc 0 wp (-1) l m 0])) (by kernel_rfl) ?_
  refine ok_obl rfl ?_
  refine ok_stop ?_
  refine go_call (some 20) [1] Tryz.call87 (walk_Told w wsc wp 0 l m) (by kernel_rfl) ?_
  rintro v post ⟨rfl, rfl⟩
  refine go_exec (rs := []) (by kernel_rfl) 4000 [.z [0, 1, 0, 1] 8 [15, 21, 22]] (o := .stop [.o [0, 1, 0, 1] 8, .b 0] [(15, vP f), (21, vU m), (22, .nilIface)] [E7c595 f sc fr sz pth (vP w) false 0, Eb47ce w wsc 0 wp (-1) l m 0]) (by kernel_rfl) ?_
  refine ok_stop ?_
  refine go_call (some 23) [0] Tryz.call42 (fendN f sc pth (vP w) (.nilIface) fr sz 0 m) (by kernel_rfl) ?_
  rintro v post ⟨rfl, rfl⟩
  refine go_exec (rs := []) (by kernel_rfl) 4000 [] (o := .ret (undef) [Eb47ce w wsc 0 wp (-1) l m 0, E7c595 f sc fr sz pth (vP w) true m]) (by kernel_rfl) ?_
  exact ret_ok (post := [E7c595 f sc fr sz pth (vP w) true m, Eb47ce w wsc 0 wp (-1) l m 0]) [1, 0] (by kernel_rfl) ⟨rfl, (by kernel_rfl)⟩


theorem fStep1 (f ba bs bf : Nat) (fr sz : Int) (a : Option Addr) (c0 : Nat) (A : Ar) (hn : A.ws.length = A.n) (hs : 0 ≤ A.steps ∧ A.steps ≤ 1000000000) (hfr : 0 ≤ fr ∧ fr + 3 < A.n ∧ (A.n : Int) ≤ 100000) (hsz : 4 ≤ sz) (hw : A.ws.getD fr.toNat 0 = 5) :
    Ctr Tryz.prog 15 #[vP f, vP ba] [E18c61 f (.slice (some ⟨bs, 0, none⟩) 1 1) fr sz a (([1, 0] : List Int).length) c0 (.pointer none) false 0, .pts bs [.slice (some ⟨bf, 0, none⟩) 2 2] 34, E1356c bf 1 0 3 0, Ee1326 a c0 ([1, 0] : List Int), Ebed9f ba A, E632c4 A] (fun v L => ∃ (w : Nat) (a2 : Option Addr) (c2 : Nat), v = .bool false ∧ L = [E18c61 f (.slice (some ⟨bs, 0, none⟩) 1 1) fr sz a (([1, 0] : List Int).length) c0 (vP w) false 0, E0aaf3 w (.slice (some ⟨bs, 0, none⟩) 1 1) 0 a2 (([1, 0] : List Int).length) c2 2 0 0 0, .pts bs [.slice (some ⟨bf, 0, none⟩) 2 2] 34, E1356c bf 1 0 3 0, Ee1326 a c0 ([1, 0] : List Int), Ee1326 a2 c2 ([1, 0] : List Int), Ebed9f ba (A.load fr), E632c4 (A.load fr)]) := by
  refine ctr_of (args := [vP f, vP ba]) (fn := Tryz.f15) (body := B15) (nt := 73) Tryz.func15 (by kernel_rfl) (by kernel_rfl) ?_
  intro F
  refine go_exec (rs := [.tmp 4]) (by kernel_rfl) 4000 [.z [0, 0, 0, 1] 1 [0, 1, 32]] (o := .stop [.o [0, 0, 0, 1] 1, .c [1, 0, 0, 1], .b 0, .c [1, 1]] [(0, vP f), (1, vP ba), (32, vP f)] [E18c61 f (.slice (some ⟨bs, 0, none⟩) 1 1) fr sz a (([1, 0] : List Int).length) c0 (.pointer none) false 0, .pts bs [.slice (some ⟨bf, 0, none⟩) 2 2] 34, E1356c bf 1 0 3 0, Ee1326 a c0 ([1, 0] : List Int), Ebed9f ba A, E632c4 A]) (by kernel_rfl) ?_
  refine ok_stop ?_
  refine go_call (some 33) [0] Tryz.call16 (fDoneF f (.slice (some ⟨bs, 0, none⟩) 1 1) (.slice a (([1, 0] : List Int).length) c0) (.pointer none) (.nilIface) fr sz 0) (by kernel_rfl) ?_
  rintro v post ⟨rfl, rfl⟩
  refine go_exec (rs := [.tmp 4]) (by kernel_rfl) 4000 [.e 5, .e 5, .z q55_0 5 [0, 40, 44]] (o := .obl (f = f) (.obl (f = f) (.stop [.o q55_0 5, .c [1, 0, 1, 1, 1, 0, 0, 1], .b 0, .c [1, 1]] [(0, vP f), (40, vP ba), (44, vI fr)] [.pts bs [.slice (some ⟨bf, 0, none⟩) 2 2] 34, E1356c bf 1 0 3 0, Ee1326 a c0 ([1, 0] : List Int), Ebed9f ba A, E632c4 A, E18c61 f (.slice (some ⟨bs, 0, none⟩) 1 1) fr sz a (([1, 0] : List Int).length) c0 (.pointer none) false 0]))) (by kernel_rfl) ?_
  refine ok_obl rfl ?_
  refine ok_obl rfl ?_
  refine ok_stop ?_
  refine go_call (some 45) [3, 4] Tryz.call40 (arena_Load ba A fr (by first | assumption | omega | (simp only [InK] at *; omega)) (by first | assumption | omega | (simp only [InK] at *; omega)) (by first | assumption | omega | (simp only [InK] at *; omega))) (by kernel_rfl) ?_
  rintro v post ⟨rfl, rfl⟩
  refine go_exec (rs := [.tmp 4]) (by kernel_rfl) 4000 [.n, .z q55_1 0 [0, 5]] (o := .obl ((0 : Int) ≤ 32) (.stop [.c q55_1, .c [1, 1, 0, 1, 1, 1, 0, 0, 1], .b 0, .c [1, 1]] [(0, vP f), (5, vU (bShr .u64 (A.ws.getD fr.toNat 0) 32))] [.pts bs [.slice (some ⟨bf, 0, none⟩) 2 2] 34, E1356c bf 1 0 3 0, Ee1326 a c0 ([1, 0] : List Int), E18c61 f (.slice (some ⟨bs, 0, none⟩) 1 1) fr sz a (([1, 0] : List Int).length) c0 (.pointer none) false 0, Ebed9f ba (A.load fr), E632c4 (A.load fr)])) (by kernel_rfl) ?_
  refine ok_obl (by first | omega | (simp; done) | (simp; omega)) ?_
  refine ok_stop ?_
  refine go_cast (tm' := [(0, vP f), (5, vU 0)]) (L' := [.pts bs [.slice (some ⟨bf, 0, none⟩) 2 2] 34, E1356c bf 1 0 3 0, Ee1326 a c0 ([1, 0] : List Int), E18c61 f (.slice (some ⟨bs, 0, none⟩) 1 1) fr sz a (([1, 0] : List Int).length) c0 (.pointer none) false 0, Ebed9f ba (A.load fr), E632c4 (A.load fr)]) (by rw [show (bShr .u64 (A.ws.getD fr.toNat 0) 32) = 0 from (by rw [hw]; decide)]) ?_
  refine go_lz (by kernel_rfl) (by kernel_rfl) ?_
  refine lz_node (l' := (mk 15 [0, 1, 2, 3, 4, 5, 6, 7, 8, 9, 10])) (V' := [0, 1, 2, 3, 4, 5, 6, 7, 8, 9, 10]) (T1 := [(0, vP f), (5, vU 0), (47, vP f), (48, vP f), (49, vP f), (50, vP f), (51, .slice (some ⟨bs, 0, none⟩) 1 1), (52, vU 0), (53, vI 0), (54, vP f), (55, vP f), (56, .pointer (some ⟨f, 3, none⟩)), (57, .slice a (([1, 0] : List Int).length) c0)]) (ps := [f = f, f = f]) [0, 1, 2, 3, 4, 5, 6, 7, 8, 9, 10] [(0, .h .w), (1, .h .w), (2, .h .w), (3, .h .w), (4, .h (.e 3)), (5, .h .w), (6, .h (.w)), (7, .h .w), (8, .h .w), (9, .h .w), (10, .h (.e 3))] [0, 5, 47, 48, 49, 50, 51, 52, 53, 54, 55, 56, 57] [11] (by kernel_rfl) ⟨rfl, rfl, trivial⟩ ⟨?_, trivial⟩
  refine lz_call (l' := (mk 15 [0, 1, 2, 3, 4, 5, 6, 7, 8, 9, 10, 11])) (V' := [0]) (some 58) [0, 1, 2] Tryz.call41 (walk_Start bs bf a c0) (by kernel_rfl) ?_
  rintro v post ⟨w_11_1, a2_11_1, c2_11_1, rfl, rfl⟩
  refine lz_node (l' := (mk 15 [0, 1, 2, 3, 4, 5, 6, 7, 8, 9, 10, 11, 12, 13])) (V' := [0, 12, 13]) (T1 := [(58, vP w_11_1), (0, vP f), (47, vP f), (59, vP f), (60, .pointer (some ⟨f, 4, none⟩))]) (ps := []) [12, 13] [(0, .h .w), (12, .h .w), (13, .h .w)] [58, 0, 47, 59, 60] [14] (by kernel_rfl) trivial ⟨?_, trivial⟩
  refine lz_op (l' := (mk 15 [0, 1, 2, 3, 4, 5, 6, 7, 8, 9, 10, 11, 12, 13, 14])) (V' := []) (so := .obl (f = f) (.ok .skip [E18c61 f (.slice (some ⟨bs, 0, none⟩) 1 1) fr sz a (([1, 0] : List Int).length) c0 (vP w_11_1) false 0, Ebed9f ba (A.load fr), E632c4 (A.load fr), E0aaf3 w_11_1 (.slice (some ⟨bs, 0, none⟩) 1 1) 0 a2_11_1 (([1, 0] : List Int).length) c2_11_1 2 0 0 0, .pts bs [.slice (some ⟨bf, 0, none⟩) 2 2] 34, E1356c bf 1 0 3 0, Ee1326 a c0 ([1, 0] : List Int), Ee1326 a2_11_1 c2_11_1 ([1, 0] : List Int)])) (dst := none) (.e 0) (by kernel_rfl) ?_
  refine sat_obl rfl ?_
  refine sat_skip ?_
  refine lz_end (T1 := [(0, vP f)]) (ps := []) [] [] [0] (by kernel_rfl) trivial ?_
  refine go_exec (rs := [.tmp 4]) (by kernel_rfl) 4000 [.e 0, .z q55_2 1 [0, 69]] (o := .obl (f = f) (.stop [.o q55_2 1, .b 0, .c [1, 1]] [(0, vP f), (69, vP f)] [E18c61 f (.slice (some ⟨bs, 0, none⟩) 1 1) fr sz a (([1, 0] : List Int).length) c0 (vP w_11_1) false 0, Ebed9f ba (A.load fr), E632c4 (A.load fr), E0aaf3 w_11_1 (.slice (some ⟨bs, 0, none⟩) 1 1) 0 a2_11_1 (([1, 0] : List Int).length) c2_11_1 2 0 0 0, .pts bs [.slice (some ⟨bf, 0, none⟩) 2 2] 34, E1356c bf 1 0 3 0, Ee1326 a c0 ([1, 0] : List Int), Ee1326 a2_11_1 c2_11_1 ([1, 0] : List Int)])) (by kernel_rfl) ?_
  refine ok_obl rfl ?_
  refine ok_stop ?_
  refine go_call (some 70) [0, 3] Tryz.call43 (fnext2 f w_11_1 fr sz (.slice (some ⟨bs, 0, none⟩) 1 1) (.slice a (([1, 0] : List Int).length) c0) (.slice (some ⟨bs, 0, none⟩) 1 1) (.slice a2_11_1 (([1, 0] : List Int).length) c2_11_1) 0 (by first | assumption | omega | (simp only [InK] at *; omega))) (by kernel_rfl) ?_
  rintro v post ⟨rfl, rfl⟩
  refine go_exec (rs := [.tmp 4]) (by kernel_rfl) 4000 [.z [0, 1, 1] 1 [71]] (o := .stop [.o [0, 1, 1] 1, .c [1, 1, 1]] [(71, vP f)] [Ebed9f ba (A.load fr), E632c4 (A.load fr), .pts bs [.slice (some ⟨bf, 0, none⟩) 2 2] 34, E1356c bf 1 0 3 0, Ee1326 a c0 ([1, 0] : List Int), Ee1326 a2_11_1 c2_11_1 ([1, 0] : List Int), E18c61 f (.slice (some ⟨bs, 0, none⟩) 1 1) fr sz a (([1, 0] : List Int).length) c0 (vP w_11_1) false 0, E0aaf3 w_11_1 (.slice (some ⟨bs, 0, none⟩) 1 1) 0 a2_11_1 (([1, 0] : List Int).length) c2_11_1 2 0 0 0]) (by kernel_rfl) ?_
  refine ok_stop ?_
  refine go_call (some 72) [6] Tryz.call16 (fDoneF f (.slice (some ⟨bs, 0, none⟩) 1 1) (.slice a (([1, 0] : List Int).length) c0) (vP w_11_1) (.nilIface) fr sz 0) (by kernel_rfl) ?_
  rintro v post ⟨rfl, rfl⟩
  refine go_exec (rs := [.tmp 4]) (by kernel_rfl) 4000 [] (o := .ret (.bool false) [Ebed9f ba (A.load fr), E632c4 (A.load fr), .pts bs [.slice (some ⟨bf, 0, none⟩) 2 2] 34, E1356c bf 1 0 3 0, Ee1326 a c0 ([1, 0] : List Int), Ee1326 a2_11_1 c2_11_1 ([1, 0] : List Int), E0aaf3 w_11_1 (.slice (some ⟨bs, 0, none⟩) 1 1) 0 a2_11_1 (([1, 0] : List Int).length) c2_11_1 2 0 0 0, E18c61 f (.slice (some ⟨bs, 0, none⟩) 1 1) fr sz a (([1, 0] : List Int).length) c0 (vP w_11_1) false 0]) (by kernel_rfl) ?_
  exact ret_ok (post := [E18c61 f (.slice (some ⟨bs, 0, none⟩) 1 1) fr sz a (([1, 0] : List Int).length) c0 (vP w_11_1) false 0, E0aaf3 w_11_1 (.slice (some ⟨bs, 0, none⟩) 1 1) 0 a2_11_1 (([1, 0] : List Int).length) c2_11_1 2 0 0 0, .pts bs [.slice (some ⟨bf, 0, none⟩) 2 2] 34, E1356c bf 1 0 3 0, Ee1326 a c0 ([1, 0] : List Int), Ee1326 a2_11_1 c2_11_1 ([1, 0] : List Int), Ebed9f ba (A.load fr), E632c4 (A.load fr)]) [7, 6, 2, 3, 4, 5, 0, 1] (by kernel_rfl) ⟨w_11_1, a2_11_1, c2_11_1, rfl, (by kernel_rfl)⟩


theorem fStep2 (f w ba bs bf c2 : Nat) (a2 : Option Addr) (fr sz : Int) (a : Option Addr) (c0 : Nat) (A : Ar) (hn : A.ws.length = A.n) (hs : 0 ≤ A.steps ∧ A.steps ≤ 1000000000) (hfr : 0 ≤ fr ∧ fr + 3 < A.n ∧ (A.n : Int) ≤ 100000) (hsz : 4 ≤ sz) (hw : A.ws.getD (fr + 2).toNat 0 = 8589934593) :
    Ctr Tryz.prog 15 #[vP f, vP ba] [E18c61 f (.slice (some ⟨bs, 0, none⟩) 1 1) fr sz a (([1, 0] : List Int).length) c0 (vP w) false 0, E0aaf3 w (.slice (some ⟨bs, 0, none⟩) 1 1) 0 a2 (([1, 0] : List Int).length) c2 2 0 0 0, .pts bs [.slice (some ⟨bf, 0, none⟩) 2 2] 34, E1356c bf 1 0 3 0, Ee1326 a c0 ([1, 0] : List Int), Ee1326 a2 c2 ([1, 0] : List Int), Ebed9f ba A, E632c4 A] (fun v L => ∃ (a3 : Option Addr) (c3 : Nat), v = .bool false ∧ L = [E18c61 f (.slice (some ⟨bs, 0, none⟩) 1 1) fr sz a (([1, 0] : List Int).length) c0 (vP w) false 0, E0aaf3 w (.slice (some ⟨bs, 0, none⟩) 1 1) 0 a3 (([0] : List Int).length) c3 3 3 0 0, .pts bs [.slice (some ⟨bf, 0, none⟩) 2 2] 34, E1356c bf 1 0 3 0, Ee1326 a c0 ([1, 0] : List Int), Ee1326 a3 c3 ([0] : List Int), Ebed9f ba (A.load (fr + 2)), E632c4 (A.load (fr + 2))]) := by
  refine ctr_of (args := [vP f, vP ba]) (fn := Tryz.f15) (body := B15) (nt := 73) Tryz.func15 (by kernel_rfl) (by kernel_rfl) ?_
  intro F
  refine go_exec (rs := [.tmp 4]) (by kernel_rfl) 4000 [.z [0, 0, 0, 1] 1 [0, 1, 32]] (o := .stop [.o [0, 0, 0, 1] 1, .c [1, 0, 0, 1], .b 0, .c [1, 1]] [(0, vP f), (1, vP ba), (32, vP f)] [E18c61 f (.slice (some ⟨bs, 0, none⟩) 1 1) fr sz a (([1, 0] : List Int).length) c0 (vP w) false 0, E0aaf3 w (.slice (some ⟨bs, 0, none⟩) 1 1) 0 a2 (([1, 0] : List Int).length) c2 2 0 0 0, .pts bs [.slice (some ⟨bf, 0, none⟩) 2 2] 34, E1356c bf 1 0 3 0, Ee1326 a c0 ([1, 0] : List Int), Ee1326 a2 c2 ([1, 0] : List Int), Ebed9f ba A, E632c4 A]) (by kernel_rfl) ?_
  refine ok_stop ?_
  refine go_call (some 33) [0] Tryz.call16 (fDoneF f (.slice (some ⟨bs, 0, none⟩) 1 1) (.slice a (([1, 0] : List Int).length) c0) (vP w) (.nilIface) fr sz 0) (by kernel_rfl) ?_
  rintro v post ⟨rfl, rfl⟩
  refine go_exec (rs := [.tmp 4]) (by kernel_rfl) 4000 [.e 7, .e 7, .z q55_3 4 [0, 1, 12]] (o := .obl (f = f) (.obl (f = f) (.stop [.o q55_3 4, .c q55_4, .b 0, .c [1, 1]] [(0, vP f), (1, vP ba), (12, vP w)] [E0aaf3 w (.slice (some ⟨bs, 0, none⟩) 1 1) 0 a2 (([1, 0] : List Int).length) c2 2 0 0 0, .pts bs [.slice (some ⟨bf, 0, none⟩) 2 2] 34, E1356c bf 1 0 3 0, Ee1326 a c0 ([1, 0] : List Int), Ee1326 a2 c2 ([1, 0] : List Int), Ebed9f ba A, E632c4 A, E18c61 f (.slice (some ⟨bs, 0, none⟩) 1 1) fr sz a (([1, 0] : List Int).length) c0 (vP w) false 0]))) (by kernel_rfl) ?_
  refine ok_obl rfl ?_
  refine ok_obl rfl ?_
  refine ok_stop ?_
  refine go_call (some 13) [0] Tryz.call44 (walk_Next2 w (.slice (some ⟨bs, 0, none⟩) 1 1) (.slice a2 (([1, 0] : List Int).length) c2) 0 0 0 0) (by kernel_rfl) ?_
  rintro v post ⟨rfl, rfl⟩
  refine go_exec (rs := [.tmp 4]) (by kernel_rfl) 4000 [.z q55_5 0 [0, 1, 6]] (o := .stop [.c q55_5, .c q55_6, .b 0, .c [1, 1]] [(0, vP f), (1, vP ba), (6, vI 2)] [.pts bs [.slice (some ⟨bf, 0, none⟩) 2 2] 34, E1356c bf 1 0 3 0, Ee1326 a c0 ([1, 0] : List Int), Ee1326 a2 c2 ([1, 0] : List Int), Ebed9f ba A, E632c4 A, E18c61 f (.slice (some ⟨bs, 0, none⟩) 1 1) fr sz a (([1, 0] : List Int).length) c0 (vP w) false 0, E0aaf3 w (.slice (some ⟨bs, 0, none⟩) 1 1) 0 a2 (([1, 0] : List Int).length) c2 2 0 0 0]) (by kernel_rfl) ?_
  refine ok_stop ?_
  refine go_lz (by kernel_rfl) (by kernel_rfl) ?_
  refine lz_node (l' := (mk 13 [0, 1, 2, 3, 4, 5, 6, 7, 8, 9, 10])) (V' := [0, 1, 2, 3, 4, 5, 6, 7, 8, 9, 10]) (T1 := [(0, vP f), (1, vP ba), (6, vI 2), (16, vP f), (17, vP f), (18, .pointer (some ⟨f, 4, none⟩)), (19, vP w), (20, vP ba), (21, vP f), (22, vP f), (23, .pointer (some ⟨f, 1, none⟩)), (24, vI fr), (25, vI 2), (26, vI (fr + 2))]) (ps := [f = f, f = f, InK .i64 (fr + 2)]) [0, 1, 2, 3, 4, 5, 6, 7, 8, 9, 10] [(0, .h .w), (1, .h .w), (2, .h .w), (3, .h (.e 6)), (4, .h .w), (5, .h .w), (6, .h .w), (7, .h .w), (8, .h (.e 6)), (9, .h .w), (10, .h (.n))] [0, 1, 6, 16, 17, 18, 19, 20, 21, 22, 23, 24, 25, 26] [11] (by kernel_rfl) ⟨rfl, rfl, (by simp only [InK]; omega), trivial⟩ ⟨?_, trivial⟩
  refine lz_call (l' := (mk 13 [0, 1, 2, 3, 4, 5, 6, 7, 8, 9, 10, 11])) (V' := [0, 1, 2, 3]) (some 27) [4, 5] Tryz.call40 (arena_Load ba A (fr + 2) (by first | assumption | omega | (simp only [InK] at *; omega)) (by first | assumption | omega | (simp only [InK] at *; omega)) (by first | assumption | omega | (simp only [InK] at *; omega))) (by kernel_rfl) ?_
  rintro v post ⟨rfl, rfl⟩
  refine lz_node (l' := (mk 13 [0, 1, 2, 3, 4, 5, 6, 7, 8, 9, 10, 11])) (V' := [0, 1, 2, 3]) (T1 := [(27, vU (A.ws.getD (fr + 2).toNat 0)), (0, vP f), (16, vP f), (17, vP f), (18, .pointer (some ⟨f, 4, none⟩)), (19, vP w)]) (ps := [f = f]) [] [(0, .h .w), (1, .h .w), (2, .h .w), (3, .h (.e 4))] [27, 0, 16, 17, 18, 19] [12] (by kernel_rfl) ⟨rfl, trivial⟩ ⟨?_, trivial⟩
  refine lz_call (l' := (mk 13 [0, 1, 2, 3, 4, 5, 6, 7, 8, 9, 10, 11, 12])) (V' := []) (some 28) [5, 0, 1, 3] Tryz.call45 (walk_Give1w w bs bf a2 c2 (A.ws.getD (fr + 2).toNat 0) hw) (by kernel_rfl) ?_
  rintro v post ⟨a3_12_1, c3_12_1, rfl, rfl⟩
  refine lz_end (T1 := [(0, vP f)]) (ps := []) [] [] [0] (by kernel_rfl) trivial ?_
  refine go_exec (rs := [.tmp 4]) (by kernel_rfl) 4000 [.z q55_6 1 [0, 29]] (o := .stop [.o q55_6 1, .b 0, .c [1, 1]] [(0, vP f), (29, vP f)] [Ee1326 a c0 ([1, 0] : List Int), E18c61 f (.slice (some ⟨bs, 0, none⟩) 1 1) fr sz a (([1, 0] : List Int).length) c0 (vP w) false 0, Ebed9f ba (A.load (fr + 2)), E632c4 (A.load (fr + 2)), E0aaf3 w (.slice (some ⟨bs, 0, none⟩) 1 1) 0 a3_12_1 (([0] : List Int).length) c3_12_1 3 3 0 0, .pts bs [.slice (some ⟨bf, 0, none⟩) 2 2] 34, E1356c bf 1 0 3 0, Ee1326 a3_12_1 c3_12_1 ([0] : List Int)]) (by kernel_rfl) ?_
  refine ok_stop ?_
  refine go_call (some 30) [1, 4] Tryz.call43 (fnext3 f w fr sz (.slice (some ⟨bs, 0, none⟩) 1 1) (.slice a (([1, 0] : List Int).length) c0) (.slice (some ⟨bs, 0, none⟩) 1 1) (.slice a3_12_1 (([0] : List Int).length) c3_12_1) 3 (by first | assumption | omega | (simp only [InK] at *; omega))) (by kernel_rfl) ?_
  rintro v post ⟨rfl, rfl⟩
  refine go_exec (rs := [.tmp 4]) (by kernel_rfl) 4000 [.z [0, 1, 1] 1 [71]] (o := .stop [.o [0, 1, 1] 1, .c [1, 1, 1]] [(71, vP f)] [Ee1326 a c0 ([1, 0] : List Int), Ebed9f ba (A.load (fr + 2)), E632c4 (A.load (fr + 2)), .pts bs [.slice (some ⟨bf, 0, none⟩) 2 2] 34, E1356c bf 1 0 3 0, Ee1326 a3_12_1 c3_12_1 ([0] : List Int), E18c61 f (.slice (some ⟨bs, 0, none⟩) 1 1) fr sz a (([1, 0] : List Int).length) c0 (vP w) false 0, E0aaf3 w (.slice (some ⟨bs, 0, none⟩) 1 1) 0 a3_12_1 (([0] : List Int).length) c3_12_1 3 3 0 0]) (by kernel_rfl) ?_
  refine ok_stop ?_
  refine go_call (some 72) [6] Tryz.call16 (fDoneF f (.slice (some ⟨bs, 0, none⟩) 1 1) (.slice a (([1, 0] : List Int).length) c0) (vP w) (.nilIface) fr sz 0) (by kernel_rfl) ?_
  rintro v post ⟨rfl, rfl⟩
  refine go_exec (rs := [.tmp 4]) (by kernel_rfl) 4000 [] (o := .ret (.bool false) [Ee1326 a c0 ([1, 0] : List Int), Ebed9f ba (A.load (fr + 2)), E632c4 (A.load (fr + 2)), .pts bs [.slice (some ⟨bf, 0, none⟩) 2 2] 34, E1356c bf 1 0 3 0, Ee1326 a3_12_1 c3_12_1 ([0] : List Int), E0aaf3 w (.slice (some ⟨bs, 0, none⟩) 1 1) 0 a3_12_1 (([0] : List Int).length) c3_12_1 3 3 0 0, E18c61 f (.slice (some ⟨bs, 0, none⟩) 1 1) fr sz a (([1, 0] : List Int).length) c0 (vP w) false 0]) (by kernel_rfl) ?_
  exact ret_ok (post := [E18c61 f (.slice (some ⟨bs, 0, none⟩) 1 1) fr sz a (([1, 0] : List Int).length) c0 (vP w) false 0, E0aaf3 w (.slice (some ⟨bs, 0, none⟩) 1 1) 0 a3_12_1 (([0] : List Int).length) c3_12_1 3 3 0 0, .pts bs [.slice (some ⟨bf, 0, none⟩) 2 2] 34, E1356c bf 1 0 3 0, Ee1326 a c0 ([1, 0] : List Int), Ee1326 a3_12_1 c3_12_1 ([0] : List Int), Ebed9f ba (A.load (fr + 2)), E632c4 (A.load (fr + 2))]) [7, 6, 3, 4, 0, 5, 1, 2] (by kernel_rfl) ⟨a3_12_1, c3_12_1, rfl, (by kernel_rfl)⟩


theorem fStep3 (f w ba bs : Nat) (pth : Value) (fr sz : Int) (a : Option Addr) (c0 : Nat) (A : Ar) (hn : A.ws.length = A.n) (hs : 0 ≤ A.steps ∧ A.steps ≤ 1000000000) (hfr : 0 ≤ fr ∧ fr + 3 < A.n ∧ (A.n : Int) ≤ 100000) :
    Ctr Tryz.prog 15 #[vP f, vP ba] [E18c61 f (.slice (some ⟨bs, 0, none⟩) 1 1) fr sz a (([1, 0] : List Int).length) c0 (vP w) false 0, Eb47ce w (.slice (some ⟨bs, 0, none⟩) 1 1) 0 pth 3 3 0 0, Ebed9f ba A, E632c4 A] (Ret (.bool true) [E18c61 f (.slice (some ⟨bs, 0, none⟩) 1 1) fr sz a (([1, 0] : List Int).length) c0 (vP w) true (A.ws.getD (fr + 3).toNat 0), Eb47ce w (.slice (some ⟨bs, 0, none⟩) 1 1) 0 pth (-1) 3 (A.ws.getD (fr + 3).toNat 0) 0, Ebed9f ba (A.load (fr + 3)), E632c4 (A.load (fr + 3))]) := by
  refine ctr_of (args := [vP f, vP ba]) (fn := Tryz.f15) (body := B15) (nt := 73) Tryz.func15 (by kernel_rfl) (by kernel_rfl) ?_
  intro F
  refine go_exec (rs := [.tmp 4]) (by kernel_rfl) 4000 [.z [0, 0, 0, 1] 1 [0, 1, 32]] (o := .stop [.o [0, 0, 0, 1] 1, .c [1, 0, 0, 1], .b 0, .c [1, 1]] [(0, vP f), (1, vP ba), (32, vP f)] [E18c61 f (.slice (some ⟨bs, 0, none⟩) 1 1) fr sz a (([1, 0] : List Int).length) c0 (vP w) false 0, Eb47ce w (.slice (some ⟨bs, 0, none⟩) 1 1) 0 pth 3 3 0 0, Ebed9f ba A, E632c4 A]) (by kernel_rfl) ?_
  refine ok_stop ?_
  refine go_call (some 33) [0] Tryz.call16 (fDoneF f (.slice (some ⟨bs, 0, none⟩) 1 1) (.slice a (([1, 0] : List Int).length) c0) (vP w) (.nilIface) fr sz 0) (by kernel_rfl) ?_
  rintro v post ⟨rfl, rfl⟩
  refine go_exec (rs := [.tmp 4]) (by kernel_rfl) 4000 [.e 3, .e 3, .z q55_3 4 [0, 1, 12]] (o := .obl (f = f) (.obl (f = f) (.stop [.o q55_3 4, .c q55_4, .b 0, .c [1, 1]] [(0, vP f), (1, vP ba), (12, vP w)] [Eb47ce w (.slice (some ⟨bs, 0, none⟩) 1 1) 0 pth 3 3 0 0, Ebed9f ba A, E632c4 A, E18c61 f (.slice (some ⟨bs, 0, none⟩) 1 1) fr sz a (([1, 0] : List Int).length) c0 (vP w) false 0]))) (by kernel_rfl) ?_
  refine ok_obl rfl ?_
  refine ok_obl rfl ?_
  refine ok_stop ?_
  refine go_call (some 13) [0] Tryz.call44 (walk_Next3 w (.slice (some ⟨bs, 0, none⟩) 1 1) pth 0 3 0 0) (by kernel_rfl) ?_
  rintro v post ⟨rfl, rfl⟩
  refine go_exec (rs := [.tmp 4]) (by kernel_rfl) 4000 [.z q55_5 0 [0, 1, 6]] (o := .stop [.c q55_5, .c q55_6, .b 0, .c [1, 1]] [(0, vP f), (1, vP ba), (6, vI 3)] [Ebed9f ba A, E632c4 A, E18c61 f (.slice (some ⟨bs, 0, none⟩) 1 1) fr sz a (([1, 0] : List Int).length) c0 (vP w) false 0, Eb47ce w (.slice (some ⟨bs, 0, none⟩) 1 1) 0 pth 3 3 0 0]) (by kernel_rfl) ?_
  refine ok_stop ?_
  refine go_lz (by kernel_rfl) (by kernel_rfl) ?_
  refine lz_node (l' := (mk 13 [0, 1, 2, 3, 4, 5, 6, 7, 8, 9, 10])) (V' := [0, 1, 2, 3, 4, 5, 6, 7, 8, 9, 10]) (T1 := [(0, vP f), (1, vP ba), (6, vI 3), (16, vP f), (17, vP f), (18, .pointer (some ⟨f, 4, none⟩)), (19, vP w), (20, vP ba), (21, vP f), (22, vP f), (23, .pointer (some ⟨f, 1, none⟩)), (24, vI fr), (25, vI 3), (26, vI (fr + 3))]) (ps := [f = f, f = f, InK .i64 (fr + 3)]) [0, 1, 2, 3, 4, 5, 6, 7, 8, 9, 10] [(0, .h .w), (1, .h .w), (2, .h .w), (3, .h (.e 2)), (4, .h .w), (5, .h .w), (6, .h .w), (7, .h .w), (8, .h (.e 2)), (9, .h .w), (10, .h (.n))] [0, 1, 6, 16, 17, 18, 19, 20, 21, 22, 23, 24, 25, 26] [11] (by kernel_rfl) ⟨rfl, rfl, (by simp only [InK]; omega), trivial⟩ ⟨?_, trivial⟩
  refine lz_call (l' := (mk 13 [0, 1, 2, 3, 4, 5, 6, 7, 8, 9, 10, 11])) (V' := [0, 1, 2, 3]) (some 27) [0, 1] Tryz.call40 (arena_Load ba A (fr + 3) (by first | assumption | omega | (simp only [InK] at *; omega)) (by first | assumption | omega | (simp only [InK] at *; omega)) (by first | assumption | omega | (simp only [InK] at *; omega))) (by kernel_rfl) ?_
  rintro v post ⟨rfl, rfl⟩
  refine lz_node (l' := (mk 13 [0, 1, 2, 3, 4, 5, 6, 7, 8, 9, 10, 11])) (V' := [0, 1, 2, 3]) (T1 := [(27, vU (A.ws.getD (fr + 3).toNat 0)), (0, vP f), (16, vP f), (17, vP f), (18, .pointer (some ⟨f, 4, none⟩)), (19, vP w)]) (ps := [f = f]) [] [(0, .h .w), (1, .h .w), (2, .h .w), (3, .h (.e 0))] [27, 0, 16, 17, 18, 19] [12] (by kernel_rfl) ⟨rfl, trivial⟩ ⟨?_, trivial⟩
  refine lz_call (l' := (mk 13 [0, 1, 2, 3, 4, 5, 6, 7, 8, 9, 10, 11, 12])) (V' := []) (some 28) [1] Tryz.call45 (walk_Give2 w bs pth (A.ws.getD (fr + 3).toNat 0)) (by kernel_rfl) ?_
  rintro v post ⟨rfl, rfl⟩
  refine lz_end (T1 := [(0, vP f)]) (ps := []) [] [] [0] (by kernel_rfl) trivial ?_
  refine go_exec (rs := [.tmp 4]) (by kernel_rfl) 4000 [.z q55_6 1 [0, 29]] (o := .stop [.o q55_6 1, .b 0, .c [1, 1]] [(0, vP f), (29, vP f)] [E18c61 f (.slice (some ⟨bs, 0, none⟩) 1 1) fr sz a (([1, 0] : List Int).length) c0 (vP w) false 0, Ebed9f ba (A.load (fr + 3)), E632c4 (A.load (fr + 3)), Eb47ce w (.slice (some ⟨bs, 0, none⟩) 1 1) 0 pth (-1) 3 (A.ws.getD (fr + 3).toNat 0) 0]) (by kernel_rfl) ?_
  refine ok_stop ?_
  refine go_call (some 30) [0, 3] Tryz.call43 (fnextE f w fr sz (.slice (some ⟨bs, 0, none⟩) 1 1) (.slice a (([1, 0] : List Int).length) c0) (.slice (some ⟨bs, 0, none⟩) 1 1) pth 3 (A.ws.getD (fr + 3).toNat 0)) (by kernel_rfl) ?_
  rintro v post ⟨rfl, rfl⟩
  refine go_exec (rs := [.tmp 4]) (by kernel_rfl) 4000 [.z [0, 1, 1] 1 [71]] (o := .stop [.o [0, 1, 1] 1, .c [1, 1, 1]] [(71, vP f)] [Ebed9f ba (A.load (fr + 3)), E632c4 (A.load (fr + 3)), E18c61 f (.slice (some ⟨bs, 0, none⟩) 1 1) fr sz a (([1, 0] : List Int).length) c0 (vP w) true (A.ws.getD (fr + 3).toNat 0), Eb47ce w (.slice (some ⟨bs, 0, none⟩) 1 1) 0 pth (-1) 3 (A.ws.getD (fr + 3).toNat 0) 0]) (by kernel_rfl) ?_
  refine ok_stop ?_
  refine go_call (some 72) [2] Tryz.call16 (fDoneT f (.slice (some ⟨bs, 0, none⟩) 1 1) (.slice a (([1, 0] : List Int).length) c0) (vP w) (.nilIface) fr sz (A.ws.getD (fr + 3).toNat 0)) (by kernel_rfl) ?_
  rintro v post ⟨rfl, rfl⟩
  refine go_exec (rs := [.tmp 4]) (by kernel_rfl) 4000 [] (o := .ret (.bool true) [Ebed9f ba (A.load (fr + 3)), E632c4 (A.load (fr + 3)), Eb47ce w (.slice (some ⟨bs, 0, none⟩) 1 1) 0 pth (-1) 3 (A.ws.getD (fr + 3).toNat 0) 0, E18c61 f (.slice (some ⟨bs, 0, none⟩) 1 1) fr sz a (([1, 0] : List Int).length) c0 (vP w) true (A.ws.getD (fr + 3).toNat 0)]) (by kernel_rfl) ?_
  exact ret_ok (post := [E18c61 f (.slice (some ⟨bs, 0, none⟩) 1 1) fr sz a (([1, 0] : List Int).length) c0 (vP w) true (A.ws.getD (fr + 3).toNat 0), Eb47ce w (.slice (some ⟨bs, 0, none⟩) 1 1) 0 pth (-1) 3 (A.ws.getD (fr + 3).toNat 0) 0, Ebed9f ba (A.load (fr + 3)), E632c4 (A.load (fr + 3))]) [3, 2, 0, 1] (by kernel_rfl) ⟨rfl, (by kernel_rfl)⟩

noncomputable def B18 : Code := (Tryz.f18.body).getD .skip

theorem newField2 (c : Cfg) (bk : Int) (bs bf bp : Nat) (hc : c.Ok) (hk : InK .i64 bk) (hcls : clsOf c bk = 0) :
    Ctr Tryz.prog 18 #[cfgV c, .slice (some ⟨bs, 0, none⟩) 1 1, vI bk, .slice (some ⟨bp, 0, none⟩) 2 2] [.pts bs [.slice (some ⟨bf, 0, none⟩) 2 2] 34, E1356c bf 1 0 3 0, .pts bp [vI 1, vI 0] 3] (fun v L => ∃ (f : Nat) (a : Option Addr) (c0 : Nat), v = vP f ∧ L = [E18c61 f (.slice (some ⟨bs, 0, none⟩) 1 1) (blockAt c bk + 1) c.s0 a (([1, 0] : List Int).length) c0 (.pointer none) false 0, Ee1326 a c0 ([1, 0] : List Int), .pts bs [.slice (some ⟨bf, 0, none⟩) 2 2] 34, E1356c bf 1 0 3 0, .pts bp [vI 1, vI 0] 3]) := by
  refine ctr_of (args := [cfgV c, .slice (some ⟨bs, 0, none⟩) 1 1, vI bk, .slice (some ⟨bp, 0, none⟩) 2 2]) (fn := Tryz.f18) (body := B18) (nt := 35) Tryz.func18 (by kernel_rfl) (by kernel_rfl) ?_
  intro F
  refine go_exec (rs := [.tmp 8]) (by kernel_rfl) 4000 [.e 3, .z [0, 1] 2 [1, 2, 3, 4, 10, 11]] (o := .new fun b_1 => .obl (b_1 = b_1) (.stop [.o [0, 1] 2, .c [1, 1]] [(1, .slice (some ⟨bs, 0, none⟩) 1 1), (2, vI bk), (3, .slice (some ⟨bp, 0, none⟩) 2 2), (4, vP b_1), (10, cfgV c), (11, vI bk)] [.pts bs [.slice (some ⟨bf, 0, none⟩) 2 2] 34, E1356c bf 1 0 3 0, .pts bp [vI 1, vI 0] 3, Efdc04 b_1 c])) (by kernel_rfl) ?_
  refine ok_new fun b_1 => ?_
  refine ok_obl rfl ?_
  refine ok_stop ?_
  refine go_call (some 12) [] Tryz.call48 (plan_Class_all c bk (by first | assumption | omega | (simp only [InK] at *; omega)) (by first | assumption | omega | (simp only [InK] at *; omega))) (by kernel_rfl) ?_
  rintro v post ⟨rfl, rfl⟩
  refine go_exec (rs := [.tmp 8]) (by kernel_rfl) 4000 [.z [0, 0, 1, 1] 0 [1, 2, 3, 4, 9]] (o := .stop [.o [0, 0, 1, 1] 0, .c [1, 0, 1, 1], .c [1, 1, 1]] [(1, .slice (some ⟨bs, 0, none⟩) 1 1), (2, vI bk), (3, .slice (some ⟨bp, 0, none⟩) 2 2), (4, vP b_1), (9, vI (clsOf c bk))] [.pts bs [.slice (some ⟨bf, 0, none⟩) 2 2] 34, E1356c bf 1 0 3 0, .pts bp [vI 1, vI 0] 3, Efdc04 b_1 c]) (by kernel_rfl) ?_
  refine ok_stop ?_
  refine go_cast (tm' := [(1, .slice (some ⟨bs, 0, none⟩) 1 1), (2, vI bk), (3, .slice (some ⟨bp, 0, none⟩) 2 2), (4, vP b_1), (9, vI 0)]) (L' := [.pts bs [.slice (some ⟨bf, 0, none⟩) 2 2] 34, E1356c bf 1 0 3 0, .pts bp [vI 1, vI 0] 3, Efdc04 b_1 c]) (by rw [show clsOf c bk = 0 from hcls]) ?_
  refine go_exec (rs := [.tmp 8]) (by kernel_rfl) 4000 [.z [0, 0, 1, 1] 4 [1, 2, 3, 4, 9, 15, 16]] (o := .stop [.o [0, 0, 1, 1] 4, .c [1, 0, 1, 1], .c [1, 1, 1]] [(1, .slice (some ⟨bs, 0, none⟩) 1 1), (2, vI bk), (3, .slice (some ⟨bp, 0, none⟩) 2 2), (4, vP b_1), (9, vI 0), (15, .bool false), (16, .slice (some ⟨bs, 0, none⟩) 1 1)] [.pts bs [.slice (some ⟨bf, 0, none⟩) 2 2] 34, E1356c bf 1 0 3 0, .pts bp [vI 1, vI 0] 3, Efdc04 b_1 c]) (by kernel_rfl) ?_
  refine ok_stop ?_
  refine go_call (some 17) [0, 1] Tryz.call49 (sch_Check2 bs bf) (by kernel_rfl) ?_
  rintro v post ⟨rfl, rfl⟩
  refine go_exec (rs := [.tmp 8]) (by kernel_rfl) 4000 [.z [0, 1, 1, 1] 0 [1, 2, 3, 4, 9]] (o := .stop [.c [0, 1, 1, 1], .c [1, 1, 1, 1]] [(1, .slice (some ⟨bs, 0, none⟩) 1 1), (2, vI bk), (3, .slice (some ⟨bp, 0, none⟩) 2 2), (4, vP b_1), (9, vI 0)] [.pts bp [vI 1, vI 0] 3, Efdc04 b_1 c, .pts bs [.slice (some ⟨bf, 0, none⟩) 2 2] 34, E1356c bf 1 0 3 0]) (by kernel_rfl) ?_
  refine ok_stop ?_
  refine go_lz (by kernel_rfl) (by kernel_rfl) ?_
  refine lz_node (l' := (mk 16 [0, 1, 2, 3, 4, 5, 6, 7, 8, 9, 11])) (V' := [0, 1, 2, 3, 4, 5, 6, 7, 8, 9, 11]) (T1 := [(1, .slice (some ⟨bs, 0, none⟩) 1 1), (2, vI bk), (3, .slice (some ⟨bp, 0, none⟩) 2 2), (4, vP b_1), (9, vI 0), (20, .slice (some ⟨bs, 0, none⟩) 1 1), (21, cfgV c), (22, vI bk), (23, vI (blockAt c bk)), (24, vI ((blockAt c bk) + 1)), (25, vI 0), (26, .pointer (some ⟨b_1, 4, none⟩)), (27, .pointer (some ⟨b_1, 4, none⟩)), (28, .pointer (some ⟨b_1, 4, none⟩)), (29, vI c.s0), (31, .slice (some ⟨bp, 0, none⟩) 2 2)]) (ps := [b_1 = b_1, LawQ Tryz.prog F [.pts bp [vI 1, vI 0] 3, Efdc04 b_1 c, .pts bs [.slice (some ⟨bf, 0, none⟩) 2 2] 34, E1356c bf 1 0 3 0] (vI (blockAt c bk)) callO (37, #[cfgV c, vI bk]), InK .i64 ((blockAt c bk) + 1), b_1 = b_1]) [0, 1, 2, 3, 4, 5, 6, 7, 8, 9, 11] [(0, .h .w), (1, .h (.e 1)), (2, .h .w), (3, .q (vI (blockAt c bk))), (4, .h (.n)), (5, .h .w), (6, .h .w), (7, .h (.w)), (8, .h .w), (9, .h (.e 1)), (11, .h .w)] [1, 2, 3, 4, 9, 20, 21, 22, 23, 24, 25, 26, 27, 28, 29, 31] [10] (by kernel_rfl) ⟨rfl, (law_call Tryz.call37 (quiet_of [] (plan_Block c bk (by first | assumption | omega | (simp only [InK] at *; omega)) (by have := clsOf_ok (c := c) (b := bk) (by omega); simp only [Cfg.Ok, InK] at *; omega)) (by kernel_rfl) (by rintro v post ⟨rfl, rfl⟩; exact ⟨rfl, rfl⟩))), (by have hq := blockAt_ok hc (b := bk) (by omega); have := sizeOfC_ok hc; simp only [InK]; omega), rfl, trivial⟩ ⟨?_, trivial⟩
  refine lz_op (l' := (mk 16 [0, 1, 2, 3, 4, 5, 6, 7, 8, 9, 10, 11])) (V' := [0, 1, 2, 3, 4, 5, 6, 7, 8, 9, 11]) (so := .new fun b_10_1 => .ok (.value (.slice (some ⟨b_10_1, 0, none⟩) 0 0)) [.pts bp [vI 1, vI 0] 3, Efdc04 b_1 c, .pts bs [.slice (some ⟨bf, 0, none⟩) 2 2] 34, E1356c bf 1 0 3 0, .pts b_10_1 [] 3]) (dst := (some 30)) .w (by kernel_rfl) ?_
  refine sat_new fun b_10_1 => ?_
  refine sat_value ?_
  refine lz_node (l' := (mk 16 [0, 1, 2, 3, 4, 5, 6, 7, 8, 9, 10, 11])) (V' := [0, 1, 2, 3, 4, 5, 6, 7, 8, 9, 11]) (T1 := [(30, .slice (some ⟨b_10_1, 0, none⟩) 0 0), (1, .slice (some ⟨bs, 0, none⟩) 1 1), (2, vI bk), (3, .slice (some ⟨bp, 0, none⟩) 2 2), (4, vP b_1), (9, vI 0), (20, .slice (some ⟨bs, 0, none⟩) 1 1), (21, cfgV c), (22, vI bk), (23, vI (blockAt c bk)), (24, vI ((blockAt c bk) + 1)), (25, vI 0), (26, .pointer (some ⟨b_1, 4, none⟩)), (27, .pointer (some ⟨b_1, 4, none⟩)), (28, .pointer (some ⟨b_1, 4, none⟩)), (29, vI c.s0), (31, .slice (some ⟨bp, 0, none⟩) 2 2)]) (ps := [b_1 = b_1, LawQ Tryz.prog F [.pts bp [vI 1, vI 0] 3, Efdc04 b_1 c, .pts bs [.slice (some ⟨bf, 0, none⟩) 2 2] 34, E1356c bf 1 0 3 0, .pts b_10_1 [] 3] (vI (blockAt c bk)) callO (37, #[cfgV c, vI bk]), InK .i64 ((blockAt c bk) + 1), b_1 = b_1]) [] [(0, .h .w), (1, .h (.e 1)), (2, .h .w), (3, .q (vI (blockAt c bk))), (4, .h (.n)), (5, .h .w), (6, .h .w), (7, .h (.w)), (8, .h .w), (9, .h (.e 1)), (11, .h .w)] [30, 1, 2, 3, 4, 9, 20, 21, 22, 23, 24, 25, 26, 27, 28, 29, 31] [12] (by kernel_rfl) ⟨rfl, (law_call Tryz.call37 (quiet_of [] (plan_Block c bk (by first | assumption | omega | (simp only [InK] at *; omega)) (by have := clsOf_ok (c := c) (b := bk) (by omega); simp only [Cfg.Ok, InK] at *; omega)) (by kernel_rfl) (by rintro v post ⟨rfl, rfl⟩; exact ⟨rfl, rfl⟩))), (by have hq := blockAt_ok hc (b := bk) (by omega); have := sizeOfC_ok hc; simp only [InK]; omega), rfl, trivial⟩ ⟨?_, trivial⟩
  refine lzOp_view (L' := [.pts bp [vI 1, vI 0] 3, Efdc04 b_1 c, .pts bs [.slice (some ⟨bf, 0, none⟩) 2 2] 34, E1356c bf 1 0 3 0, Ee1326 (some ⟨b_10_1, 0, none⟩) 0 []]) (view_empty 4 (b := b_10_1) (encI .i64) 0 1 3 (sizedI _) (by kernel_rfl)) ?_
  refine lz_by (l' := (mk 16 [0, 1, 2, 3, 4, 5, 6, 7, 8, 9, 10, 11, 12])) (V' := [0, 4, 5, 6, 7, 8, 9]) (some 32) (appO Tryz.prog _) (some (.slice (some ⟨b_10_1, 0, none⟩) ([]).length 0, .slice (some ⟨bp, 0, none⟩) 2 2, (3, 1, 8))) (R_append 4 (a := (some ⟨b_10_1, 0, none⟩)) (c := 0) (enc := encI .i64) (d := 0) (sz := 1) (xs := []) (te := 3) (by kernel_rfl) (.slice (some ⟨bp, 0, none⟩) 2 2) [1, 0] (src_pts (i := 0) (t := 3) (by kernel_rfl)) (oneI _) 8 (by first | omega | (simp; done) | (simp; omega)) (by first | omega | (simp; done) | (simp; omega))) (by kernel_rfl) ?_
  rintro v L2 ⟨a_12_1, c_12_1, rfl, rfl⟩
  refine lz_node (l' := (mk 16 [0, 1, 2, 3, 4, 5, 6, 7, 8, 9, 10, 11, 12, 13])) (V' := [0, 4, 5, 6, 7, 8, 9, 13]) (T1 := [(32, .slice a_12_1 (([] ++ [1, 0]).length) c_12_1), (1, .slice (some ⟨bs, 0, none⟩) 1 1), (4, vP b_1), (9, vI 0), (23, vI (blockAt c bk)), (20, .slice (some ⟨bs, 0, none⟩) 1 1), (24, vI ((blockAt c bk) + 1)), (25, vI 0), (26, .pointer (some ⟨b_1, 4, none⟩)), (27, .pointer (some ⟨b_1, 4, none⟩)), (28, .pointer (some ⟨b_1, 4, none⟩)), (29, vI c.s0), (33, .agg #[.slice (some ⟨bs, 0, none⟩) 1 1, vI ((blockAt c bk) + 1), vI c.s0, .slice a_12_1 (([] ++ [1, 0]).length) c_12_1, .pointer none, .bool false, vU 0, .nilIface])]) (ps := [InK .i64 ((blockAt c bk) + 1), b_1 = b_1]) [13] [(0, .h .w), (4, .h (.n)), (5, .h .w), (6, .h .w), (7, .h (.w)), (8, .h .w), (9, .h (.e 1)), (13, .h .w)] [32, 1, 4, 9, 23, 20, 24, 25, 26, 27, 28, 29, 33] [14] (by kernel_rfl) ⟨(by have hq := blockAt_ok hc (b := bk) (by omega); have := sizeOfC_ok hc; simp only [InK]; omega), rfl, trivial⟩ ⟨?_, trivial⟩
  refine lz_op (l' := (mk 16 [0, 1, 2, 3, 4, 5, 6, 7, 8, 9, 10, 11, 12, 13, 14])) (V' := []) (so := .new fun b_14_1 => .ok (.value (vP b_14_1)) [.pts bp [vI 1, vI 0] 3, Efdc04 b_1 c, .pts bs [.slice (some ⟨bf, 0, none⟩) 2 2] 34, E1356c bf 1 0 3 0, Ee1326 a_12_1 c_12_1 ([] ++ [1, 0]), E18c61 b_14_1 (.slice (some ⟨bs, 0, none⟩) 1 1) ((blockAt c bk) + 1) c.s0 a_12_1 (([] ++ [1, 0]).length) c_12_1 (.pointer none) false 0]) (dst := (some 34)) .w (by kernel_rfl) ?_
  refine sat_new fun b_14_1 => ?_
  refine sat_value ?_
  refine lz_end (T1 := [(8, vP b_14_1)]) (ps := []) [15] [(15, .h .w)] [8] (by kernel_rfl) trivial ?_
  refine go_exec (rs := [.tmp 8]) (by kernel_rfl) 4000 [] (o := .ret (vP b_14_1) [.pts bp [vI 1, vI 0] 3, Efdc04 b_1 c, .pts bs [.slice (some ⟨bf, 0, none⟩) 2 2] 34, E1356c bf 1 0 3 0, Ee1326 a_12_1 c_12_1 ([] ++ [1, 0]), E18c61 b_14_1 (.slice (some ⟨bs, 0, none⟩) 1 1) ((blockAt c bk) + 1) c.s0 a_12_1 (([] ++ [1, 0]).length) c_12_1 (.pointer none) false 0]) (by kernel_rfl) ?_
  exact ret_ok (post := [E18c61 b_14_1 (.slice (some ⟨bs, 0, none⟩) 1 1) ((blockAt c bk) + 1) c.s0 a_12_1 (([] ++ [1, 0]).length) c_12_1 (.pointer none) false 0, Ee1326 a_12_1 c_12_1 ([] ++ [1, 0]), .pts bs [.slice (some ⟨bf, 0, none⟩) 2 2] 34, E1356c bf 1 0 3 0, .pts bp [vI 1, vI 0] 3]) [5, 4, 2, 3, 0] (by kernel_rfl) ⟨b_14_1, a_12_1, c_12_1, rfl, (by kernel_rfl)⟩


end Go.Proofs.YtiiepkjckmdmkaaGreatDoor


namespace Go.Proofs.YtiiepkjckmdmkaaGreatDoor
open Go.Sx
abbrev E9fb97 (x0 : Nat) (x1 : Int) (x2 : Int) (x3 : Int) (x4 : Bool) : Ent := .pts x0 [.int .i64 x1, .int .i64 x2, .int .i64 x3, .bool x4] 58
abbrev E9f921 (x0 : Nat) (x1 : Int) (x2 : Int) (x3 : Int) (x4 : Int) (x5 : Int) : Ent := .pts x0 [.int .u64 x1, .int .u64 x2, .int .u64 x3, .int .u64 x4, .int .u64 x5] 41
abbrev q56_0 : List Nat := [0, 0, 1, 0, 0, 1, 0, 1, 1, 1, 1, 1, 1]
abbrev q56_1 : List Nat := [1, 1, 0, 0, 1, 0, 1, 1, 1, 1, 1, 1]
abbrev q56_2 : List Nat := [0, 1, 0, 1, 1, 1, 1, 1, 1]
abbrev q56_3 : List Nat := [1, 1, 1, 1, 1, 1, 1]
abbrev q56_4 : List Nat := [0, 1, 1, 1, 1, 1, 1, 1]
abbrev q56_5 : List Nat := [0, 1, 1, 1, 1, 1, 1, 1, 1]
abbrev q56_6 : List Nat := [0, 1, 1, 1, 1, 1, 1, 1, 1, 1]
abbrev q56_7 : List Nat := [0, 1, 1, 1, 1, 1, 1, 1, 1, 1, 1]
abbrev q56_8 : List Nat := [0, 1, 1, 1, 1, 1, 1, 1, 1, 1, 1, 1]
abbrev q56_9 : List Nat := [0, 1, 1, 1, 1, 1, 1, 1, 1, 1, 1, 1, 1]
noncomputable def B6 : Code := (Tryz.f6.body).getD .skip

theorem law18_config (q0 q1 : Int)  :
    Ctr Tryz.prog 6 #[.agg #[vI q0, vI q1]] [] (Ret (cfgV (cfgP q0 q1)) []) := by
  refine ctr_of (args := [.agg #[vI q0, vI q1]]) (fn := Tryz.f6) (body := B6) (nt := 13) Tryz.func6 (by kernel_rfl) (by kernel_rfl) ?_
  intro F
  refine go_exec (rs := [.cell 2 29]) (by kernel_rfl) 4000 [.w, .e 0, .n, .w, .e 0, .n, .z [0, 1] 9 [2, 11]] (o := .new fun b_1 => .new fun b_2 => .obl (b_1 = b_1) (.obl (InK .i64 (1 + (bAnd .i64 q0 3))) (.obl (b_1 = b_1) (.obl (InK .i64 (1 + (bAnd .i64 q1 3))) (.new fun b_3 => .stop [.o [0, 1] 9, .c [1, 1]] [(2, vP b_2), (11, .slice (some ⟨b_3, 0, none⟩) 9 9)] [.pts b_1 [vI q0, vI q1] 31, Ed975e b_2 0 0 0 0 0 0 0 0 0, Ed155d b_3 2 4 (1 + (bAnd .i64 q0 3)) 3 (1 + (bAnd .i64 q1 3)) 20 2 60 2]))))) (by kernel_rfl) ?_
  refine ok_new fun b_1 => ?_
  refine ok_new fun b_2 => ?_
  refine ok_obl rfl ?_
  refine ok_obl (by have := and3 q0; have := and3 q1; simp only [InK]; omega) ?_
  refine ok_obl rfl ?_
  refine ok_obl (by have := and3 q0; have := and3 q1; simp only [InK]; omega) ?_
  refine ok_new fun b_3 => ?_
  refine ok_stop ?_
  refine go_call (some 12) [2] Tryz.call35 (ref_Of b_3 2 4 (1 + (bAnd .i64 q0 3)) 3 (1 + (bAnd .i64 q1 3)) 20 2 60 2) (by kernel_rfl) ?_
  rintro v post ⟨rfl, rfl⟩
  refine go_exec (rs := [.cell 2 29]) (by kernel_rfl) 4000 [.e 1, .e 1] (o := .obl (b_2 = b_2) (.obl (b_2 = b_2) (.ret (.agg #[vI 2, vI 4, vI (1 + (bAnd .i64 q0 3)), vI 3, vI 20, vI 2, vI 60, vI 2, vI (1 + (bAnd .i64 q1 3))]) [.pts b_1 [vI q0, vI q1] 31, Ed975e b_2 2 4 (1 + (bAnd .i64 q0 3)) 3 20 2 60 2 (1 + (bAnd .i64 q1 3)), Ed155d b_3 2 4 (1 + (bAnd .i64 q0 3)) 3 (1 + (bAnd .i64 q1 3)) 20 2 60 2]))) (by kernel_rfl) ?_
  refine ok_obl rfl ?_
  refine ok_obl rfl ?_
  exact ret_ok (post := []) [] (by kernel_rfl) ⟨rfl, (by kernel_rfl)⟩

noncomputable def B22 : Code := (Tryz.f22.body).getD .skip

theorem law18_word (e_ g_ k_ : Int) (l_ : Bool)  :
    Ctr Tryz.prog 22 #[.agg #[vI e_, vI g_, vI k_, .bool l_]] [] (Ret (vU (ctlP e_ g_ k_ l_)) []) := by
  refine ctr_of (args := [.agg #[vI e_, vI g_, vI k_, .bool l_]]) (fn := Tryz.f22) (body := B22) (nt := 18) Tryz.func22 (by kernel_rfl) (by kernel_rfl) ?_
  intro F
  refine go_exec (rs := [.tmp 2]) (by kernel_rfl) 4000 [.e 0, .e 0, .e 0, .n, .n, .n, .e 0, .z [0, 1] 14 [16]] (o := .new fun b_1 => .obl (b_1 = b_1) (.obl (b_1 = b_1) (.obl (b_1 = b_1) (.obl ((5 : Int) ≠ 0) (.obl (InK .i64 ((k_.tmod 5) + 5)) (.obl ((5 : Int) ≠ 0) (.obl (b_1 = b_1) (.stop [.o [0, 1] 14, .c [1, 1]] [(16, .agg #[vI (bAnd .i64 e_ 3), vI (bAnd .i64 g_ 7), vI (((k_.tmod 5) + 5).tmod 5), .bool l_, .bool false])] [E9fb97 b_1 e_ g_ k_ l_])))))))) (by kernel_rfl) ?_
  refine ok_new fun b_1 => ?_
  refine ok_obl rfl ?_
  refine ok_obl rfl ?_
  refine ok_obl rfl ?_
  refine ok_obl (by decide) ?_
  refine ok_obl (by have := rest5_rng k_; simp only [InK]; omega) ?_
  refine ok_obl (by decide) ?_
  refine ok_obl rfl ?_
  refine ok_stop ?_
  refine go_call (some 17) [] Tryz.call61 (r13_Pack (bAnd .i64 e_ 3) (bAnd .i64 g_ 7) (((k_.tmod 5) + 5).tmod 5) l_ false (by have := and3 e_; omega) (by have := and7 g_; omega) (by have := rest5_rng k_; omega)) (by kernel_rfl) ?_
  rintro v post ⟨rfl, rfl⟩
  refine go_exec (rs := [.tmp 2]) (by kernel_rfl) 4000 [] (o := .ret (vU (packW3 (bAnd .i64 e_ 3) (flagI l_) (flagI false) (bAnd .i64 g_ 7) (((k_.tmod 5) + 5).tmod 5))) [E9fb97 b_1 e_ g_ k_ l_]) (by kernel_rfl) ?_
  exact ret_ok (post := []) [] (by kernel_rfl) ⟨rfl, (by kernel_rfl)⟩

noncomputable def B9 : Code := (Tryz.f9.body).getD .skip

set_option maxHeartbeats 4000000 in
theorem law18_awake (o_ : Obj) (ho : IsH o_) :
    Ctr Tryz.prog 9 #[] [.raw 0 o_] (Ret (.bool true) [.raw 0 o_]) := by
  refine ctr_of (args := []) (fn := Tryz.f9) (body := B9) (nt := 68) Tryz.func9 (by kernel_rfl) (by kernel_rfl) ?_
  intro F
  refine go_exec (rs := [.tmp 0]) (by kernel_rfl) 4000 [.z [0, 1] 1 [11]] (o := .stop [.o [0, 1] 1, .c [1, 1]] [(11, .agg #[vI 0, vI 0])] [.raw 0 o_]) (by kernel_rfl) ?_
  refine ok_stop ?_
  refine go_call (some 12) [] Tryz.call6 (law18_config 0 0) (by kernel_rfl) ?_
  rintro v post ⟨rfl, rfl⟩
  refine go_exec (rs := [.tmp 0]) (by kernel_rfl) 4000 [.e 1, .e 1, .z [0, 1, 1] 1 [1, 14]] (o := .new fun b_2 => .obl (b_2 = b_2) (.obl (b_2 = b_2) (.stop [.o [0, 1, 1] 1, .c [1, 1, 1]] [(1, vP b_2), (14, cfgV (cfgP 0 0))] [.raw 0 o_, Efdc04 b_2 (cfgP 0 0)]))) (by kernel_rfl) ?_
  refine ok_new fun b_2 => ?_
  refine ok_obl rfl ?_
  refine ok_obl rfl ?_
  refine ok_stop ?_
  refine go_call (some 15) [] Tryz.call19 (plan_Make (cfgP 0 0) (cfgP_ok 0 0)) (by kernel_rfl) ?_
  rintro v post ⟨ba_3, aw_4, cw_5, rfl, rfl⟩
  refine go_exec (rs := [.tmp 0]) (by kernel_rfl) 4000 [.z [0, 1, 1, 1] 0 [1, 2]] (o := .stop [.o [0, 1, 1, 1] 0, .c [1, 1, 1, 1]] [(1, vP b_2), (2, vP ba_3)] [.raw 0 o_, Efdc04 b_2 (cfgP 0 0), Ebed9f ba_3 (mkAr (cfgP 0 0) aw_4 cw_5), E632c4 (mkAr (cfgP 0 0) aw_4 cw_5)]) (by kernel_rfl) ?_
  refine ok_stop ?_
  have hA0 := mkAr_ok (cfgP_ok 0 0) aw_4 cw_5
  have hbk : blockAt (cfgP 0 0) 1 = 26 := by decide
  have hsz : sizeOfC (cfgP 0 0) = 190 := by decide
  refine go_exec (rs := [.tmp 0]) (by kernel_rfl) 4000 [.u, .z q56_0 0 [1, 2, 4, 5, 6]] (o := .new fun b_6 => .new fun b_7 => .new fun b_8 => .stop [.c q56_0, .b 1, .c q56_1, .r q56_2, .b 0, .c q56_3] [(1, vP b_2), (2, vP ba_3), (4, .slice (some ⟨b_7, 0, none⟩) 1 1), (5, .slice (some ⟨b_8, 0, none⟩) 5 5), (6, vI 0)] [.raw 0 o_, Efdc04 b_2 (cfgP 0 0), Ebed9f ba_3 (mkAr (cfgP 0 0) aw_4 cw_5), E632c4 (mkAr (cfgP 0 0) aw_4 cw_5), E1356c b_6 1 0 3 0, .pts b_7 [.slice (some ⟨b_6, 0, none⟩) 2 2] 34, E9f921 b_8 5 7 8589934593 5 6]) (by kernel_rfl) ?_
  refine ok_new fun b_6 => ?_
  refine ok_new fun b_7 => ?_
  refine ok_new fun b_8 => ?_
  refine ok_stop ?_
  refine go_tail_call (dst := (some 39)) (ps := [b_2 = b_2, InK .i64 ((blockAt (cfgP 0 0) 1) + 1), InK .i64 (((blockAt (cfgP 0 0) 1) + 1) + 0), b_8 = b_8]) (cs := [(37, #[cfgV (cfgP 0 0), vI 1], vI (blockAt (cfgP 0 0) 1))]) [(0, .h .w), (1, .h (.e 1)), (2, .q (vI (blockAt (cfgP 0 0) 1))), (3, .h (.n)), (4, .h .w), (5, .h (.n)), (6, .h .w), (7, .h .w), (8, .h (.w)), (9, .h (.e 6))] 10 [] [2, 3] [1, 2, 4, 5, 6] (by kernel_rfl) Tryz.call20 (arena_Store ba_3 (mkAr (cfgP 0 0) aw_4 cw_5) (((blockAt (cfgP 0 0) 1) + 1) + 0) 5 (by have hA : ArW (cfgP 0 0) ((mkAr (cfgP 0 0) aw_4 cw_5)) _ := hA0; have hz1 := hA.2.1; have hs1 := hA.2.2.2; first | exact hA.1 | omega) (by have hA : ArW (cfgP 0 0) ((mkAr (cfgP 0 0) aw_4 cw_5)) _ := hA0; have hz1 := hA.2.1; have hs1 := hA.2.2.2; first | exact hA.1 | omega) (by have hA : ArW (cfgP 0 0) ((mkAr (cfgP 0 0) aw_4 cw_5)) _ := hA0; have hz1 := hA.2.1; have hs1 := hA.2.2.2; first | exact hA.1 | omega)) (by kernel_rfl) ⟨rfl, (by simp only [InK]; omega), (by simp only [InK]; omega), rfl, trivial⟩ ⟨⟨Tryz.call37, quiet_of [] (plan_Block (cfgP 0 0) 1 (cfgP_ok 0 0) (by simp only [InK]; decide)) (by kernel_rfl) (by rintro v post ⟨rfl, rfl⟩; exact ⟨rfl, rfl⟩)⟩, trivial⟩ ?_
  rintro v post ⟨rfl, rfl⟩
  refine tail_next (tm' := [(1, vP b_2), (2, vP ba_3), (4, .slice (some ⟨b_7, 0, none⟩) 1 1), (5, .slice (some ⟨b_8, 0, none⟩) 5 5), (6, vI 0)]) (ps2 := []) (by kernel_rfl) trivial ?_
  refine go_exec (rs := [.tmp 0]) (by kernel_rfl) 4000 [.w, .u, .z q56_0 0 [1, 2, 4, 5, 6]] (o := .stop [.c q56_0, .b 1, .c q56_1, .r q56_2, .b 0, .c q56_3] [(1, vP b_2), (2, vP ba_3), (4, .slice (some ⟨b_7, 0, none⟩) 1 1), (5, .slice (some ⟨b_8, 0, none⟩) 5 5), (6, vI 1)] [.raw 0 o_, Efdc04 b_2 (cfgP 0 0), E1356c b_6 1 0 3 0, .pts b_7 [.slice (some ⟨b_6, 0, none⟩) 2 2] 34, E9f921 b_8 5 7 8589934593 5 6, Ebed9f ba_3 ((mkAr (cfgP 0 0) aw_4 cw_5).store (((blockAt (cfgP 0 0) 1) + 1) + 0) 5), E632c4 ((mkAr (cfgP 0 0) aw_4 cw_5).store (((blockAt (cfgP 0 0) 1) + 1) + 0) 5)]) (by kernel_rfl) ?_
  refine ok_stop ?_
  refine go_tail_call (dst := (some 39)) (ps := [b_2 = b_2, InK .i64 ((blockAt (cfgP 0 0) 1) + 1), InK .i64 (((blockAt (cfgP 0 0) 1) + 1) + 1), b_8 = b_8]) (cs := [(37, #[cfgV (cfgP 0 0), vI 1], vI (blockAt (cfgP 0 0) 1))]) [(0, .h .w), (1, .h (.e 1)), (2, .q (vI (blockAt (cfgP 0 0) 1))), (3, .h (.n)), (4, .h .w), (5, .h (.n)), (6, .h .w), (7, .h .w), (8, .h (.w)), (9, .h (.e 4))] 10 [] [5, 6] [1, 2, 4, 5, 6] (by kernel_rfl) Tryz.call20 (arena_Store ba_3 ((mkAr (cfgP 0 0) aw_4 cw_5).store (((blockAt (cfgP 0 0) 1) + 1) + 0) 5) (((blockAt (cfgP 0 0) 1) + 1) + 1) 7 (by have hA : ArW (cfgP 0 0) (((mkAr (cfgP 0 0) aw_4 cw_5).store (((blockAt (cfgP 0 0) 1) + 1) + 0) 5)) _ := (hA0.store _ (by decide)); have hz1 := hA.2.1; have hs1 := hA.2.2.2; first | exact hA.1 | omega) (by have hA : ArW (cfgP 0 0) (((mkAr (cfgP 0 0) aw_4 cw_5).store (((blockAt (cfgP 0 0) 1) + 1) + 0) 5)) _ := (hA0.store _ (by decide)); have hz1 := hA.2.1; have hs1 := hA.2.2.2; first | exact hA.1 | omega) (by have hA : ArW (cfgP 0 0) (((mkAr (cfgP 0 0) aw_4 cw_5).store (((blockAt (cfgP 0 0) 1) + 1) + 0) 5)) _ := (hA0.store _ (by decide)); have hz1 := hA.2.1; have hs1 := hA.2.2.2; first | exact hA.1 | omega)) (by kernel_rfl) ⟨rfl, (by simp only [InK]; omega), (by simp only [InK]; omega), rfl, trivial⟩ ⟨⟨Tryz.call37, quiet_of [] (plan_Block (cfgP 0 0) 1 (cfgP_ok 0 0) (by simp only [InK]; decide)) (by kernel_rfl) (by rintro v post ⟨rfl, rfl⟩; exact ⟨rfl, rfl⟩)⟩, trivial⟩ ?_
  rintro v post ⟨rfl, rfl⟩
  refine tail_next (tm' := [(1, vP b_2), (2, vP ba_3), (4, .slice (some ⟨b_7, 0, none⟩) 1 1), (5, .slice (some ⟨b_8, 0, none⟩) 5 5), (6, vI 1)]) (ps2 := []) (by kernel_rfl) trivial ?_
  refine go_exec (rs := [.tmp 0]) (by kernel_rfl) 4000 [.w, .u, .z q56_0 0 [1, 2, 4, 5, 6]] (o := .stop [.c q56_0, .b 1, .c q56_1, .r q56_2, .b 0, .c q56_3] [(1, vP b_2), (2, vP ba_3), (4, .slice (some ⟨b_7, 0, none⟩) 1 1), (5, .slice (some ⟨b_8, 0, none⟩) 5 5), (6, vI 2)] [.raw 0 o_, Efdc04 b_2 (cfgP 0 0), E1356c b_6 1 0 3 0, .pts b_7 [.slice (some ⟨b_6, 0, none⟩) 2 2] 34, E9f921 b_8 5 7 8589934593 5 6, Ebed9f ba_3 (((mkAr (cfgP 0 0) aw_4 cw_5).store (((blockAt (cfgP 0 0) 1) + 1) + 0) 5).store (((blockAt (cfgP 0 0) 1) + 1) + 1) 7), E632c4 (((mkAr (cfgP 0 0) aw_4 cw_5).store (((blockAt (cfgP 0 0) 1) + 1) + 0) 5).store (((blockAt (cfgP 0 0) 1) + 1) + 1) 7)]) (by kernel_rfl) ?_
  refine ok_stop ?_
  refine go_tail_call (dst := (some 39)) (ps := [b_2 = b_2, InK .i64 ((blockAt (cfgP 0 0) 1) + 1), InK .i64 (((blockAt (cfgP 0 0) 1) + 1) + 2), b_8 = b_8]) (cs := [(37, #[cfgV (cfgP 0 0), vI 1], vI (blockAt (cfgP 0 0) 1))]) [(0, .h .w), (1, .h (.e 1)), (2, .q (vI (blockAt (cfgP 0 0) 1))), (3, .h (.n)), (4, .h .w), (5, .h (.n)), (6, .h .w), (7, .h .w), (8, .h (.w)), (9, .h (.e 4))] 10 [] [5, 6] [1, 2, 4, 5, 6] (by kernel_rfl) Tryz.call20 (arena_Store ba_3 (((mkAr (cfgP 0 0) aw_4 cw_5).store (((blockAt (cfgP 0 0) 1) + 1) + 0) 5).store (((blockAt (cfgP 0 0) 1) + 1) + 1) 7) (((blockAt (cfgP 0 0) 1) + 1) + 2) 8589934593 (by have hA : ArW (cfgP 0 0) ((((mkAr (cfgP 0 0) aw_4 cw_5).store (((blockAt (cfgP 0 0) 1) + 1) + 0) 5).store (((blockAt (cfgP 0 0) 1) + 1) + 1) 7)) _ := ((hA0.store _ (by decide)).store _ (by decide)); have hz1 := hA.2.1; have hs1 := hA.2.2.2; first | exact hA.1 | omega) (by have hA : ArW (cfgP 0 0) ((((mkAr (cfgP 0 0) aw_4 cw_5).store (((blockAt (cfgP 0 0) 1) + 1) + 0) 5).store (((blockAt (cfgP 0 0) 1) + 1) + 1) 7)) _ := ((hA0.store _ (by decide)).store _ (by decide)); have hz1 := hA.2.1; have hs1 := hA.2.2.2; first | exact hA.1 | omega) (by have hA : ArW (cfgP 0 0) ((((mkAr (cfgP 0 0) aw_4 cw_5).store (((blockAt (cfgP 0 0) 1) + 1) + 0) 5).store (((blockAt (cfgP 0 0) 1) + 1) + 1) 7)) _ := ((hA0.store _ (by decide)).store _ (by decide)); have hz1 := hA.2.1; have hs1 := hA.2.2.2; first | exact hA.1 | omega)) (by kernel_rfl) ⟨rfl, (by simp only [InK]; omega), (by simp only [InK]; omega), rfl, trivial⟩ ⟨⟨Tryz.call37, quiet_of [] (plan_Block (cfgP 0 0) 1 (cfgP_ok 0 0) (by simp only [InK]; decide)) (by kernel_rfl) (by rintro v post ⟨rfl, rfl⟩; exact ⟨rfl, rfl⟩)⟩, trivial⟩ ?_
  rintro v post ⟨rfl, rfl⟩
  refine tail_next (tm' := [(1, vP b_2), (2, vP ba_3), (4, .slice (some ⟨b_7, 0, none⟩) 1 1), (5, .slice (some ⟨b_8, 0, none⟩) 5 5), (6, vI 2)]) (ps2 := []) (by kernel_rfl) trivial ?_
  refine go_exec (rs := [.tmp 0]) (by kernel_rfl) 4000 [.w, .u, .z q56_0 0 [1, 2, 4, 5, 6]] (o := .stop [.c q56_0, .b 1, .c q56_1, .r q56_2, .b 0, .c q56_3] [(1, vP b_2), (2, vP ba_3), (4, .slice (some ⟨b_7, 0, none⟩) 1 1), (5, .slice (some ⟨b_8, 0, none⟩) 5 5), (6, vI 3)] [.raw 0 o_, Efdc04 b_2 (cfgP 0 0), E1356c b_6 1 0 3 0, .pts b_7 [.slice (some ⟨b_6, 0, none⟩) 2 2] 34, E9f921 b_8 5 7 8589934593 5 6, Ebed9f ba_3 ((((mkAr (cfgP 0 0) aw_4 cw_5).store (((blockAt (cfgP 0 0) 1) + 1) + 0) 5).store (((blockAt (cfgP 0 0) 1) + 1) + 1) 7).store (((blockAt (cfgP 0 0) 1) + 1) + 2) 8589934593), E632c4 ((((mkAr (cfgP 0 0) aw_4 cw_5).store (((blockAt (cfgP 0 0) 1) + 1) + 0) 5).store (((blockAt (cfgP 0 0) 1) + 1) + 1) 7).store (((blockAt (cfgP 0 0) 1) + 1) + 2) 8589934593)]) (by kernel_rfl) ?_
  refine ok_stop ?_
  refine go_tail_call (dst := (some 39)) (ps := [b_2 = b_2, InK .i64 ((blockAt (cfgP 0 0) 1) + 1), InK .i64 (((blockAt (cfgP 0 0) 1) + 1) + 3), b_8 = b_8]) (cs := [(37, #[cfgV (cfgP 0 0), vI 1], vI (blockAt (cfgP 0 0) 1))]) [(0, .h .w), (1, .h (.e 1)), (2, .q (vI (blockAt (cfgP 0 0) 1))), (3, .h (.n)), (4, .h .w), (5, .h (.n)), (6, .h .w), (7, .h .w), (8, .h (.w)), (9, .h (.e 4))] 10 [] [5, 6] [1, 2, 4, 5, 6] (by kernel_rfl) Tryz.call20 (arena_Store ba_3 ((((mkAr (cfgP 0 0) aw_4 cw_5).store (((blockAt (cfgP 0 0) 1) + 1) + 0) 5).store (((blockAt (cfgP 0 0) 1) + 1) + 1) 7).store (((blockAt (cfgP 0 0) 1) + 1) + 2) 8589934593) (((blockAt (cfgP 0 0) 1) + 1) + 3) 5 (by have hA : ArW (cfgP 0 0) (((((mkAr (cfgP 0 0) aw_4 cw_5).store (((blockAt (cfgP 0 0) 1) + 1) + 0) 5).store (((blockAt (cfgP 0 0) 1) + 1) + 1) 7).store (((blockAt (cfgP 0 0) 1) + 1) + 2) 8589934593)) _ := (((hA0.store _ (by decide)).store _ (by decide)).store _ (by decide)); have hz1 := hA.2.1; have hs1 := hA.2.2.2; first | exact hA.1 | omega) (by have hA : ArW (cfgP 0 0) (((((mkAr (cfgP 0 0) aw_4 cw_5).store (((blockAt (cfgP 0 0) 1) + 1) + 0) 5).store (((blockAt (cfgP 0 0) 1) + 1) + 1) 7).store (((blockAt (cfgP 0 0) 1) + 1) + 2) 8589934593)) _ := (((hA0.store _ (by decide)).store _ (by decide)).store _ (by decide)); have hz1 := hA.2.1; have hs1 := hA.2.2.2; first | exact hA.1 | omega) (by have hA : ArW (cfgP 0 0) (((((mkAr (cfgP 0 0) aw_4 cw_5).store (((blockAt (cfgP 0 0) 1) + 1) + 0) 5).store (((blockAt (cfgP 0 0) 1) + 1) + 1) 7).store (((blockAt (cfgP 0 0) 1) + 1) + 2) 8589934593)) _ := (((hA0.store _ (by decide)).store _ (by decide)).store _ (by decide)); have hz1 := hA.2.1; have hs1 := hA.2.2.2; first | exact hA.1 | omega)) (by kernel_rfl) ⟨rfl, (by simp only [InK]; omega), (by simp only [InK]; omega), rfl, trivial⟩ ⟨⟨Tryz.call37, quiet_of [] (plan_Block (cfgP 0 0) 1 (cfgP_ok 0 0) (by simp only [InK]; decide)) (by kernel_rfl) (by rintro v post ⟨rfl, rfl⟩; exact ⟨rfl, rfl⟩)⟩, trivial⟩ ?_
  rintro v post ⟨rfl, rfl⟩
  refine tail_next (tm' := [(1, vP b_2), (2, vP ba_3), (4, .slice (some ⟨b_7, 0, none⟩) 1 1), (5, .slice (some ⟨b_8, 0, none⟩) 5 5), (6, vI 3)]) (ps2 := []) (by kernel_rfl) trivial ?_
  refine go_exec (rs := [.tmp 0]) (by kernel_rfl) 4000 [.w, .u, .z q56_0 0 [1, 2, 4, 5, 6]] (o := .stop [.c q56_0, .b 1, .c q56_1, .r q56_2, .b 0, .c q56_3] [(1, vP b_2), (2, vP ba_3), (4, .slice (some ⟨b_7, 0, none⟩) 1 1), (5, .slice (some ⟨b_8, 0, none⟩) 5 5), (6, vI 4)] [.raw 0 o_, Efdc04 b_2 (cfgP 0 0), E1356c b_6 1 0 3 0, .pts b_7 [.slice (some ⟨b_6, 0, none⟩) 2 2] 34, E9f921 b_8 5 7 8589934593 5 6, Ebed9f ba_3 (((((mkAr (cfgP 0 0) aw_4 cw_5).store (((blockAt (cfgP 0 0) 1) + 1) + 0) 5).store (((blockAt (cfgP 0 0) 1) + 1) + 1) 7).store (((blockAt (cfgP 0 0) 1) + 1) + 2) 8589934593).store (((blockAt (cfgP 0 0) 1) + 1) + 3) 5), E632c4 (((((mkAr (cfgP 0 0) aw_4 cw_5).store (((blockAt (cfgP 0 0) 1) + 1) + 0) 5).store (((blockAt (cfgP 0 0) 1) + 1) + 1) 7).store (((blockAt (cfgP 0 0) 1) + 1) + 2) 8589934593).store (((blockAt (cfgP 0 0) 1) + 1) + 3) 5)]) (by kernel_rfl) ?_
  refine ok_stop ?_
  refine go_tail_call (dst := (some 39)) (ps := [b_2 = b_2, InK .i64 ((blockAt (cfgP 0 0) 1) + 1), InK .i64 (((blockAt (cfgP 0 0) 1) + 1) + 4), b_8 = b_8]) (cs := [(37, #[cfgV (cfgP 0 0), vI 1], vI (blockAt (cfgP 0 0) 1))]) [(0, .h .w), (1, .h (.e 1)), (2, .q (vI (blockAt (cfgP 0 0) 1))), (3, .h (.n)), (4, .h .w), (5, .h (.n)), (6, .h .w), (7, .h .w), (8, .h (.w)), (9, .h (.e 4))] 10 [] [5, 6] [1, 2, 4, 5, 6] (by kernel_rfl) Tryz.call20 (arena_Store ba_3 (((((mkAr (cfgP 0 0) aw_4 cw_5).store (((blockAt (cfgP 0 0) 1) + 1) + 0) 5).store (((blockAt (cfgP 0 0) 1) + 1) + 1) 7).store (((blockAt (cfgP 0 0) 1) + 1) + 2) 8589934593).store (((blockAt (cfgP 0 0) 1) + 1) + 3) 5) (((blockAt (cfgP 0 0) 1) + 1) + 4) 6 (by have hA : ArW (cfgP 0 0) ((((((mkAr (cfgP 0 0) aw_4 cw_5).store (((blockAt (cfgP 0 0) 1) + 1) + 0) 5).store (((blockAt (cfgP 0 0) 1) + 1) + 1) 7).store (((blockAt (cfgP 0 0) 1) + 1) + 2) 8589934593).store (((blockAt (cfgP 0 0) 1) + 1) + 3) 5)) _ := ((((hA0.store _ (by decide)).store _ (by decide)).store _ (by decide)).store _ (by decide)); have hz1 := hA.2.1; have hs1 := hA.2.2.2; first | exact hA.1 | omega) (by have hA : ArW (cfgP 0 0) ((((((mkAr (cfgP 0 0) aw_4 cw_5).store (((blockAt (cfgP 0 0) 1) + 1) + 0) 5).store (((blockAt (cfgP 0 0) 1) + 1) + 1) 7).store (((blockAt (cfgP 0 0) 1) + 1) + 2) 8589934593).store (((blockAt (cfgP 0 0) 1) + 1) + 3) 5)) _ := ((((hA0.store _ (by decide)).store _ (by decide)).store _ (by decide)).store _ (by decide)); have hz1 := hA.2.1; have hs1 := hA.2.2.2; first | exact hA.1 | omega) (by have hA : ArW (cfgP 0 0) ((((((mkAr (cfgP 0 0) aw_4 cw_5).store (((blockAt (cfgP 0 0) 1) + 1) + 0) 5).store (((blockAt (cfgP 0 0) 1) + 1) + 1) 7).store (((blockAt (cfgP 0 0) 1) + 1) + 2) 8589934593).store (((blockAt (cfgP 0 0) 1) + 1) + 3) 5)) _ := ((((hA0.store _ (by decide)).store _ (by decide)).store _ (by decide)).store _ (by decide)); have hz1 := hA.2.1; have hs1 := hA.2.2.2; first | exact hA.1 | omega)) (by kernel_rfl) ⟨rfl, (by simp only [InK]; omega), (by simp only [InK]; omega), rfl, trivial⟩ ⟨⟨Tryz.call37, quiet_of [] (plan_Block (cfgP 0 0) 1 (cfgP_ok 0 0) (by simp only [InK]; decide)) (by kernel_rfl) (by rintro v post ⟨rfl, rfl⟩; exact ⟨rfl, rfl⟩)⟩, trivial⟩ ?_
  rintro v post ⟨rfl, rfl⟩
  refine tail_next (tm' := [(1, vP b_2), (2, vP ba_3), (4, .slice (some ⟨b_7, 0, none⟩) 1 1), (5, .slice (some ⟨b_8, 0, none⟩) 5 5), (6, vI 4)]) (ps2 := []) (by kernel_rfl) trivial ?_
  refine go_exec (rs := [.tmp 0]) (by kernel_rfl) 4000 [.w, .u, .e 1, .z q56_4 3 [2, 40, 41, 42]] (o := .obl (b_2 = b_2) (.new fun b_9 => .stop [.o q56_4 3, .c [1, 1, 1, 1, 1, 1, 1, 1]] [(2, vP ba_3), (40, cfgV (cfgP 0 0)), (41, .slice (some ⟨b_7, 0, none⟩) 1 1), (42, .slice (some ⟨b_9, 0, none⟩) 2 2)] [.raw 0 o_, Efdc04 b_2 (cfgP 0 0), E1356c b_6 1 0 3 0, .pts b_7 [.slice (some ⟨b_6, 0, none⟩) 2 2] 34, E9f921 b_8 5 7 8589934593 5 6, Ebed9f ba_3 ((((((mkAr (cfgP 0 0) aw_4 cw_5).store (((blockAt (cfgP 0 0) 1) + 1) + 0) 5).store (((blockAt (cfgP 0 0) 1) + 1) + 1) 7).store (((blockAt (cfgP 0 0) 1) + 1) + 2) 8589934593).store (((blockAt (cfgP 0 0) 1) + 1) + 3) 5).store (((blockAt (cfgP 0 0) 1) + 1) + 4) 6), E632c4 ((((((mkAr (cfgP 0 0) aw_4 cw_5).store (((blockAt (cfgP 0 0) 1) + 1) + 0) 5).store (((blockAt (cfgP 0 0) 1) + 1) + 1) 7).store (((blockAt (cfgP 0 0) 1) + 1) + 2) 8589934593).store (((blockAt (cfgP 0 0) 1) + 1) + 3) 5).store (((blockAt (cfgP 0 0) 1) + 1) + 4) 6), .pts b_9 [vI 1, vI 0] 3])) (by kernel_rfl) ?_
  refine ok_obl rfl ?_
  refine ok_new fun b_9 => ?_
  refine ok_stop ?_
  refine go_call (some 43) [3, 2, 7] Tryz.call18 (newField2 (cfgP 0 0) 1 b_7 b_6 b_9 (cfgP_ok 0 0) (by simp only [InK]; decide) (by decide)) (by kernel_rfl) ?_
  rintro v post ⟨f_10, a_11, c0_12, rfl, rfl⟩
  refine go_exec (rs := [.tmp 0]) (by kernel_rfl) 4000 [.z q56_5 2 [2, 7, 44, 45]] (o := .stop [.o q56_5 2, .c [1, 1, 1, 1, 1, 1, 1, 1, 1]] [(2, vP ba_3), (7, vP f_10), (44, vP f_10), (45, vP ba_3)] [.raw 0 o_, Efdc04 b_2 (cfgP 0 0), E9f921 b_8 5 7 8589934593 5 6, Ebed9f ba_3 ((((((mkAr (cfgP 0 0) aw_4 cw_5).store (((blockAt (cfgP 0 0) 1) + 1) + 0) 5).store (((blockAt (cfgP 0 0) 1) + 1) + 1) 7).store (((blockAt (cfgP 0 0) 1) + 1) + 2) 8589934593).store (((blockAt (cfgP 0 0) 1) + 1) + 3) 5).store (((blockAt (cfgP 0 0) 1) + 1) + 4) 6), E632c4 ((((((mkAr (cfgP 0 0) aw_4 cw_5).store (((blockAt (cfgP 0 0) 1) + 1) + 0) 5).store (((blockAt (cfgP 0 0) 1) + 1) + 1) 7).store (((blockAt (cfgP 0 0) 1) + 1) + 2) 8589934593).store (((blockAt (cfgP 0 0) 1) + 1) + 3) 5).store (((blockAt (cfgP 0 0) 1) + 1) + 4) 6), E18c61 f_10 (.slice (some ⟨b_7, 0, none⟩) 1 1) (blockAt (cfgP 0 0) 1 + 1) ((cfgP 0 0).s0) a_11 (([1, 0] : List Int).length) c0_12 (.pointer none) false 0, Ee1326 a_11 c0_12 ([1, 0] : List Int), .pts b_7 [.slice (some ⟨b_6, 0, none⟩) 2 2] 34, E1356c b_6 1 0 3 0, .pts b_9 [vI 1, vI 0] 3]) (by kernel_rfl) ?_
  refine ok_stop ?_
  refine go_call (some 46) [5, 7, 8, 6, 3, 4] Tryz.call15 (fStep1 f_10 ba_3 b_7 b_6 (blockAt (cfgP 0 0) 1 + 1) ((cfgP 0 0).s0) a_11 c0_12 ((((((mkAr (cfgP 0 0) aw_4 cw_5).store (((blockAt (cfgP 0 0) 1) + 1) + 0) 5).store (((blockAt (cfgP 0 0) 1) + 1) + 1) 7).store (((blockAt (cfgP 0 0) 1) + 1) + 2) 8589934593).store (((blockAt (cfgP 0 0) 1) + 1) + 3) 5).store (((blockAt (cfgP 0 0) 1) + 1) + 4) 6) (by have hA : ArW (cfgP 0 0) (((((((mkAr (cfgP 0 0) aw_4 cw_5).store (((blockAt (cfgP 0 0) 1) + 1) + 0) 5).store (((blockAt (cfgP 0 0) 1) + 1) + 1) 7).store (((blockAt (cfgP 0 0) 1) + 1) + 2) 8589934593).store (((blockAt (cfgP 0 0) 1) + 1) + 3) 5).store (((blockAt (cfgP 0 0) 1) + 1) + 4) 6)) _ := (((((hA0.store _ (by decide)).store _ (by decide)).store _ (by decide)).store _ (by decide)).store _ (by decide)); have hz1 := hA.2.1; have hs1 := hA.2.2.2; first | exact hA.1 | omega) (by have hA : ArW (cfgP 0 0) (((((((mkAr (cfgP 0 0) aw_4 cw_5).store (((blockAt (cfgP 0 0) 1) + 1) + 0) 5).store (((blockAt (cfgP 0 0) 1) + 1) + 1) 7).store (((blockAt (cfgP 0 0) 1) + 1) + 2) 8589934593).store (((blockAt (cfgP 0 0) 1) + 1) + 3) 5).store (((blockAt (cfgP 0 0) 1) + 1) + 4) 6)) _ := (((((hA0.store _ (by decide)).store _ (by decide)).store _ (by decide)).store _ (by decide)).store _ (by decide)); have hz1 := hA.2.1; have hs1 := hA.2.2.2; first | exact hA.1 | omega) (by have hA : ArW (cfgP 0 0) (((((((mkAr (cfgP 0 0) aw_4 cw_5).store (((blockAt (cfgP 0 0) 1) + 1) + 0) 5).store (((blockAt (cfgP 0 0) 1) + 1) + 1) 7).store (((blockAt (cfgP 0 0) 1) + 1) + 2) 8589934593).store (((blockAt (cfgP 0 0) 1) + 1) + 3) 5).store (((blockAt (cfgP 0 0) 1) + 1) + 4) 6)) _ := (((((hA0.store _ (by decide)).store _ (by decide)).store _ (by decide)).store _ (by decide)).store _ (by decide)); have hz1 := hA.2.1; have hs1 := hA.2.2.2; first | exact hA.1 | omega) (by decide) (by kernel_rfl)) (by kernel_rfl) ?_
  rintro v post ⟨w_13, a2_14, c2_15, rfl, rfl⟩
  refine go_exec (rs := [.tmp 0]) (by kernel_rfl) 4000 [.z q56_6 2 [2, 7, 47, 48]] (o := .stop [.o q56_6 2, .c [1, 1, 1, 1, 1, 1, 1, 1, 1, 1]] [(2, vP ba_3), (7, vP f_10), (47, vP f_10), (48, vP ba_3)] [.raw 0 o_, Efdc04 b_2 (cfgP 0 0), E9f921 b_8 5 7 8589934593 5 6, .pts b_9 [vI 1, vI 0] 3, E18c61 f_10 (.slice (some ⟨b_7, 0, none⟩) 1 1) (blockAt (cfgP 0 0) 1 + 1) ((cfgP 0 0).s0) a_11 (([1, 0] : List Int).length) c0_12 (vP w_13) false 0, E0aaf3 w_13 (.slice (some ⟨b_7, 0, none⟩) 1 1) 0 a2_14 (([1, 0] : List Int).length) c2_15 2 0 0 0, .pts b_7 [.slice (some ⟨b_6, 0, none⟩) 2 2] 34, E1356c b_6 1 0 3 0, Ee1326 a_11 c0_12 ([1, 0] : List Int), Ee1326 a2_14 c2_15 ([1, 0] : List Int), Ebed9f ba_3 (((((((mkAr (cfgP 0 0) aw_4 cw_5).store (((blockAt (cfgP 0 0) 1) + 1) + 0) 5).store (((blockAt (cfgP 0 0) 1) + 1) + 1) 7).store (((blockAt (cfgP 0 0) 1) + 1) + 2) 8589934593).store (((blockAt (cfgP 0 0) 1) + 1) + 3) 5).store (((blockAt (cfgP 0 0) 1) + 1) + 4) 6).load (blockAt (cfgP 0 0) 1 + 1)), E632c4 (((((((mkAr (cfgP 0 0) aw_4 cw_5).store (((blockAt (cfgP 0 0) 1) + 1) + 0) 5).store (((blockAt (cfgP 0 0) 1) + 1) + 1) 7).store (((blockAt (cfgP 0 0) 1) + 1) + 2) 8589934593).store (((blockAt (cfgP 0 0) 1) + 1) + 3) 5).store (((blockAt (cfgP 0 0) 1) + 1) + 4) 6).load (blockAt (cfgP 0 0) 1 + 1))]) (by kernel_rfl) ?_
  refine ok_stop ?_
  refine go_call (some 49) [4, 5, 6, 7, 8, 9, 10, 11] Tryz.call15 (fStep2 f_10 w_13 ba_3 b_7 b_6 c2_15 a2_14 (blockAt (cfgP 0 0) 1 + 1) ((cfgP 0 0).s0) a_11 c0_12 (((((((mkAr (cfgP 0 0) aw_4 cw_5).store (((blockAt (cfgP 0 0) 1) + 1) + 0) 5).store (((blockAt (cfgP 0 0) 1) + 1) + 1) 7).store (((blockAt (cfgP 0 0) 1) + 1) + 2) 8589934593).store (((blockAt (cfgP 0 0) 1) + 1) + 3) 5).store (((blockAt (cfgP 0 0) 1) + 1) + 4) 6).load (blockAt (cfgP 0 0) 1 + 1)) (by have hA : ArW (cfgP 0 0) ((((((((mkAr (cfgP 0 0) aw_4 cw_5).store (((blockAt (cfgP 0 0) 1) + 1) + 0) 5).store (((blockAt (cfgP 0 0) 1) + 1) + 1) 7).store (((blockAt (cfgP 0 0) 1) + 1) + 2) 8589934593).store (((blockAt (cfgP 0 0) 1) + 1) + 3) 5).store (((blockAt (cfgP 0 0) 1) + 1) + 4) 6).load (blockAt (cfgP 0 0) 1 + 1))) _ := ((((((hA0.store _ (by decide)).store _ (by decide)).store _ (by decide)).store _ (by decide)).store _ (by decide)).load _); have hz1 := hA.2.1; have hs1 := hA.2.2.2; first | exact hA.1 | omega) (by have hA : ArW (cfgP 0 0) ((((((((mkAr (cfgP 0 0) aw_4 cw_5).store (((blockAt (cfgP 0 0) 1) + 1) + 0) 5).store (((blockAt (cfgP 0 0) 1) + 1) + 1) 7).store (((blockAt (cfgP 0 0) 1) + 1) + 2) 8589934593).store (((blockAt (cfgP 0 0) 1) + 1) + 3) 5).store (((blockAt (cfgP 0 0) 1) + 1) + 4) 6).load (blockAt (cfgP 0 0) 1 + 1))) _ := ((((((hA0.store _ (by decide)).store _ (by decide)).store _ (by decide)).store _ (by decide)).store _ (by decide)).load _); have hz1 := hA.2.1; have hs1 := hA.2.2.2; first | exact hA.1 | omega) (by have hA : ArW (cfgP 0 0) ((((((((mkAr (cfgP 0 0) aw_4 cw_5).store (((blockAt (cfgP 0 0) 1) + 1) + 0) 5).store (((blockAt (cfgP 0 0) 1) + 1) + 1) 7).store (((blockAt (cfgP 0 0) 1) + 1) + 2) 8589934593).store (((blockAt (cfgP 0 0) 1) + 1) + 3) 5).store (((blockAt (cfgP 0 0) 1) + 1) + 4) 6).load (blockAt (cfgP 0 0) 1 + 1))) _ := ((((((hA0.store _ (by decide)).store _ (by decide)).store _ (by decide)).store _ (by decide)).store _ (by decide)).load _); have hz1 := hA.2.1; have hs1 := hA.2.2.2; first | exact hA.1 | omega) (by decide) (by kernel_rfl)) (by kernel_rfl) ?_
  rintro v post ⟨a3_16, c3_17, rfl, rfl⟩
  refine go_exec (rs := [.tmp 0]) (by kernel_rfl) 4000 [.z q56_7 2 [7, 50, 51]] (o := .stop [.o q56_7 2, .c [1, 1, 1, 1, 1, 1, 1, 1, 1, 1, 1]] [(7, vP f_10), (50, vP f_10), (51, vP ba_3)] [.raw 0 o_, Efdc04 b_2 (cfgP 0 0), E9f921 b_8 5 7 8589934593 5 6, .pts b_9 [vI 1, vI 0] 3, E18c61 f_10 (.slice (some ⟨b_7, 0, none⟩) 1 1) (blockAt (cfgP 0 0) 1 + 1) ((cfgP 0 0).s0) a_11 (([1, 0] : List Int).length) c0_12 (vP w_13) false 0, E0aaf3 w_13 (.slice (some ⟨b_7, 0, none⟩) 1 1) 0 a3_16 (([0] : List Int).length) c3_17 3 3 0 0, .pts b_7 [.slice (some ⟨b_6, 0, none⟩) 2 2] 34, E1356c b_6 1 0 3 0, Ee1326 a_11 c0_12 ([1, 0] : List Int), Ee1326 a3_16 c3_17 ([0] : List Int), Ebed9f ba_3 ((((((((mkAr (cfgP 0 0) aw_4 cw_5).store (((blockAt (cfgP 0 0) 1) + 1) + 0) 5).store (((blockAt (cfgP 0 0) 1) + 1) + 1) 7).store (((blockAt (cfgP 0 0) 1) + 1) + 2) 8589934593).store (((blockAt (cfgP 0 0) 1) + 1) + 3) 5).store (((blockAt (cfgP 0 0) 1) + 1) + 4) 6).load (blockAt (cfgP 0 0) 1 + 1)).load ((blockAt (cfgP 0 0) 1 + 1) + 2)), E632c4 ((((((((mkAr (cfgP 0 0) aw_4 cw_5).store (((blockAt (cfgP 0 0) 1) + 1) + 0) 5).store (((blockAt (cfgP 0 0) 1) + 1) + 1) 7).store (((blockAt (cfgP 0 0) 1) + 1) + 2) 8589934593).store (((blockAt (cfgP 0 0) 1) + 1) + 3) 5).store (((blockAt (cfgP 0 0) 1) + 1) + 4) 6).load (blockAt (cfgP 0 0) 1 + 1)).load ((blockAt (cfgP 0 0) 1 + 1) + 2))]) (by kernel_rfl) ?_
  refine ok_stop ?_
  refine go_call (some 52) [4, 5, 10, 11] Tryz.call15 (fStep3 f_10 w_13 ba_3 b_7 (.slice a3_16 (([0] : List Int).length) c3_17) (blockAt (cfgP 0 0) 1 + 1) ((cfgP 0 0).s0) a_11 c0_12 ((((((((mkAr (cfgP 0 0) aw_4 cw_5).store (((blockAt (cfgP 0 0) 1) + 1) + 0) 5).store (((blockAt (cfgP 0 0) 1) + 1) + 1) 7).store (((blockAt (cfgP 0 0) 1) + 1) + 2) 8589934593).store (((blockAt (cfgP 0 0) 1) + 1) + 3) 5).store (((blockAt (cfgP 0 0) 1) + 1) + 4) 6).load (blockAt (cfgP 0 0) 1 + 1)).load ((blockAt (cfgP 0 0) 1 + 1) + 2)) (by have hA : ArW (cfgP 0 0) (((((((((mkAr (cfgP 0 0) aw_4 cw_5).store (((blockAt (cfgP 0 0) 1) + 1) + 0) 5).store (((blockAt (cfgP 0 0) 1) + 1) + 1) 7).store (((blockAt (cfgP 0 0) 1) + 1) + 2) 8589934593).store (((blockAt (cfgP 0 0) 1) + 1) + 3) 5).store (((blockAt (cfgP 0 0) 1) + 1) + 4) 6).load (blockAt (cfgP 0 0) 1 + 1)).load ((blockAt (cfgP 0 0) 1 + 1) + 2))) _ := (((((((hA0.store _ (by decide)).store _ (by decide)).store _ (by decide)).store _ (by decide)).store _ (by decide)).load _).load _); have hz1 := hA.2.1; have hs1 := hA.2.2.2; first | exact hA.1 | omega) (by have hA : ArW (cfgP 0 0) (((((((((mkAr (cfgP 0 0) aw_4 cw_5).store (((blockAt (cfgP 0 0) 1) + 1) + 0) 5).store (((blockAt (cfgP 0 0) 1) + 1) + 1) 7).store (((blockAt (cfgP 0 0) 1) + 1) + 2) 8589934593).store (((blockAt (cfgP 0 0) 1) + 1) + 3) 5).store (((blockAt (cfgP 0 0) 1) + 1) + 4) 6).load (blockAt (cfgP 0 0) 1 + 1)).load ((blockAt (cfgP 0 0) 1 + 1) + 2))) _ := (((((((hA0.store _ (by decide)).store _ (by decide)).store _ (by decide)).store _ (by decide)).store _ (by decide)).load _).load _); have hz1 := hA.2.1; have hs1 := hA.2.2.2; first | exact hA.1 | omega) (by have hA : ArW (cfgP 0 0) (((((((((mkAr (cfgP 0 0) aw_4 cw_5).store (((blockAt (cfgP 0 0) 1) + 1) + 0) 5).store (((blockAt (cfgP 0 0) 1) + 1) + 1) 7).store (((blockAt (cfgP 0 0) 1) + 1) + 2) 8589934593).store (((blockAt (cfgP 0 0) 1) + 1) + 3) 5).store (((blockAt (cfgP 0 0) 1) + 1) + 4) 6).load (blockAt (cfgP 0 0) 1 + 1)).load ((blockAt (cfgP 0 0) 1 + 1) + 2))) _ := (((((((hA0.store _ (by decide)).store _ (by decide)).store _ (by decide)).store _ (by decide)).store _ (by decide)).load _).load _); have hz1 := hA.2.1; have hs1 := hA.2.2.2; first | exact hA.1 | omega)) (by kernel_rfl) ?_
  rintro v post ⟨rfl, rfl⟩
  refine go_exec (rs := [.tmp 0]) (by kernel_rfl) 4000 [.z q56_8 1 [8, 54]] (o := .stop [.o q56_8 1, .c [1, 1, 1, 1, 1, 1, 1, 1, 1, 1, 1, 1]] [(8, .bool true), (54, vP f_10)] [.raw 0 o_, Efdc04 b_2 (cfgP 0 0), E9f921 b_8 5 7 8589934593 5 6, .pts b_9 [vI 1, vI 0] 3, .pts b_7 [.slice (some ⟨b_6, 0, none⟩) 2 2] 34, E1356c b_6 1 0 3 0, Ee1326 a_11 c0_12 ([1, 0] : List Int), Ee1326 a3_16 c3_17 ([0] : List Int), E18c61 f_10 (.slice (some ⟨b_7, 0, none⟩) 1 1) (blockAt (cfgP 0 0) 1 + 1) ((cfgP 0 0).s0) a_11 (([1, 0] : List Int).length) c0_12 (vP w_13) true ((((((((((mkAr (cfgP 0 0) aw_4 cw_5).store (((blockAt (cfgP 0 0) 1) + 1) + 0) 5).store (((blockAt (cfgP 0 0) 1) + 1) + 1) 7).store (((blockAt (cfgP 0 0) 1) + 1) + 2) 8589934593).store (((blockAt (cfgP 0 0) 1) + 1) + 3) 5).store (((blockAt (cfgP 0 0) 1) + 1) + 4) 6).load (blockAt (cfgP 0 0) 1 + 1)).load ((blockAt (cfgP 0 0) 1 + 1) + 2)).ws).getD ((blockAt (cfgP 0 0) 1 + 1) + 3).toNat 0), E0aaf3 w_13 (.slice (some ⟨b_7, 0, none⟩) 1 1) 0 a3_16 (([0] : List Int).length) c3_17 (-1) 3 ((((((((((mkAr (cfgP 0 0) aw_4 cw_5).store (((blockAt (cfgP 0 0) 1) + 1) + 0) 5).store (((blockAt (cfgP 0 0) 1) + 1) + 1) 7).store (((blockAt (cfgP 0 0) 1) + 1) + 2) 8589934593).store (((blockAt (cfgP 0 0) 1) + 1) + 3) 5).store (((blockAt (cfgP 0 0) 1) + 1) + 4) 6).load (blockAt (cfgP 0 0) 1 + 1)).load ((blockAt (cfgP 0 0) 1 + 1) + 2)).ws).getD ((blockAt (cfgP 0 0) 1 + 1) + 3).toNat 0) 0, Ebed9f ba_3 (((((((((mkAr (cfgP 0 0) aw_4 cw_5).store (((blockAt (cfgP 0 0) 1) + 1) + 0) 5).store (((blockAt (cfgP 0 0) 1) + 1) + 1) 7).store (((blockAt (cfgP 0 0) 1) + 1) + 2) 8589934593).store (((blockAt (cfgP 0 0) 1) + 1) + 3) 5).store (((blockAt (cfgP 0 0) 1) + 1) + 4) 6).load (blockAt (cfgP 0 0) 1 + 1)).load ((blockAt (cfgP 0 0) 1 + 1) + 2)).load ((blockAt (cfgP 0 0) 1 + 1) + 3)), E632c4 (((((((((mkAr (cfgP 0 0) aw_4 cw_5).store (((blockAt (cfgP 0 0) 1) + 1) + 0) 5).store (((blockAt (cfgP 0 0) 1) + 1) + 1) 7).store (((blockAt (cfgP 0 0) 1) + 1) + 2) 8589934593).store (((blockAt (cfgP 0 0) 1) + 1) + 3) 5).store (((blockAt (cfgP 0 0) 1) + 1) + 4) 6).load (blockAt (cfgP 0 0) 1 + 1)).load ((blockAt (cfgP 0 0) 1 + 1) + 2)).load ((blockAt (cfgP 0 0) 1 + 1) + 3))]) (by kernel_rfl) ?_
  refine ok_stop ?_
  refine go_call (some 55) [8] Tryz.call8 (fTold f_10 (.slice (some ⟨b_7, 0, none⟩) 1 1) (.slice a_11 (([1, 0] : List Int).length) c0_12) (vP w_13) (.nilIface) (blockAt (cfgP 0 0) 1 + 1) ((cfgP 0 0).s0) ((((((((((mkAr (cfgP 0 0) aw_4 cw_5).store (((blockAt (cfgP 0 0) 1) + 1) + 0) 5).store (((blockAt (cfgP 0 0) 1) + 1) + 1) 7).store (((blockAt (cfgP 0 0) 1) + 1) + 2) 8589934593).store (((blockAt (cfgP 0 0) 1) + 1) + 3) 5).store (((blockAt (cfgP 0 0) 1) + 1) + 4) 6).load (blockAt (cfgP 0 0) 1 + 1)).load ((blockAt (cfgP 0 0) 1 + 1) + 2)).ws).getD ((blockAt (cfgP 0 0) 1 + 1) + 3).toNat 0)) (by kernel_rfl) ?_
  rintro v post ⟨rfl, rfl⟩
  refine go_exec (rs := [.tmp 0]) (by kernel_rfl) 4000 [.sp [63, 61, 62] [.z q56_9 7 [63, 64]] [.dead]] (o := .obl ((((((((((((mkAr (cfgP 0 0) aw_4 cw_5).store (((blockAt (cfgP 0 0) 1) + 1) + 0) 5).store (((blockAt (cfgP 0 0) 1) + 1) + 1) 7).store (((blockAt (cfgP 0 0) 1) + 1) + 2) 8589934593).store (((blockAt (cfgP 0 0) 1) + 1) + 3) 5).store (((blockAt (cfgP 0 0) 1) + 1) + 4) 6).load (blockAt (cfgP 0 0) 1 + 1)).load ((blockAt (cfgP 0 0) 1 + 1) + 2)).ws).getD ((blockAt (cfgP 0 0) 1 + 1) + 3).toNat 0) == 5) = (((((((((((mkAr (cfgP 0 0) aw_4 cw_5).store (((blockAt (cfgP 0 0) 1) + 1) + 0) 5).store (((blockAt (cfgP 0 0) 1) + 1) + 1) 7).store (((blockAt (cfgP 0 0) 1) + 1) + 2) 8589934593).store (((blockAt (cfgP 0 0) 1) + 1) + 3) 5).store (((blockAt (cfgP 0 0) 1) + 1) + 4) 6).load (blockAt (cfgP 0 0) 1 + 1)).load ((blockAt (cfgP 0 0) 1 + 1) + 2)).ws).getD ((blockAt (cfgP 0 0) 1 + 1) + 3).toNat 0) == 5)) (.obl ((((((((((((mkAr (cfgP 0 0) aw_4 cw_5).store (((blockAt (cfgP 0 0) 1) + 1) + 0) 5).store (((blockAt (cfgP 0 0) 1) + 1) + 1) 7).store (((blockAt (cfgP 0 0) 1) + 1) + 2) 8589934593).store (((blockAt (cfgP 0 0) 1) + 1) + 3) 5).store (((blockAt (cfgP 0 0) 1) + 1) + 4) 6).load (blockAt (cfgP 0 0) 1 + 1)).load ((blockAt (cfgP 0 0) 1 + 1) + 2)).ws).getD ((blockAt (cfgP 0 0) 1 + 1) + 3).toNat 0) == 5) = (((((((((((mkAr (cfgP 0 0) aw_4 cw_5).store (((blockAt (cfgP 0 0) 1) + 1) + 0) 5).store (((blockAt (cfgP 0 0) 1) + 1) + 1) 7).store (((blockAt (cfgP 0 0) 1) + 1) + 2) 8589934593).store (((blockAt (cfgP 0 0) 1) + 1) + 3) 5).store (((blockAt (cfgP 0 0) 1) + 1) + 4) 6).load (blockAt (cfgP 0 0) 1 + 1)).load ((blockAt (cfgP 0 0) 1 + 1) + 2)).ws).getD ((blockAt (cfgP 0 0) 1 + 1) + 3).toNat 0) == 5)) (.br (((((((((((mkAr (cfgP 0 0) aw_4 cw_5).store (((blockAt (cfgP 0 0) 1) + 1) + 0) 5).store (((blockAt (cfgP 0 0) 1) + 1) + 1) 7).store (((blockAt (cfgP 0 0) 1) + 1) + 2) 8589934593).store (((blockAt (cfgP 0 0) 1) + 1) + 3) 5).store (((blockAt (cfgP 0 0) 1) + 1) + 4) 6).load (blockAt (cfgP 0 0) 1 + 1)).load ((blockAt (cfgP 0 0) 1 + 1) + 2)).ws).getD ((blockAt (cfgP 0 0) 1 + 1) + 3).toNat 0) == 5) (.stop [.o q56_9 7, .c [1, 1, 1, 1, 1, 1, 1, 1, 1, 1, 1, 1, 1]] [(63, .bool true), (64, .nilIface)] [.raw 0 o_, Efdc04 b_2 (cfgP 0 0), E9f921 b_8 5 7 8589934593 5 6, .pts b_9 [vI 1, vI 0] 3, .pts b_7 [.slice (some ⟨b_6, 0, none⟩) 2 2] 34, E1356c b_6 1 0 3 0, Ee1326 a_11 c0_12 ([1, 0] : List Int), Ee1326 a3_16 c3_17 ([0] : List Int), E0aaf3 w_13 (.slice (some ⟨b_7, 0, none⟩) 1 1) 0 a3_16 (([0] : List Int).length) c3_17 (-1) 3 ((((((((((mkAr (cfgP 0 0) aw_4 cw_5).store (((blockAt (cfgP 0 0) 1) + 1) + 0) 5).store (((blockAt (cfgP 0 0) 1) + 1) + 1) 7).store (((blockAt (cfgP 0 0) 1) + 1) + 2) 8589934593).store (((blockAt (cfgP 0 0) 1) + 1) + 3) 5).store (((blockAt (cfgP 0 0) 1) + 1) + 4) 6).load (blockAt (cfgP 0 0) 1 + 1)).load ((blockAt (cfgP 0 0) 1 + 1) + 2)).ws).getD ((blockAt (cfgP 0 0) 1 + 1) + 3).toNat 0) 0, Ebed9f ba_3 (((((((((mkAr (cfgP 0 0) aw_4 cw_5).store (((blockAt (cfgP 0 0) 1) + 1) + 0) 5).store (((blockAt (cfgP 0 0) 1) + 1) + 1) 7).store (((blockAt (cfgP 0 0) 1) + 1) + 2) 8589934593).store (((blockAt (cfgP 0 0) 1) + 1) + 3) 5).store (((blockAt (cfgP 0 0) 1) + 1) + 4) 6).load (blockAt (cfgP 0 0) 1 + 1)).load ((blockAt (cfgP 0 0) 1 + 1) + 2)).load ((blockAt (cfgP 0 0) 1 + 1) + 3)), E632c4 (((((((((mkAr (cfgP 0 0) aw_4 cw_5).store (((blockAt (cfgP 0 0) 1) + 1) + 0) 5).store (((blockAt (cfgP 0 0) 1) + 1) + 1) 7).store (((blockAt (cfgP 0 0) 1) + 1) + 2) 8589934593).store (((blockAt (cfgP 0 0) 1) + 1) + 3) 5).store (((blockAt (cfgP 0 0) 1) + 1) + 4) 6).load (blockAt (cfgP 0 0) 1 + 1)).load ((blockAt (cfgP 0 0) 1 + 1) + 2)).load ((blockAt (cfgP 0 0) 1 + 1) + 3)), E18c61 f_10 (.slice (some ⟨b_7, 0, none⟩) 1 1) (blockAt (cfgP 0 0) 1 + 1) ((cfgP 0 0).s0) a_11 (([1, 0] : List Int).length) c0_12 (vP w_13) true ((((((((((mkAr (cfgP 0 0) aw_4 cw_5).store (((blockAt (cfgP 0 0) 1) + 1) + 0) 5).store (((blockAt (cfgP 0 0) 1) + 1) + 1) 7).store (((blockAt (cfgP 0 0) 1) + 1) + 2) 8589934593).store (((blockAt (cfgP 0 0) 1) + 1) + 3) 5).store (((blockAt (cfgP 0 0) 1) + 1) + 4) 6).load (blockAt (cfgP 0 0) 1 + 1)).load ((blockAt (cfgP 0 0) 1 + 1) + 2)).ws).getD ((blockAt (cfgP 0 0) 1 + 1) + 3).toNat 0)]) (.bad)))) (by kernel_rfl) ?_
  refine ok_obl rfl ?_
  refine ok_obl rfl ?_
  refine ok_br (fun _ => ?_) (fun h => absurd (show (((((((((((mkAr (cfgP 0 0) aw_4 cw_5).store (((blockAt (cfgP 0 0) 1) + 1) + 0) 5).store (((blockAt (cfgP 0 0) 1) + 1) + 1) 7).store (((blockAt (cfgP 0 0) 1) + 1) + 2) 8589934593).store (((blockAt (cfgP 0 0) 1) + 1) + 3) 5).store (((blockAt (cfgP 0 0) 1) + 1) + 4) 6).load (blockAt (cfgP 0 0) 1 + 1)).load ((blockAt (cfgP 0 0) 1 + 1) + 2)).ws).getD ((blockAt (cfgP 0 0) 1 + 1) + 3).toNat 0) == 5) = true from (by kernel_rfl)) (by rw [h]; simp))
  refine ok_stop ?_
  refine go_call (some 65) [0] Tryz.call12 (cause_Top0 o_) (by kernel_rfl) ?_
  rintro v post ⟨rfl, rfl⟩
  refine go_exec (rs := [.tmp 0]) (by kernel_rfl) 4000 [] (o := .ret (.bool true) [Efdc04 b_2 (cfgP 0 0), E9f921 b_8 5 7 8589934593 5 6, .pts b_9 [vI 1, vI 0] 3, .pts b_7 [.slice (some ⟨b_6, 0, none⟩) 2 2] 34, E1356c b_6 1 0 3 0, Ee1326 a_11 c0_12 ([1, 0] : List Int), Ee1326 a3_16 c3_17 ([0] : List Int), E0aaf3 w_13 (.slice (some ⟨b_7, 0, none⟩) 1 1) 0 a3_16 (([0] : List Int).length) c3_17 (-1) 3 ((((((((((mkAr (cfgP 0 0) aw_4 cw_5).store (((blockAt (cfgP 0 0) 1) + 1) + 0) 5).store (((blockAt (cfgP 0 0) 1) + 1) + 1) 7).store (((blockAt (cfgP 0 0) 1) + 1) + 2) 8589934593).store (((blockAt (cfgP 0 0) 1) + 1) + 3) 5).store (((blockAt (cfgP 0 0) 1) + 1) + 4) 6).load (blockAt (cfgP 0 0) 1 + 1)).load ((blockAt (cfgP 0 0) 1 + 1) + 2)).ws).getD ((blockAt (cfgP 0 0) 1 + 1) + 3).toNat 0) 0, Ebed9f ba_3 (((((((((mkAr (cfgP 0 0) aw_4 cw_5).store (((blockAt (cfgP 0 0) 1) + 1) + 0) 5).store (((blockAt (cfgP 0 0) 1) + 1) + 1) 7).store (((blockAt (cfgP 0 0) 1) + 1) + 2) 8589934593).store (((blockAt (cfgP 0 0) 1) + 1) + 3) 5).store (((blockAt (cfgP 0 0) 1) + 1) + 4) 6).load (blockAt (cfgP 0 0) 1 + 1)).load ((blockAt (cfgP 0 0) 1 + 1) + 2)).load ((blockAt (cfgP 0 0) 1 + 1) + 3)), E632c4 (((((((((mkAr (cfgP 0 0) aw_4 cw_5).store (((blockAt (cfgP 0 0) 1) + 1) + 0) 5).store (((blockAt (cfgP 0 0) 1) + 1) + 1) 7).store (((blockAt (cfgP 0 0) 1) + 1) + 2) 8589934593).store (((blockAt (cfgP 0 0) 1) + 1) + 3) 5).store (((blockAt (cfgP 0 0) 1) + 1) + 4) 6).load (blockAt (cfgP 0 0) 1 + 1)).load ((blockAt (cfgP 0 0) 1 + 1) + 2)).load ((blockAt (cfgP 0 0) 1 + 1) + 3)), E18c61 f_10 (.slice (some ⟨b_7, 0, none⟩) 1 1) (blockAt (cfgP 0 0) 1 + 1) ((cfgP 0 0).s0) a_11 (([1, 0] : List Int).length) c0_12 (vP w_13) true ((((((((((mkAr (cfgP 0 0) aw_4 cw_5).store (((blockAt (cfgP 0 0) 1) + 1) + 0) 5).store (((blockAt (cfgP 0 0) 1) + 1) + 1) 7).store (((blockAt (cfgP 0 0) 1) + 1) + 2) 8589934593).store (((blockAt (cfgP 0 0) 1) + 1) + 3) 5).store (((blockAt (cfgP 0 0) 1) + 1) + 4) 6).load (blockAt (cfgP 0 0) 1 + 1)).load ((blockAt (cfgP 0 0) 1 + 1) + 2)).ws).getD ((blockAt (cfgP 0 0) 1 + 1) + 3).toNat 0), .raw 0 o_]) (by kernel_rfl) ?_
  exact ret_ok (post := [.raw 0 o_]) [11] (by kernel_rfl) ⟨rfl, (by kernel_rfl)⟩

end Go.Proofs.YtiiepkjckmdmkaaGreatDoor


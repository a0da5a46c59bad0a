/- Walks: what functions of the program and of the document compute, part 3 of those on which RetireGuards rests. -/
import Derived.Test.YtilaihbbollcnaaGreatDoorRtB
import Derived.Test.YtilaihbbollcnaaGreatDoorChecked
import Derived.WalkKit
import Derived.LaidEql
import Derived.Stop.Asserts
import Derived.RowKitTokens
import Derived.Test.YtilaihbbollcnaaGreatDoorRows
import Derived.ChangeSame
import Derived.ChangeVars
import Derived.JoinedOf
import Derived.RowKit
import Derived.LaidLaws
import Derived.LaidHandle
import Derived.Stop.Joined

set_option linter.unusedVariables false
set_option linter.unusedSimpArgs false

namespace Go.Proofs.YtilaihbbollcnaaGreatDoor
open Go.Sx
abbrev q13_0 : List Nat := [0, 0, 0, 1, 0, 0, 1, 0, 1]
abbrev q13_1 : List Nat := [0, 0, 0, 1, 0, 0, 1, 0, 1, 1]
abbrev q13_2 : List Nat := [1, 0, 0, 1, 0, 0, 1, 0, 1, 1]
abbrev q13_3 : List Nat := [1, 1, 0, 0, 1, 0, 1, 1]
noncomputable def B34 : Code := (Tryz.f34.body).getD .skip

theorem ref_Has (a : Option Addr) (c c0 n : Nat) (xs : List Int) (v_ : Int) (hn : n ≤ xs.length) (hl : n ≤ 1000000) :
    Ctr Tryz.prog 34 #[.slice a n c, vI v_] [Ee1326 a c0 xs] (Ret (.bool (hasN xs n v_)) [Ee1326 a c0 xs]) := by
  refine ctr_of (args := [.slice a n c, vI v_]) (fn := Tryz.f34) (body := B34) (nt := 18) Tryz.func34 (by kernel_rfl) (by kernel_rfl) ?_
  intro F
  refine go_exec (rs := [.tmp 4]) (by kernel_rfl) 4000 [.z [0, 1, 0, 1] 0 [0, 1, 5]] (o := .stop [.c [0, 1, 0, 1], .b 0, .c [1, 1]] [(0, .slice a n c), (1, vI v_), (5, vI 0)] [Ee1326 a c0 xs]) (by kernel_rfl) ?_
  refine ok_stop ?_
  refine go_loop (ι := Int) (fun i => [(0, .slice a n c), (1, vI v_), (5, vI i)]) (fun i => [Ee1326 a c0 xs]) (fun i => (0 ≤ i ∧ i ≤ (n : Int)) ∧ ∀ j : Nat, (j : Int) < i → xs.getD j 0 ≠ v_) (fun i => ((n : Int) - i).toNat) 0 [0, 1, 5] [0] (by kernel_rfl) (by kernel_rfl) (by kernel_rfl) (by kernel_rfl) ⟨(by omega), fun j h => (by omega)⟩ ?_
  intro i J_1 hIJ_1 hJ_1
  have hx := hIJ_1
  refine go_exec (rs := [.tmp 4]) (by kernel_rfl) 4000 [.sp [9] [.z q13_0 2 [0, 1, 5, 12, 13]] []] (o := .br (decide (i < ((n : Nat) : Int))) (.stop [.o q13_0 2, .c [1, 0, 0, 1, 0, 0, 1, 0, 1], .b 1, .c [1, 1, 0, 0, 1, 0, 1], .j J_1, .b 0, .c [1, 1]] [(0, .slice a n c), (1, vI v_), (5, vI i), (12, .slice a n c), (13, vI i)] [Ee1326 a c0 xs]) (.ret (.bool false) [Ee1326 a c0 xs])) (by kernel_rfl) ?_
  refine ok_br (fun h_2 => ?_) (fun h_2 => ?_)
  · replace h_2 := decT h_2
    refine ok_stop ?_
    refine go_by (some 14) (ipO Tryz.prog _) (some (.slice a n c, vI i, 1)) (R_ixP 0 (a := a) (c := c0) (enc := encI .i64) (d := 0) (sz := 1) (xs := xs) (te := 3)  (by kernel_rfl) n c .i64 i (by omega) (by omega)) (by kernel_rfl) ?_
    rintro v L2 ⟨rfl, rfl⟩
    refine go_exec (rs := [.tmp 4]) (by kernel_rfl) 4000 [.j 0 i.toNat, .sp [17] [] [.n, .z [] 0 [0, 1, 5]]] (o := .obl (slAt a i.toNat 1 = slAt a i.toNat 1) (.obl (i.toNat < xs.length) (.br ((xs.getD i.toNat 0) == v_) (.ret (.bool true) [Ee1326 a c0 xs]) (.obl (InK .i64 (i + 1)) (.stop [.j J_1, .b 0, .c [1, 1]] [(0, .slice a n c), (1, vI v_), (5, vI (i + 1))] [Ee1326 a c0 xs]))))) (by kernel_rfl) ?_
    refine ok_obl rfl ?_
    refine ok_obl (by first | omega | (simp; done) | (simp; omega)) ?_
    refine ok_br (fun h_3 => ?_) (fun h_3 => ?_)
    · replace h_3 := beqT h_3
      exact ret_ok (post := [Ee1326 a c0 xs]) [0] (by kernel_rfl) ⟨(congrArg Value.bool (hasN_yes (i := i) (by omega) hn (by assumption)).symm), (by kernel_rfl)⟩
    · replace h_3 := beqF h_3
      refine ok_obl (by simp only [InK]; omega) ?_
      refine ok_stop ?_
      exact go_back hJ_1 (i + 1) [0] (by kernel_rfl) (by kernel_rfl) (by kernel_rfl) ⟨(by omega), has_step hx.2 hx.1.1 (by assumption)⟩ (by omega)
  · replace h_2 := decF h_2
    exact ret_ok (post := [Ee1326 a c0 xs]) [0] (by kernel_rfl) ⟨(congrArg Value.bool (hasN_no hx.2 (by omega)).symm), (by kernel_rfl)⟩

noncomputable def B69 : Code := (Tryz.f69.body).getD .skip

theorem same_i64 (a b : Option Addr) (c d : Nat) (xs ys : List Int) (hl : xs.length ≤ 1000000) :
    Ctr Tryz.prog 69 #[.slice a xs.length c, .slice b ys.length d] [Ee1326 a c xs, Ee1326 b d ys] (Ret (.bool (xs == ys)) [Ee1326 a c xs, Ee1326 b d ys]) := by
  refine ctr_of (args := [.slice a xs.length c, .slice b ys.length d]) (fn := Tryz.f69) (body := B69) (nt := 26) Tryz.func69 (by kernel_rfl) (by kernel_rfl) ?_
  intro F
  refine go_exec (rs := [.tmp 4]) (by kernel_rfl) 4000 [.sp [10] [] [.z [0, 1, 0, 1, 1] 0 [0, 1, 5]]] (o := .br (((xs.length : Nat) : Int) != ((ys.length : Nat) : Int)) (.ret (.bool false) [Ee1326 a c xs, Ee1326 b d ys]) (.stop [.c [0, 1, 0, 1, 1], .b 0, .c [1, 1, 1]] [(0, .slice a xs.length c), (1, .slice b ys.length d), (5, vI 0)] [Ee1326 a c xs, Ee1326 b d ys])) (by kernel_rfl) ?_
  refine ok_br (fun h_1 => ?_) (fun h_1 => ?_)
  · replace h_1 := bneT h_1
    exact ret_ok (post := [Ee1326 a c xs, Ee1326 b d ys]) [0, 1] (by kernel_rfl) ⟨(congrArg Value.bool (by first | exact (same_len (by assumption)).symm | exact (same_no (by assumption)).symm)), (by kernel_rfl)⟩
  · replace h_1 := bneF h_1
    refine ok_stop ?_
    refine go_loop (ι := Int) (fun i => [(0, .slice a xs.length c), (1, .slice b ys.length d), (5, vI i)]) (fun i => [Ee1326 a c xs, Ee1326 b d ys]) (fun i => (0 ≤ i ∧ i ≤ (xs.length : Int)) ∧ ∀ j : Nat, (j : Int) < i → xs.getD j 0 = ys.getD j 0) (fun i => ((xs.length : Int) - i).toNat) 0 [0, 1, 5] [0, 1] (by kernel_rfl) (by kernel_rfl) (by kernel_rfl) (by kernel_rfl) ⟨(by omega), fun j h => (by omega)⟩ ?_
    intro i J_2 hIJ_2 hJ_2
    have hx := hIJ_2
    refine go_exec (rs := [.tmp 4]) (by kernel_rfl) 4000 [.sp [14] [.z q13_1 0 [0, 1, 5]] []] (o := .br (decide (i < ((xs.length : Nat) : Int))) (.stop [.c q13_1, .c q13_2, .b 1, .c q13_3, .j J_2, .b 0, .c [1, 1, 1]] [(0, .slice a xs.length c), (1, .slice b ys.length d), (5, vI i)] [Ee1326 a c xs, Ee1326 b d ys]) (.ret (.bool true) [Ee1326 a c xs, Ee1326 b d ys])) (by kernel_rfl) ?_
    refine ok_br (fun h_3 => ?_) (fun h_3 => ?_)
    · replace h_3 := decT h_3
      refine ok_stop ?_
      refine go_quiet (tm' := [(0, .slice a xs.length c), (1, .slice b ys.length d), (5, vI i), (25, .bool ((xs.getD i.toNat 0) != (ys.getD i.toNat 0)))]) (ps := [a = a ∧ xs.length = xs.length, (0 : Int) ≤ i ∧ i < ((xs.length : Nat) : Int), slAt a i.toNat 1 = slAt a i.toNat 1, i.toNat < xs.length, b = b ∧ ys.length = ys.length, (0 : Int) ≤ i ∧ i < ((ys.length : Nat) : Int), slAt b i.toNat 1 = slAt b i.toNat 1, i.toNat < ys.length]) (cs := []) [(0, .h .w), (1, .h .w), (2, .h (.s 0)), (3, .h (.j 0 i.toNat)), (4, .h .w), (5, .h .w), (6, .h (.s 1)), (7, .h (.j 1 i.toNat)), (8, .h .w)] [0, 1, 5, 25] (by kernel_rfl) (by kernel_rfl) ⟨⟨rfl, (by first | rfl | omega | (simp; done) | (simp; omega))⟩, (by first | omega | (simp; done) | (simp; omega)), rfl, (by first | omega | (simp; done) | (simp; omega)), ⟨rfl, (by first | rfl | omega | (simp; done) | (simp; omega))⟩, (by first | omega | (simp; done) | (simp; omega)), rfl, (by first | omega | (simp; done) | (simp; omega)), trivial⟩ trivial ?_
      refine go_exec (rs := [.tmp 4]) (by kernel_rfl) 4000 [.sp [25] [] [.n, .z [] 0 [0, 1, 5]]] (o := .br ((xs.getD i.toNat 0) != (ys.getD i.toNat 0)) (.ret (.bool false) [Ee1326 a c xs, Ee1326 b d ys]) (.obl (InK .i64 (i + 1)) (.stop [.j J_2, .b 0, .c [1, 1, 1]] [(0, .slice a xs.length c), (1, .slice b ys.length d), (5, vI (i + 1))] [Ee1326 a c xs, Ee1326 b d ys]))) (by kernel_rfl) ?_
      refine ok_br (fun h_4 => ?_) (fun h_4 => ?_)
      · replace h_4 := bneT h_4
        exact ret_ok (post := [Ee1326 a c xs, Ee1326 b d ys]) [0, 1] (by kernel_rfl) ⟨(congrArg Value.bool (by first | exact (same_len (by assumption)).symm | exact (same_no (by assumption)).symm)), (by kernel_rfl)⟩
      · replace h_4 := bneF h_4
        refine ok_obl (by simp only [InK]; omega) ?_
        refine ok_stop ?_
        exact go_back hJ_2 (i + 1) [0, 1] (by kernel_rfl) (by kernel_rfl) (by kernel_rfl) ⟨(by omega), same_step hx.2 hx.1.1 (by assumption)⟩ (by omega)
    · replace h_3 := decF h_3
      exact ret_ok (post := [Ee1326 a c xs, Ee1326 b d ys]) [0, 1] (by kernel_rfl) ⟨(congrArg Value.bool (same_yes hx.2 (by omega) (by omega)).symm), (by kernel_rfl)⟩

noncomputable def B24 : Code := (Tryz.f24.body).getD .skip

theorem same_u64 (a b : Option Addr) (c d : Nat) (xs ys : List Int) (hl : xs.length ≤ 1000000) :
    Ctr Tryz.prog 24 #[.slice a xs.length c, .slice b ys.length d] [E7a681 a c xs, E7a681 b d ys] (Ret (.bool (xs == ys)) [E7a681 a c xs, E7a681 b d ys]) := by
  refine ctr_of (args := [.slice a xs.length c, .slice b ys.length d]) (fn := Tryz.f24) (body := B24) (nt := 26) Tryz.func24 (by kernel_rfl) (by kernel_rfl) ?_
  intro F
  refine go_exec (rs := [.tmp 4]) (by kernel_rfl) 4000 [.sp [10] [] [.z [0, 1, 0, 1, 1] 0 [0, 1, 5]]] (o := .br (((xs.length : Nat) : Int) != ((ys.length : Nat) : Int)) (.ret (.bool false) [E7a681 a c xs, E7a681 b d ys]) (.stop [.c [0, 1, 0, 1, 1], .b 0, .c [1, 1, 1]] [(0, .slice a xs.length c), (1, .slice b ys.length d), (5, vI 0)] [E7a681 a c xs, E7a681 b d ys])) (by kernel_rfl) ?_
  refine ok_br (fun h_1 => ?_) (fun h_1 => ?_)
  · replace h_1 := bneT h_1
    exact ret_ok (post := [E7a681 a c xs, E7a681 b d ys]) [0, 1] (by kernel_rfl) ⟨(congrArg Value.bool (by first | exact (same_len (by assumption)).symm | exact (same_no (by assumption)).symm)), (by kernel_rfl)⟩
  · replace h_1 := bneF h_1
    refine ok_stop ?_
    refine go_loop (ι := Int) (fun i => [(0, .slice a xs.length c), (1, .slice b ys.length d), (5, vI i)]) (fun i => [E7a681 a c xs, E7a681 b d ys]) (fun i => (0 ≤ i ∧ i ≤ (xs.length : Int)) ∧ ∀ j : Nat, (j : Int) < i → xs.getD j 0 = ys.getD j 0) (fun i => ((xs.length : Int) - i).toNat) 0 [0, 1, 5] [0, 1] (by kernel_rfl) (by kernel_rfl) (by kernel_rfl) (by kernel_rfl) ⟨(by omega), fun j h => (by omega)⟩ ?_
    intro i J_2 hIJ_2 hJ_2
    have hx := hIJ_2
    refine go_exec (rs := [.tmp 4]) (by kernel_rfl) 4000 [.sp [14] [.z q13_1 0 [0, 1, 5]] []] (o := .br (decide (i < ((xs.length : Nat) : Int))) (.stop [.c q13_1, .c q13_2, .b 1, .c q13_3, .j J_2, .b 0, .c [1, 1, 1]] [(0, .slice a xs.length c), (1, .slice b ys.length d), (5, vI i)] [E7a681 a c xs, E7a681 b d ys]) (.ret (.bool true) [E7a681 a c xs, E7a681 b d ys])) (by kernel_rfl) ?_
    refine ok_br (fun h_3 => ?_) (fun h_3 => ?_)
    · replace h_3 := decT h_3
      refine ok_stop ?_
      refine go_quiet (tm' := [(0, .slice a xs.length c), (1, .slice b ys.length d), (5, vI i), (25, .bool ((xs.getD i.toNat 0) != (ys.getD i.toNat 0)))]) (ps := [a = a ∧ xs.length = xs.length, (0 : Int) ≤ i ∧ i < ((xs.length : Nat) : Int), slAt a i.toNat 1 = slAt a i.toNat 1, i.toNat < xs.length, b = b ∧ ys.length = ys.length, (0 : Int) ≤ i ∧ i < ((ys.length : Nat) : Int), slAt b i.toNat 1 = slAt b i.toNat 1, i.toNat < ys.length]) (cs := []) [(0, .h .w), (1, .h .w), (2, .h (.s 0)), (3, .h (.j 0 i.toNat)), (4, .h .w), (5, .h .w), (6, .h (.s 1)), (7, .h (.j 1 i.toNat)), (8, .h .w)] [0, 1, 5, 25] (by kernel_rfl) (by kernel_rfl) ⟨⟨rfl, (by first | rfl | omega | (simp; done) | (simp; omega))⟩, (by first | omega | (simp; done) | (simp; omega)), rfl, (by first | omega | (simp; done) | (simp; omega)), ⟨rfl, (by first | rfl | omega | (simp; done) | (simp; omega))⟩, (by first | omega | (simp; done) | (simp; omega)), rfl, (by first | omega | (simp; done) | (simp; omega)), trivial⟩ trivial ?_
      refine go_exec (rs := [.tmp 4]) (by kernel_rfl) 4000 [.sp [25] [] [.n, .z [] 0 [0, 1, 5]]] (o := .br ((xs.getD i.toNat 0) != (ys.getD i.toNat 0)) (.ret (.bool false) [E7a681 a c xs, E7a681 b d ys]) (.obl (InK .i64 (i + 1)) (.stop [.j J_2, .b 0, .c [1, 1, 1]] [(0, .slice a xs.length c), (1, .slice b ys.length d), (5, vI (i + 1))] [E7a681 a c xs, E7a681 b d ys]))) (by kernel_rfl) ?_
      refine ok_br (fun h_4 => ?_) (fun h_4 => ?_)
      · replace h_4 := bneT h_4
        exact ret_ok (post := [E7a681 a c xs, E7a681 b d ys]) [0, 1] (by kernel_rfl) ⟨(congrArg Value.bool (by first | exact (same_len (by assumption)).symm | exact (same_no (by assumption)).symm)), (by kernel_rfl)⟩
      · replace h_4 := bneF h_4
        refine ok_obl (by simp only [InK]; omega) ?_
        refine ok_stop ?_
        exact go_back hJ_2 (i + 1) [0, 1] (by kernel_rfl) (by kernel_rfl) (by kernel_rfl) ⟨(by omega), same_step hx.2 hx.1.1 (by assumption)⟩ (by omega)
    · replace h_3 := decF h_3
      exact ret_ok (post := [E7a681 a c xs, E7a681 b d ys]) [0, 1] (by kernel_rfl) ⟨(congrArg Value.bool (same_yes hx.2 (by omega) (by omega)).symm), (by kernel_rfl)⟩


theorem same_un (a b : Option Addr) (c d n : Nat) (xs ys : List Int) (hl : xs.length ≤ 1000000) (hn : ys.length = n) :
    Ctr Tryz.prog 24 #[.slice a xs.length c, .slice b n d] [E7a681 a c xs, E7a681 b d ys] (Ret (.bool (xs == ys)) [E7a681 a c xs, E7a681 b d ys]) := by
  subst hn; exact same_u64 a b c d xs ys hl

end Go.Proofs.YtilaihbbollcnaaGreatDoor


namespace Go.Proofs.YtilaihbbollcnaaGreatDoor
open Go.Sx
noncomputable def B70 : Code := (Tryz.f70.body).getD .skip

theorem scan_Kept0 (c : Cfg) (s m : Nat) (sl : Int) (left kept : List Int) (al ak ag : Option Addr) (cl ck cg ng : Nat) (gp : Value) (hl : kept.length + left.length ≤ 100) :
    Ctr Tryz.prog 70 #[vP s] [Ed2009 s c sl m al left.length cl ak kept.length ck ag ng cg gp, Ee1326 al cl left, Ee1326 ak ck kept] (fun v L => ∃ (a2 : Option Addr) (c2 : Nat), v = .slice a2 ((kept ++ left).length) c2 ∧ L = [Ed2009 s c sl m al left.length cl ak kept.length ck ag ng cg gp, Ee1326 al cl left, Ee1326 ak ck kept, Ee1326 a2 c2 (kept ++ left)]) := by
  refine ctr_of (args := [vP s]) (fn := Tryz.f70) (body := B70) (nt := 15) Tryz.func70 (by kernel_rfl) (by kernel_rfl) ?_
  intro F
  refine go_exec (rs := [.tmp 2]) (by kernel_rfl) 4000 [.z [0, 1, 1] 0 [0]] (o := .stop [.c [0, 1, 1], .c [1, 1, 1]] [(0, vP s)] [Ed2009 s c sl m al left.length cl ak kept.length ck ag ng cg gp, Ee1326 al cl left, Ee1326 ak ck kept]) (by kernel_rfl) ?_
  refine ok_stop ?_
  refine go_lz (by kernel_rfl) (by kernel_rfl) ?_
  refine lz_node (l' := (mk 11 [0, 1, 2, 3, 4, 5, 6, 7])) (V' := [0, 1, 2, 3, 4, 5, 6, 7]) (T1 := [(0, vP s), (5, vP s), (6, vP s), (7, .pointer (some ⟨s, 12, none⟩)), (8, .slice ak kept.length ck), (9, vP s), (10, vP s), (11, .pointer (some ⟨s, 11, none⟩)), (12, .slice al left.length cl)]) (ps := [s = s, s = s]) [0, 1, 2, 3, 4, 5, 6, 7] [(0, .h .w), (1, .h .w), (2, .h .w), (3, .h (.e 0)), (4, .h .w), (5, .h .w), (6, .h .w), (7, .h (.e 0))] [0, 5, 6, 7, 8, 9, 10, 11, 12] [8] (by kernel_rfl) ⟨rfl, rfl, trivial⟩ ⟨?_, trivial⟩
  refine lz_op (l' := (mk 11 [0, 1, 2, 3, 4, 5, 6, 7, 8])) (V' := []) (so := .new fun b_8_1 => .ok (.value (.slice (some ⟨b_8_1, 0, none⟩) 2 2)) [Ed2009 s c sl m al left.length cl ak kept.length ck ag ng cg gp, Ee1326 al cl left, Ee1326 ak ck kept, .pts b_8_1 [.slice ak kept.length ck, .slice al left.length cl] 82]) (dst := (some 13)) .w (by kernel_rfl) ?_
  refine sat_new fun b_8_1 => ?_
  refine sat_value ?_
  refine lz_node (l' := (mk 11 [0, 1, 2, 3, 4, 5, 6, 7, 8])) (V' := []) (T1 := [(13, .slice (some ⟨b_8_1, 0, none⟩) 2 2)]) (ps := []) [] [] [13] [9] (by kernel_rfl) trivial ⟨?_, trivial⟩
  refine lz_call (l' := (mk 11 [0, 1, 2, 3, 4, 5, 6, 7, 8, 9])) (V' := []) (some 14) [3, 2, 1] Tryz.call98 (concat b_8_1 ak al ck cl kept left (by first | assumption | omega | (simp only [InK] at *; omega)) (by first | assumption | omega | (simp only [InK] at *; omega))) (by kernel_rfl) ?_
  rintro v post ⟨a2_9_1, c2_9_1, rfl, rfl⟩
  refine lz_end (T1 := [(2, .slice a2_9_1 ((kept ++ left).length) c2_9_1)]) (ps := []) [10] [(10, .h .w)] [2] (by kernel_rfl) trivial ?_
  refine go_exec (rs := [.tmp 2]) (by kernel_rfl) 4000 [] (o := .ret (.slice a2_9_1 ((kept ++ left).length) c2_9_1) [Ed2009 s c sl m al left.length cl ak kept.length ck ag ng cg gp, Ee1326 ak ck kept, Ee1326 al cl left, Ee1326 a2_9_1 c2_9_1 (kept ++ left)]) (by kernel_rfl) ?_
  exact ret_ok (post := [Ed2009 s c sl m al left.length cl ak kept.length ck ag ng cg gp, Ee1326 al cl left, Ee1326 ak ck kept, Ee1326 a2_9_1 c2_9_1 (kept ++ left)]) [0, 2, 1, 3] (by kernel_rfl) ⟨a2_9_1, c2_9_1, rfl, (by kernel_rfl)⟩

noncomputable def B35 : Code := (Tryz.f35.body).getD .skip

theorem scan_Given0 (c : Cfg) (s m : Nat) (sl : Int) (given : List Int) (al ak ag : Option Addr) (cl ck cg nl nk : Nat) (gp : Value) (hl : given.length ≤ 100) :
    Ctr Tryz.prog 35 #[vP s] [Ed2009 s c sl m al nl cl ak nk ck ag given.length cg gp, Ee1326 ag cg given] (fun v L => ∃ (a2 : Option Addr) (c2 : Nat), v = .slice a2 given.length c2 ∧ L = [Ed2009 s c sl m al nl cl ak nk ck ag given.length cg gp, Ee1326 ag cg given, Ee1326 a2 c2 given]) := by
  refine ctr_of (args := [vP s]) (fn := Tryz.f35) (body := B35) (nt := 10) Tryz.func35 (by kernel_rfl) (by kernel_rfl) ?_
  intro F
  refine go_exec (rs := [.tmp 2]) (by kernel_rfl) 4000 [.e 0, .z [0, 1, 1] 4 [8]] (o := .obl (s = s) (.stop [.o [0, 1, 1] 4, .c [1, 1, 1]] [(8, .slice ag given.length cg)] [Ed2009 s c sl m al nl cl ak nk ck ag given.length cg gp, Ee1326 ag cg given])) (by kernel_rfl) ?_
  refine ok_obl rfl ?_
  refine ok_stop ?_
  refine go_call (some 9) [1] Tryz.call75 (clone_i64 ag cg given (by first | assumption | omega | (simp only [InK] at *; omega))) (by kernel_rfl) ?_
  rintro v post ⟨a2_1, c2_2, rfl, rfl⟩
  refine go_exec (rs := [.tmp 2]) (by kernel_rfl) 4000 [] (o := .ret (.slice a2_1 given.length c2_2) [Ed2009 s c sl m al nl cl ak nk ck ag given.length cg gp, Ee1326 ag cg given, Ee1326 a2_1 c2_2 given]) (by kernel_rfl) ?_
  exact ret_ok (post := [Ed2009 s c sl m al nl cl ak nk ck ag given.length cg gp, Ee1326 ag cg given, Ee1326 a2_1 c2_2 given]) [0, 1, 2] (by kernel_rfl) ⟨a2_1, c2_2, rfl, (by kernel_rfl)⟩


theorem scan_Kept (c : Cfg) (s : Nat) (S : Sc) (hl : S.kept.length + S.left.length ≤ 100) :
    Ctr Tryz.prog 70 #[vP s] [.res (ScanR s c S)] (fun v L => ∃ (a2 : Option Addr) (c2 : Nat), v = .slice a2 ((S.kept ++ S.left).length) c2 ∧ L = [.res (ScanR s c S), Ee1326 a2 c2 (S.kept ++ S.left)]) := by
  refine ctr_open (I := fun _ : ScH => True) (LL := scanL s c S) (M := []) 0 (by kernel_rfl) ?_
  rintro h -
  obtain ⟨sl, named, left, kept, given, give⟩ := S
  cases give with
  | none =>
    refine ctr_post (ctr_frame [0, 2, 3] (by kernel_rfl) (scan_Kept0 c s h.m sl left kept h.al h.ak h.ag h.cl h.ck h.cg given.length (gpV h.gp none) hl)) ?_
    rintro v L ⟨post, ⟨a2, c2, rfl, rfl⟩, rfl⟩
    exact ⟨_, (view_pack (fun _ : ScH => True) (scanL s c ⟨sl, named, left, kept, given, none⟩) h (M := [Ee1326 a2 c2 (kept ++ left)]) [2, 0, 3, 4, 1] (by kernel_rfl) trivial).trans (view_pick [1, 0] (by kernel_rfl)), a2, c2, rfl, rfl⟩
  | some G =>
    refine ctr_post (ctr_frame [0, 2, 3] (by kernel_rfl) (scan_Kept0 c s h.m sl left kept h.al h.ak h.ag h.cl h.ck h.cg given.length (gpV h.gp (some G)) hl)) ?_
    rintro v L ⟨post, ⟨a2, c2, rfl, rfl⟩, rfl⟩
    exact ⟨_, (view_pack (fun _ : ScH => True) (scanL s c ⟨sl, named, left, kept, given, some G⟩) h (M := [Ee1326 a2 c2 (kept ++ left)]) [3, 0, 4, 5, 1, 2] (by kernel_rfl) trivial).trans (view_pick [1, 0] (by kernel_rfl)), a2, c2, rfl, rfl⟩


theorem scan_Given (c : Cfg) (s : Nat) (S : Sc) (hl : S.given.length ≤ 100) :
    Ctr Tryz.prog 35 #[vP s] [.res (ScanR s c S)] (fun v L => ∃ (a2 : Option Addr) (c2 : Nat), v = .slice a2 S.given.length c2 ∧ L = [.res (ScanR s c S), Ee1326 a2 c2 S.given]) := by
  refine ctr_open (I := fun _ : ScH => True) (LL := scanL s c S) (M := []) 0 (by kernel_rfl) ?_
  rintro h -
  obtain ⟨sl, named, left, kept, given, give⟩ := S
  cases give with
  | none =>
    refine ctr_post (ctr_frame [0, 4] (by kernel_rfl) (scan_Given0 c s h.m sl given h.al h.ak h.ag h.cl h.ck h.cg left.length kept.length (gpV h.gp none) hl)) ?_
    rintro v L ⟨post, ⟨a2, c2, rfl, rfl⟩, rfl⟩
    exact ⟨_, (view_pack (fun _ : ScH => True) (scanL s c ⟨sl, named, left, kept, given, none⟩) h (M := [Ee1326 a2 c2 given]) [3, 0, 1, 2, 4] (by kernel_rfl) trivial).trans (view_pick [1, 0] (by kernel_rfl)), a2, c2, rfl, rfl⟩
  | some G =>
    refine ctr_post (ctr_frame [0, 4] (by kernel_rfl) (scan_Given0 c s h.m sl given h.al h.ak h.ag h.cl h.ck h.cg left.length kept.length (gpV h.gp (some G)) hl)) ?_
    rintro v L ⟨post, ⟨a2, c2, rfl, rfl⟩, rfl⟩
    exact ⟨_, (view_pack (fun _ : ScH => True) (scanL s c ⟨sl, named, left, kept, given, some G⟩) h (M := [Ee1326 a2 c2 given]) [4, 0, 1, 2, 5, 3] (by kernel_rfl) trivial).trans (view_pick [1, 0] (by kernel_rfl)), a2, c2, rfl, rfl⟩

end Go.Proofs.YtilaihbbollcnaaGreatDoor


namespace Go.Proofs.YtilaihbbollcnaaGreatDoor
open Go.Sx
abbrev q20_0 : List Nat := [0, 0, 1, 1, 1, 1, 1]
abbrev q20_1 : List Nat := [0, 1, 0, 1, 1, 1, 1, 1, 1]
abbrev q20_2 : List Nat := [1, 1, 1, 1, 1, 1, 1]
abbrev q20_3 : List Nat := [0, 0, 1, 0, 0, 1, 0, 1, 1, 1, 1, 1, 1]
abbrev q20_4 : List Nat := [0, 1, 1, 1, 1, 1, 1, 1]
abbrev q20_5 : List Nat := [0, 1, 0, 1, 1, 1, 1, 1, 1, 1, 1]
abbrev q20_6 : List Nat := [1, 1, 1, 1, 1, 1, 1, 1, 1]
abbrev q20_7 : List Nat := [0, 0, 1, 0, 0, 1, 0, 1, 1, 1, 1, 1, 1, 1, 1]
abbrev q20_8 : List Nat := [0, 1, 1, 1, 1, 1, 1, 1, 1, 1]
abbrev q20_9 : List Nat := [1, 1, 1, 1, 1, 1, 1, 1, 1, 1]
abbrev q20_10 : List Nat := [0, 1, 1, 1, 1, 1, 1, 1, 1, 1, 1]
abbrev q20_11 : List Nat := [1, 1, 1, 1, 1, 1, 1, 1, 1, 1, 1]
abbrev q20_12 : List Nat := [0, 1, 1, 1, 1, 1, 1, 1, 1, 1, 1, 1]

theorem newSc_ok {c : Cfg} (hc : c.Ok) {xs : List Int} (hl : xs.length ≤ 100) (h : ∀ b ∈ xs, 0 ≤ clsOf c b) : ScI c (newSc xs) := by
  have hc' := hc
  simp only [Cfg.Ok] at hc'
  exact ⟨⟨by simp [newSc], by show (0 : Int) ≤ c.slots; omega⟩, fun hx => absurd rfl hx, by simpa [newSc] using hl, h, (fun k => by simp [newSc]), (fun G hG => by cases hG), (fun hs => by simp only [newSc] at hs; omega)⟩
theorem ex_rng {b : Int} (h : b ∈ [1, 2]) : 1 ≤ b ∧ b ≤ 6 := by
  simp only [List.mem_cons, List.not_mem_nil, or_false] at h; omega
noncomputable def B26 : Code := (Tryz.f26.body).getD .skip

theorem law_awake   :
    Ctr Tryz.prog 26 #[] [] (Ret (.bool true) []) := by
  refine ctr_of (args := []) (fn := Tryz.f26) (body := B26) (nt := 78) Tryz.func26 (by kernel_rfl) (by kernel_rfl) ?_
  intro F
  refine go_exec (rs := [.tmp 0]) (by kernel_rfl) 4000 [.e 0, .z [0, 1, 1] 0 [1]] (o := .new fun b_1 => .obl (b_1 = b_1) (.stop [.o [0, 1, 1] 0, .c [1, 1, 1]] [(1, vP b_1)] [E97ea4 b_1 0 3 0 2 0 0 0])) (by kernel_rfl) ?_
  refine ok_new fun b_1 => ?_
  refine ok_obl rfl ?_
  refine ok_stop ?_
  refine go_call (some 13) [] Tryz.call27 (law_config 0) (by kernel_rfl) ?_
  rintro v post ⟨rfl, rfl⟩
  refine go_exec (rs := [.tmp 0]) (by kernel_rfl) 4000 [.e 1, .e 0, .z [0, 1, 1, 1] 1 [2, 14]] (o := .new fun b_3 => .obl (b_3 = b_3) (.obl (b_1 = b_1) (.stop [.o [0, 1, 1, 1] 1, .c [1, 1, 1, 1]] [(2, vP b_3), (14, .agg #[vI 0, vI 3, vI 0, vI 2, vI 0, vI 0, vI 0])] [E97ea4 b_1 0 3 0 2 0 0 0, Ee1539 b_3 (cfgN 0)]))) (by kernel_rfl) ?_
  refine ok_new fun b_3 => ?_
  refine ok_obl rfl ?_
  refine ok_obl rfl ?_
  refine ok_stop ?_
  refine go_call (some 15) [] Tryz.call28 (law_arena (⟨0, 3, 0, 2, 0, 0, 0⟩ : Qs)) (by kernel_rfl) ?_
  rintro v post ⟨ra_4, A_5, rfl, rfl, hf_6⟩
  refine go_exec (rs := [.tmp 0]) (by kernel_rfl) 4000 [.e 1, .z [0, 1, 1, 1, 1] 1 [2, 3, 17]] (o := .obl (b_3 = b_3) (.stop [.o [0, 1, 1, 1, 1] 1, .c [1, 1, 1, 1, 1]] [(2, vP b_3), (3, vP ra_4), (17, cfgV (cfgN 0))] [E97ea4 b_1 0 3 0 2 0 0 0, Ee1539 b_3 (cfgN 0), E3ba87 ra_4 A_5 false 0, E4b293 A_5 (beginW (cfgN 0) (⟨0, 3, 0, 2, 0, 0, 0⟩ : Qs) A_5.ws)])) (by kernel_rfl) ?_
  refine ok_obl rfl ?_
  refine ok_stop ?_
  refine go_call (some 18) [] Tryz.call7 (plan_Make (cfgN 0) (cfgN_ok 0)) (by kernel_rfl) ?_
  rintro v post ⟨ba_7, aw_8, cw_9, rfl, rfl⟩
  refine go_exec (rs := [.tmp 0]) (by kernel_rfl) 4000 [.z q20_0 0 [2, 3, 4]] (o := .stop [.c q20_0, .c [1, 0, 1, 1, 1, 1, 1], .c [1, 1, 1, 1, 1, 1]] [(2, vP b_3), (3, vP ra_4), (4, vP ba_7)] [E97ea4 b_1 0 3 0 2 0 0 0, Ee1539 b_3 (cfgN 0), E3ba87 ra_4 A_5 false 0, E4b293 A_5 (beginW (cfgN 0) (⟨0, 3, 0, 2, 0, 0, 0⟩ : Qs) A_5.ws), E21626 ba_7 (mkAr (cfgN 0) aw_8 cw_9), E671ef (mkAr (cfgN 0) aw_8 cw_9)]) (by kernel_rfl) ?_
  refine ok_stop ?_
  refine go_quiet (tm' := [(2, vP b_3), (3, vP ra_4), (4, vP ba_7), (32, .bool false)]) (ps := [ra_4 = ra_4, (((A_5.n : Nat) : Int) != ((((mkAr (cfgN 0) aw_8 cw_9).n) : Nat) : Int)) = false]) (cs := [(29, #[vP ba_7], vI ((((mkAr (cfgN 0) aw_8 cw_9).n) : Nat) : Int))]) [(0, .h .w), (1, .h .w), (2, .h .w), (3, .h .w), (4, .h .w), (5, .h .w), (6, .h (.e 2)), (7, .h .w), (8, .h .w), (9, .q (vI ((((mkAr (cfgN 0) aw_8 cw_9).n) : Nat) : Int))), (10, .h (.t false)), (11, .h .w)] [2, 3, 4, 32] (by kernel_rfl) (by kernel_rfl) ⟨rfl, (bne_eq_false_iff_eq.2 (by have h1 : (_ : Int) = sizeOfC (cfgN 0) := hf_6.2.1; have h2 := (mkAr_ok (cfgN_ok 0) aw_8 cw_9).2.1; omega)), trivial⟩ ⟨⟨Tryz.call29, quiet_of [4, 5] (arena_Len ba_7 (mkAr (cfgN 0) aw_8 cw_9)) (by kernel_rfl) (by rintro v post ⟨rfl, rfl⟩; exact ⟨rfl, rfl⟩)⟩, trivial⟩ ?_
  refine go_exec (rs := [.tmp 0]) (by kernel_rfl) 4000 [.z q20_1 0 [2, 3, 4, 6]] (o := .stop [.c q20_1, .b 0, .c q20_2] [(2, vP b_3), (3, vP ra_4), (4, vP ba_7), (6, vI 0)] [E97ea4 b_1 0 3 0 2 0 0 0, Ee1539 b_3 (cfgN 0), E3ba87 ra_4 A_5 false 0, E4b293 A_5 (beginW (cfgN 0) (⟨0, 3, 0, 2, 0, 0, 0⟩ : Qs) A_5.ws), E21626 ba_7 (mkAr (cfgN 0) aw_8 cw_9), E671ef (mkAr (cfgN 0) aw_8 cw_9)]) (by kernel_rfl) ?_
  refine ok_stop ?_
  have hRW := hf_6
  have hRW1 := hRW.1
  have hRW2 := hRW.2.1
  have hA0 := mkAr_ok (cfgN_ok 0)  aw_8 cw_9
  have hWl : ((beginW (cfgN 0) (⟨0, 3, 0, 2, 0, 0, 0⟩ : Qs) A_5.ws)).length = A_5.n := by rw [beginW_len]; exact hRW.1
  have hWr : RngW (beginW (cfgN 0) (⟨0, 3, 0, 2, 0, 0, 0⟩ : Qs) A_5.ws) := beginW_rng hRW.2.2.1
  have hWs : (A_5.n : Int) = sizeOfC (cfgN 0) := hRW.2.1
  have hz := sizeOfC_ok (cfgN_ok 0)
  refine go_loop (ι := Int × Ar) (fun i1 => [(2, vP b_3), (3, vP ra_4), (4, vP ba_7), (6, vI i1.1)]) (fun i1 => [E97ea4 b_1 0 3 0 2 0 0 0, Ee1539 b_3 (cfgN 0), E3ba87 ra_4 A_5 false 0, E4b293 A_5 (beginW (cfgN 0) (⟨0, 3, 0, 2, 0, 0, 0⟩ : Qs) A_5.ws), E21626 ba_7 i1.2, E671ef i1.2]) (fun i1 => Cp (cfgN 0) (beginW (cfgN 0) (⟨0, 3, 0, 2, 0, 0, 0⟩ : Qs) A_5.ws) 40 i1.1 i1.2) (fun i1 => (A_5.n - i1.1).toNat) (0, (mkAr (cfgN 0) aw_8 cw_9)) [2, 3, 4, 6] [0, 1, 2, 3, 4, 5] (by kernel_rfl) (by kernel_rfl) (by kernel_rfl) (by kernel_rfl) ⟨(by dsimp only; omega), (by have h1 := hA0.2.1; have h2 := hA0.1; dsimp only; omega), (fun j hj => by dsimp only at hj; omega), (hA0.mono (by dsimp only; omega))⟩ ?_
  intro i1 J_10 hIJ_10 hJ_10
  have hx1 := hIJ_10
  have hk1 := hx1.lo
  have hk2 := hx1.len
  have hk3 := hx1.ok.1
  have hk4 := hx1.ok.2.2.2
  refine go_exec (rs := [.tmp 0]) (by kernel_rfl) 4000 [.e 2, .sp [39] [.e 2, .s 3, .j 3 i1.1.toNat, .z q20_3 9 [2, 3, 4, 6, 42, 43, 50]] [.e 1, .z q20_4 2 [4, 52, 53]]] (o := .obl (ra_4 = ra_4) (.br (decide (i1.1 < ((A_5.n : Nat) : Int))) (.obl (ra_4 = ra_4) (.obl (A_5.aw = A_5.aw ∧ A_5.n = (beginW (cfgN 0) (⟨0, 3, 0, 2, 0, 0, 0⟩ : Qs) A_5.ws).length) (.obl ((0 : Int) ≤ i1.1 ∧ i1.1 < (((beginW (cfgN 0) (⟨0, 3, 0, 2, 0, 0, 0⟩ : Qs) A_5.ws).length : Nat) : Int)) (.obl (slAt A_5.aw i1.1.toNat 1 = slAt A_5.aw i1.1.toNat 1) (.obl (i1.1.toNat < (beginW (cfgN 0) (⟨0, 3, 0, 2, 0, 0, 0⟩ : Qs) A_5.ws).length) (.stop [.o q20_3 9, .b 1, .c [1, 1, 0, 0, 1, 0, 1, 1, 1, 1, 1, 1], .j J_10, .b 0, .c q20_2] [(2, vP b_3), (3, vP ra_4), (4, vP ba_7), (6, vI i1.1), (42, vP ba_7), (43, vI i1.1), (50, vU ((beginW (cfgN 0) (⟨0, 3, 0, 2, 0, 0, 0⟩ : Qs) A_5.ws).getD i1.1.toNat 0))] [E97ea4 b_1 0 3 0 2 0 0 0, Ee1539 b_3 (cfgN 0), E3ba87 ra_4 A_5 false 0, E4b293 A_5 (beginW (cfgN 0) (⟨0, 3, 0, 2, 0, 0, 0⟩ : Qs) A_5.ws), E21626 ba_7 i1.2, E671ef i1.2])))))) (.obl (b_3 = b_3) (.new fun b_11 => .stop [.o q20_4 2, .c [1, 1, 1, 1, 1, 1, 1, 1]] [(4, vP ba_7), (52, cfgV (cfgN 0)), (53, .slice (some ⟨b_11, 0, none⟩) 2 2)] [E97ea4 b_1 0 3 0 2 0 0 0, Ee1539 b_3 (cfgN 0), E3ba87 ra_4 A_5 false 0, E4b293 A_5 (beginW (cfgN 0) (⟨0, 3, 0, 2, 0, 0, 0⟩ : Qs) A_5.ws), E21626 ba_7 i1.2, E671ef i1.2, .pts b_11 [vI 1, vI 2] 3])))) (by kernel_rfl) ?_
  refine ok_obl rfl ?_
  refine ok_br (fun h_12 => ?_) (fun h_12 => ?_)
  · replace h_12 := decT h_12
    refine ok_obl rfl ?_
    refine ok_obl ⟨rfl, (by first | rfl | omega | (simp; done) | (simp; omega))⟩ ?_
    refine ok_obl (by first | omega | (simp; done) | (simp; omega)) ?_
    refine ok_obl rfl ?_
    refine ok_obl (by first | omega | (simp; done) | (simp; omega)) ?_
    refine ok_stop ?_
    refine go_call (some 51) [4, 5] Tryz.call9 (arena_Store ba_7 i1.2 i1.1 ((beginW (cfgN 0) (⟨0, 3, 0, 2, 0, 0, 0⟩ : Qs) A_5.ws).getD i1.1.toNat 0) hk3 (by first | assumption | omega | (simp only [InK] at *; omega)) (by first | assumption | omega | (simp only [InK] at *; omega))) (by kernel_rfl) ?_
    rintro v post ⟨rfl, rfl⟩
    refine go_exec (rs := [.tmp 0]) (by kernel_rfl) 4000 [.n, .z [] 0 [2, 3, 4, 6]] (o := .obl (InK .i64 (i1.1 + 1)) (.stop [.j J_10, .b 0, .c q20_2] [(2, vP b_3), (3, vP ra_4), (4, vP ba_7), (6, vI (i1.1 + 1))] [E97ea4 b_1 0 3 0 2 0 0 0, Ee1539 b_3 (cfgN 0), E3ba87 ra_4 A_5 false 0, E4b293 A_5 (beginW (cfgN 0) (⟨0, 3, 0, 2, 0, 0, 0⟩ : Qs) A_5.ws), E21626 ba_7 (i1.2.store i1.1 ((beginW (cfgN 0) (⟨0, 3, 0, 2, 0, 0, 0⟩ : Qs) A_5.ws).getD i1.1.toNat 0)), E671ef (i1.2.store i1.1 ((beginW (cfgN 0) (⟨0, 3, 0, 2, 0, 0, 0⟩ : Qs) A_5.ws).getD i1.1.toNat 0))])) (by kernel_rfl) ?_
    refine ok_obl (by simp only [InK] at *; omega) ?_
    refine ok_stop ?_
    exact go_back hJ_10 ((i1.1 + 1), (i1.2.store i1.1 ((beginW (cfgN 0) (⟨0, 3, 0, 2, 0, 0, 0⟩ : Qs) A_5.ws).getD i1.1.toNat 0))) [0, 1, 2, 3, 4, 5] (by kernel_rfl) (by kernel_rfl) (by kernel_rfl) (hx1.next hWr (by omega)) (by dsimp only; omega)
  · replace h_12 := decF h_12
    refine ok_obl rfl ?_
    refine ok_new fun b_11 => ?_
    refine ok_stop ?_
    refine go_view (L' := [E97ea4 b_1 0 3 0 2 0 0 0, Ee1539 b_3 (cfgN 0), E3ba87 ra_4 A_5 false 0, E4b293 A_5 (beginW (cfgN 0) (⟨0, 3, 0, 2, 0, 0, 0⟩ : Qs) A_5.ws), E21626 ba_7 i1.2, E671ef i1.2, Ee1326 (some ⟨b_11, 0, none⟩) 2 ([1, 2] : List Int)]) (view_row 6 (b := b_11) (encI .i64) 0 1 ([1, 2] : List Int) 3 (sizedI _) (by simp [maxLen]) (by kernel_rfl)) ?_
    refine go_call (some 54) [6] Tryz.call32 (retire_New_ok (cfgN 0) (some ⟨b_11, 0, none⟩) 2 ([1, 2] : List Int) (cfgN_ok 0) (by decide) (in_of (fun b hb => ex_rng hb)) (newOk_iff.2 (good_of (by decide) (fun b hb => ex_rng hb)))) (by kernel_rfl) ?_
    rintro v post ⟨s_13, rfl, rfl⟩
    refine go_exec (rs := [.tmp 0]) (by kernel_rfl) 4000 [.z q20_5 0 [4, 7, 8]] (o := .stop [.c q20_5, .b 2, .c q20_6] [(4, vP ba_7), (7, vP s_13), (8, vI 0)] [E97ea4 b_1 0 3 0 2 0 0 0, Ee1539 b_3 (cfgN 0), E3ba87 ra_4 A_5 false 0, E4b293 A_5 (beginW (cfgN 0) (⟨0, 3, 0, 2, 0, 0, 0⟩ : Qs) A_5.ws), E21626 ba_7 i1.2, E671ef i1.2, Ee1326 (some ⟨b_11, 0, none⟩) 2 ([1, 2] : List Int), .res (ScanR s_13 (cfgN 0) (newSc ([1, 2] : List Int)))]) (by kernel_rfl) ?_
    refine ok_stop ?_
    have hAW := hx1.done (by omega)
    have hI0 : ScI (cfgN 0) (newSc [1, 2]) := newSc_ok (cfgN_ok 0) (by decide) (fun b hb => by rw [cfgN_cls (ex_rng hb)]; split <;> omega)
    refine go_loop (ι := Int × Sc × Ar) (fun i2 => [(4, vP ba_7), (7, vP s_13), (8, vI i2.1)]) (fun i2 => [.res (ScanR s_13 (cfgN 0) i2.2.1), E21626 ba_7 i2.2.2, E671ef i2.2.2]) (fun i2 => (0 ≤ i2.1 ∧ i2.1 ≤ 9) ∧ (i2.2.1, i2.2.2) = runSc (cfgN 0) i2.1.toNat (newSc [1, 2]) i1.2 ∧ ScI (cfgN 0) i2.2.1 ∧ ArW (cfgN 0) i2.2.2 (6000 + i2.1)) (fun i2 => (9 - i2.1).toNat) (0, newSc [1, 2], i1.2) [4, 7, 8] [7, 4, 5] (by kernel_rfl) (by kernel_rfl) (by kernel_rfl) (by kernel_rfl) ⟨(by dsimp only; omega), rfl, hI0, (hx1.ok.mono (by dsimp only; omega))⟩ ?_
    intro i2 J_14 hIJ_14 hJ_14
    have hx2 := hIJ_14
    have hk5 := hx2.1
    refine go_exec (rs := [.tmp 0]) (by kernel_rfl) 4000 [.sp [56] [.z q20_7 2 [4, 7, 8, 59, 60]] [.z q20_8 0 [7]]] (o := .br (decide (i2.1 < 9)) (.stop [.o q20_7 2, .b 3, .c [1, 1, 0, 0, 1, 0, 1, 1, 1, 1, 1, 1, 1, 1], .j J_14, .b 2, .c q20_6] [(4, vP ba_7), (7, vP s_13), (8, vI i2.1), (59, vP s_13), (60, vP ba_7)] [.res (ScanR s_13 (cfgN 0) i2.2.1), E21626 ba_7 i2.2.2, E671ef i2.2.2]) (.stop [.o q20_8 0, .c q20_9] [(7, vP s_13)] [.res (ScanR s_13 (cfgN 0) i2.2.1), E21626 ba_7 i2.2.2, E671ef i2.2.2])) (by kernel_rfl) ?_
    refine ok_br (fun h_15 => ?_) (fun h_15 => ?_)
    · replace h_15 := decT h_15
      refine ok_stop ?_
      refine go_call (some 61) [0, 1, 2] Tryz.call33 (scan_Step (cfgN 0) s_13 ba_7 i2.2.1 i2.2.2 (cfgN_ok 0) (hx2.2.2.1.ok (cfgN_ok 0) hx2.2.2.2.2.1) (hx2.2.2.2.ok (by omega))) (by kernel_rfl) ?_
      rintro v post ⟨rfl, rfl⟩
      refine go_exec (rs := [.tmp 0]) (by kernel_rfl) 4000 [.n, .z [] 0 [4, 7, 8]] (o := .obl (InK .i64 (i2.1 + 1)) (.stop [.j J_14, .b 2, .c q20_6] [(4, vP ba_7), (7, vP s_13), (8, vI (i2.1 + 1))] [.res (ScanR s_13 (cfgN 0) ((i2.2.1.step (cfgN 0) i2.2.2).1)), E21626 ba_7 ((i2.2.1.step (cfgN 0) i2.2.2).2), E671ef ((i2.2.1.step (cfgN 0) i2.2.2).2)])) (by kernel_rfl) ?_
      refine ok_obl (by simp only [InK] at *; omega) ?_
      refine ok_stop ?_
      exact go_back hJ_14 ((i2.1 + 1), (i2.2.1.step (cfgN 0) i2.2.2).1, (i2.2.1.step (cfgN 0) i2.2.2).2) [0, 1, 2] (by kernel_rfl) (by kernel_rfl) (by kernel_rfl) ⟨(by dsimp only; omega), (by dsimp only; rw [show (i2.1 + 1).toNat = i2.1.toNat + 1 by omega, runSc_succ, ← hx2.2.1]), (sc_step (cfgN_ok 0) hx2.2.2.1 hx2.2.2.2).1, ((sc_step (cfgN_ok 0) hx2.2.2.1 hx2.2.2.2).2.mono (by dsimp only; omega))⟩ (by dsimp only; omega)
    · replace h_15 := decF h_15
      refine ok_stop ?_
      obtain ⟨m, hm⟩ := ex_end (A := i1.2) hAW (by omega)
      have h9 : i2.1 = 9 := by omega
      have hS : i2.2.1 = ⟨(cfgN 0).slots, m, [], [2], [1], none⟩ := by have h := hx2.2.1; rw [h9] at h; rw [← hm]; exact congrArg Prod.fst h
      refine go_cast (tm' := [(7, vP s_13)]) (L' := [.res (ScanR s_13 (cfgN 0) (⟨(cfgN 0).slots, m, [], [2], [1], none⟩ : Sc)), E21626 ba_7 i2.2.2, E671ef i2.2.2]) (by rw [hS]) ?_
      refine go_exec (rs := [.tmp 0]) (by kernel_rfl) 4000 [.z q20_8 1 [7, 62]] (o := .stop [.o q20_8 1, .c q20_9] [(7, vP s_13), (62, vP s_13)] [.res (ScanR s_13 (cfgN 0) (⟨(cfgN 0).slots, m, [], [2], [1], none⟩ : Sc)), E21626 ba_7 i2.2.2, E671ef i2.2.2]) (by kernel_rfl) ?_
      refine ok_stop ?_
      refine go_call (some 63) [0] Tryz.call35 (scan_Given (cfgN 0) s_13 (⟨(cfgN 0).slots, m, [], [2], [1], none⟩ : Sc) (by simp)) (by kernel_rfl) ?_
      rintro v post ⟨a2_16, c2_17, rfl, rfl⟩
      refine go_exec (rs := [.tmp 0]) (by kernel_rfl) 4000 [.z q20_8 3 [7, 63, 64]] (o := .new fun b_19 => .stop [.o q20_8 3, .c q20_9] [(7, vP s_13), (63, .slice a2_16 ((⟨(cfgN 0).slots, m, [], [2], [1], none⟩ : Sc).given.length) c2_17), (64, .slice (some ⟨b_19, 0, none⟩) 1 1)] [E21626 ba_7 i2.2.2, E671ef i2.2.2, .res (ScanR s_13 (cfgN 0) (⟨(cfgN 0).slots, m, [], [2], [1], none⟩ : Sc)), Ee1326 a2_16 c2_17 ((⟨(cfgN 0).slots, m, [], [2], [1], none⟩ : Sc).given), .pts b_19 [vI 1] 3]) (by kernel_rfl) ?_
      refine ok_new fun b_19 => ?_
      refine ok_stop ?_
      refine go_view (L' := [E21626 ba_7 i2.2.2, E671ef i2.2.2, .res (ScanR s_13 (cfgN 0) (⟨(cfgN 0).slots, m, [], [2], [1], none⟩ : Sc)), Ee1326 a2_16 c2_17 ((⟨(cfgN 0).slots, m, [], [2], [1], none⟩ : Sc).given), Ee1326 (some ⟨b_19, 0, none⟩) 1 ([1] : List Int)]) (view_row 4 (b := b_19) (encI .i64) 0 1 ([1] : List Int) 3 (sizedI _) (by simp [maxLen]) (by kernel_rfl)) ?_
      refine go_call (some 65) [3, 4] Tryz.call69 (same_i64 a2_16 (some ⟨b_19, 0, none⟩) c2_17 1 ((⟨(cfgN 0).slots, m, [], [2], [1], none⟩ : Sc).given) ([1] : List Int) (by simp)) (by kernel_rfl) ?_
      rintro v post ⟨rfl, rfl⟩
      refine go_exec (rs := [.tmp 0]) (by kernel_rfl) 4000 [.z q20_10 1 [7, 9, 66]] (o := .stop [.o q20_10 1, .c q20_11] [(7, vP s_13), (9, .bool (((⟨(cfgN 0).slots, m, [], [2], [1], none⟩ : Sc).given) == ([1] : List Int))), (66, vP s_13)] [E21626 ba_7 i2.2.2, E671ef i2.2.2, .res (ScanR s_13 (cfgN 0) (⟨(cfgN 0).slots, m, [], [2], [1], none⟩ : Sc)), Ee1326 a2_16 c2_17 ((⟨(cfgN 0).slots, m, [], [2], [1], none⟩ : Sc).given), Ee1326 (some ⟨b_19, 0, none⟩) 1 ([1] : List Int)]) (by kernel_rfl) ?_
      refine ok_stop ?_
      refine go_call (some 67) [2] Tryz.call70 (scan_Kept (cfgN 0) s_13 (⟨(cfgN 0).slots, m, [], [2], [1], none⟩ : Sc) (by simp)) (by kernel_rfl) ?_
      rintro v post ⟨a2_20, c2_21, rfl, rfl⟩
      refine go_exec (rs := [.tmp 0]) (by kernel_rfl) 4000 [.z q20_10 3 [7, 9, 67, 68]] (o := .new fun b_23 => .stop [.o q20_10 3, .c q20_11] [(7, vP s_13), (9, .bool (((⟨(cfgN 0).slots, m, [], [2], [1], none⟩ : Sc).given) == ([1] : List Int))), (67, .slice a2_20 (((⟨(cfgN 0).slots, m, [], [2], [1], none⟩ : Sc).kept ++ (⟨(cfgN 0).slots, m, [], [2], [1], none⟩ : Sc).left).length) c2_21), (68, .slice (some ⟨b_23, 0, none⟩) 1 1)] [E21626 ba_7 i2.2.2, E671ef i2.2.2, Ee1326 a2_16 c2_17 ((⟨(cfgN 0).slots, m, [], [2], [1], none⟩ : Sc).given), Ee1326 (some ⟨b_19, 0, none⟩) 1 ([1] : List Int), .res (ScanR s_13 (cfgN 0) (⟨(cfgN 0).slots, m, [], [2], [1], none⟩ : Sc)), Ee1326 a2_20 c2_21 ((⟨(cfgN 0).slots, m, [], [2], [1], none⟩ : Sc).kept ++ (⟨(cfgN 0).slots, m, [], [2], [1], none⟩ : Sc).left), .pts b_23 [vI 2] 3]) (by kernel_rfl) ?_
      refine ok_new fun b_23 => ?_
      refine ok_stop ?_
      refine go_view (L' := [E21626 ba_7 i2.2.2, E671ef i2.2.2, Ee1326 a2_16 c2_17 ((⟨(cfgN 0).slots, m, [], [2], [1], none⟩ : Sc).given), Ee1326 (some ⟨b_19, 0, none⟩) 1 ([1] : List Int), .res (ScanR s_13 (cfgN 0) (⟨(cfgN 0).slots, m, [], [2], [1], none⟩ : Sc)), Ee1326 a2_20 c2_21 ((⟨(cfgN 0).slots, m, [], [2], [1], none⟩ : Sc).kept ++ (⟨(cfgN 0).slots, m, [], [2], [1], none⟩ : Sc).left), Ee1326 (some ⟨b_23, 0, none⟩) 1 ([2] : List Int)]) (view_row 6 (b := b_23) (encI .i64) 0 1 ([2] : List Int) 3 (sizedI _) (by simp [maxLen]) (by kernel_rfl)) ?_
      refine go_call (some 69) [5, 6] Tryz.call69 (same_i64 a2_20 (some ⟨b_23, 0, none⟩) c2_21 1 ((⟨(cfgN 0).slots, m, [], [2], [1], none⟩ : Sc).kept ++ (⟨(cfgN 0).slots, m, [], [2], [1], none⟩ : Sc).left) ([2] : List Int) (by simp)) (by kernel_rfl) ?_
      rintro v post ⟨rfl, rfl⟩
      refine go_exec (rs := [.tmp 0]) (by kernel_rfl) 4000 [.z q20_12 1 [9, 10, 70]] (o := .stop [.o q20_12 1, .c [1, 1, 1, 1, 1, 1, 1, 1, 1, 1, 1, 1]] [(9, .bool (((⟨(cfgN 0).slots, m, [], [2], [1], none⟩ : Sc).given) == ([1] : List Int))), (10, .bool (((⟨(cfgN 0).slots, m, [], [2], [1], none⟩ : Sc).kept ++ (⟨(cfgN 0).slots, m, [], [2], [1], none⟩ : Sc).left) == ([2] : List Int))), (70, vP s_13)] [E21626 ba_7 i2.2.2, E671ef i2.2.2, Ee1326 a2_16 c2_17 ((⟨(cfgN 0).slots, m, [], [2], [1], none⟩ : Sc).given), Ee1326 (some ⟨b_19, 0, none⟩) 1 ([1] : List Int), .res (ScanR s_13 (cfgN 0) (⟨(cfgN 0).slots, m, [], [2], [1], none⟩ : Sc)), Ee1326 a2_20 c2_21 ((⟨(cfgN 0).slots, m, [], [2], [1], none⟩ : Sc).kept ++ (⟨(cfgN 0).slots, m, [], [2], [1], none⟩ : Sc).left), Ee1326 (some ⟨b_23, 0, none⟩) 1 ([2] : List Int)]) (by kernel_rfl) ?_
      refine ok_stop ?_
      refine go_call (some 71) [4] Tryz.call71 (scan_Done (cfgN 0) s_13 (⟨(cfgN 0).slots, m, [], [2], [1], none⟩ : Sc) (fun h => absurd rfl h)) (by kernel_rfl) ?_
      rintro v post ⟨rfl, rfl⟩
      refine go_exec (rs := [.tmp 0]) (by kernel_rfl) 4000 [.sp [72, 71] [.sp [75, 9, 73, 74] [] [.dead]] [.dead]] (o := .obl ((Sc.done (cfgN 0) (⟨(cfgN 0).slots, m, [], [2], [1], none⟩ : Sc)) = (Sc.done (cfgN 0) (⟨(cfgN 0).slots, m, [], [2], [1], none⟩ : Sc))) (.br (Sc.done (cfgN 0) (⟨(cfgN 0).slots, m, [], [2], [1], none⟩ : Sc)) (.obl ((((⟨(cfgN 0).slots, m, [], [2], [1], none⟩ : Sc).given) == ([1] : List Int)) = (((⟨(cfgN 0).slots, m, [], [2], [1], none⟩ : Sc).given) == ([1] : List Int))) (.obl ((((⟨(cfgN 0).slots, m, [], [2], [1], none⟩ : Sc).given) == ([1] : List Int)) = (((⟨(cfgN 0).slots, m, [], [2], [1], none⟩ : Sc).given) == ([1] : List Int))) (.obl ((((⟨(cfgN 0).slots, m, [], [2], [1], none⟩ : Sc).given) == ([1] : List Int)) = (((⟨(cfgN 0).slots, m, [], [2], [1], none⟩ : Sc).given) == ([1] : List Int))) (.br (((⟨(cfgN 0).slots, m, [], [2], [1], none⟩ : Sc).given) == ([1] : List Int)) (.ret (.bool (((⟨(cfgN 0).slots, m, [], [2], [1], none⟩ : Sc).kept ++ (⟨(cfgN 0).slots, m, [], [2], [1], none⟩ : Sc).left) == ([2] : List Int))) [E21626 ba_7 i2.2.2, E671ef i2.2.2, Ee1326 a2_16 c2_17 ((⟨(cfgN 0).slots, m, [], [2], [1], none⟩ : Sc).given), Ee1326 (some ⟨b_19, 0, none⟩) 1 ([1] : List Int), Ee1326 a2_20 c2_21 ((⟨(cfgN 0).slots, m, [], [2], [1], none⟩ : Sc).kept ++ (⟨(cfgN 0).slots, m, [], [2], [1], none⟩ : Sc).left), Ee1326 (some ⟨b_23, 0, none⟩) 1 ([2] : List Int), .res (ScanR s_13 (cfgN 0) (⟨(cfgN 0).slots, m, [], [2], [1], none⟩ : Sc))]) (.bad))))) (.bad))) (by kernel_rfl) ?_
      refine ok_obl rfl ?_
      refine ok_br (fun _ => ?_) (fun h => absurd (show (Sc.done (cfgN 0) (⟨(cfgN 0).slots, m, [], [2], [1], none⟩ : Sc)) = true from (by first | rfl | decide | (simp [Sc.done]; done))) (by rw [h]; simp))
      refine ok_obl rfl ?_
      refine ok_obl rfl ?_
      refine ok_obl rfl ?_
      refine ok_br (fun _ => ?_) (fun h => absurd (show (((⟨(cfgN 0).slots, m, [], [2], [1], none⟩ : Sc).given) == ([1] : List Int)) = true from (by first | rfl | decide | (simp [Sc.done]; done))) (by rw [h]; simp))
      exact ret_ok (post := []) [] (by kernel_rfl) ⟨(congrArg Value.bool (by first | rfl | (simp; done) | (simp; omega))), (by kernel_rfl)⟩

end Go.Proofs.YtilaihbbollcnaaGreatDoor


namespace Go.Proofs.YtilaihbbollcnaaGreatDoor
open Go.RowKit Go.Extern.Stop Go.Stop Go.Extern
theorem as_nil (t : Value) (w : World) :
    Calls Tryz.prog 67 #[.nilIface, t] w fun e w' => e = .returned (.bool false) ∧ w' = w := by
  go_enter Tryz.func67, Tryz.ntmps67
  go_wp2
  go_ret
  exact ⟨rfl, rfl⟩
theorem Tryz.valueOfP (t : Addr) (w : World) : (ReflectliteValue.unpack (.iface 118 (.pointer (some t)))).run Tryz.prog w
    = .ok (.agg #[.pointer (some ⟨1, 118, none⟩), .pointer (some ⟨w.heap.size, 0, none⟩), .int .u64 150]) (w.alloc (.cells #[.pointer (some t)] 118)) := by kernel_rfl
theorem Tryz.typeP (a : Addr) (w : World) : (ReflectliteValue.methodAny (ReflectliteValue.valueError "reflectlite.Value.Type" 0) (fun t _ _ _ => ReflectliteType.toType t) #[.agg #[.pointer (some ⟨1, 118, none⟩), .pointer (some a), .int .u64 150]]).run Tryz.prog w
    = .ok (.iface 167 (.agg #[.pointer (some ⟨1, 118, none⟩)])) w := by kernel_rfl
theorem Tryz.methodKind (h : Value) (w : World) : (Go.method 319 167 (.agg #[h]) "Kind").run Tryz.prog w = .ok (142, h) w := by kernel_rfl
theorem Tryz.kindP (w : World) : ((ReflectliteType.abiMethod fun t => Functor.map (fun a : Nat => Value.int IntKind.u8 (a : Int)) (Rtype.kind t)) #[.pointer (some ⟨1, 118, none⟩)]).run Tryz.prog w = .ok (.int .u8 22) w := by kernel_rfl
theorem Tryz.kindE (w : World) : ((ReflectliteType.abiMethod fun t => Functor.map (fun a : Nat => Value.int IntKind.u8 (a : Int)) (Rtype.kind t)) #[.pointer (some ⟨1, 61, none⟩)]).run Tryz.prog w = .ok (.int .u8 2) w := by kernel_rfl
theorem rlm (z : Sem Value) (f : TypeId → Addr → Nat → Nat → Sem Value) (v : Value) :
    ReflectliteValue.method z f #[v] = (do match ← ReflectliteValue.parts v with | none => z | some (t, a, fl) => f t a fl (fl % 32)) := rfl
theorem Tryz.partsP (a : Addr) (w : World) : (ReflectliteValue.parts (.agg #[.pointer (some ⟨1, 118, none⟩), .pointer (some a), .int .u64 150])).run Tryz.prog w = .ok (some (118, a, 150)) w := by kernel_rfl
theorem Tryz.isNilP (a p : Addr) (W : World) (ha : W.cell? a = some (.pointer (some p))) :
    (ReflectliteValue.method (ReflectliteValue.valueError "reflectlite.Value.IsNil" 0) ReflectliteValue.isNil #[.agg #[.pointer (some ⟨1, 118, none⟩), .pointer (some a), .int .u64 150]]).run Tryz.prog W = .ok (.bool false) W := by
  rw [rlm]
  simp only [Sem.run_bind, Tryz.partsP, Result.andThen]
  simp [ReflectliteValue.isNil, loadVar, isAgg, underlying, Tryz.underlying118, ha, Result.andThen]
theorem Tryz.methodElem (h : Value) (w : World) : (Go.method 319 167 (.agg #[h]) "Elem").run Tryz.prog w = .ok (155, .agg #[h]) w := by kernel_rfl
theorem Tryz.methodImplements (h : Value) (w : World) : (Go.method 319 167 (.agg #[h]) "Implements").run Tryz.prog w = .ok (156, .agg #[h]) w := by kernel_rfl
theorem Tryz.methodAssignableTo (h : Value) (w : World) : (Go.method 319 167 (.agg #[h]) "AssignableTo").run Tryz.prog w = .ok (153, .agg #[h]) w := by kernel_rfl
theorem Tryz.elemP (w : World) : (ReflectliteType.method ReflectliteType.elem #[.agg #[.pointer (some ⟨1, 118, none⟩)]]).run Tryz.prog w = .ok (.iface 167 (.agg #[.pointer (some ⟨1, 61, none⟩)])) w := by kernel_rfl
theorem Tryz.implementsE (w : World) : (ReflectliteType.relation "Implements" ReflectliteType.implements_ #[.agg #[.pointer (some ⟨1, 61, none⟩)], .iface 167 (.agg #[.pointer (some ⟨1, 35, none⟩)])]).run Tryz.prog w = .ok (.bool true) w := by kernel_rfl
theorem Tryz.typeOfE (v : Value) (w : World) : (ReflectliteType.typeOf #[.iface 61 v]).run Tryz.prog w = .ok (.iface 167 (.agg #[.pointer (some ⟨1, 61, none⟩)])) w := by kernel_rfl
theorem Tryz.assignableE (w : World) : (ReflectliteType.relation "AssignableTo" ReflectliteType.assignableTo #[.agg #[.pointer (some ⟨1, 61, none⟩)], .iface 167 (.agg #[.pointer (some ⟨1, 61, none⟩)])]).run Tryz.prog w = .ok (.bool true) w := by kernel_rfl
theorem Tryz.valueOfE (e : Int) (w : World) : (ReflectliteValue.unpack (.iface 61 (.int .i64 e))).run Tryz.prog w
    = .ok (.agg #[.pointer (some ⟨1, 61, none⟩), .pointer (some ⟨w.heap.size, 0, none⟩), .int .u64 130]) (w.alloc (.cells #[.int .i64 e] 61)) := by kernel_rfl
theorem Tryz.elemOfP (w : World) : (Rtype.elem? 118).run Tryz.prog w = .ok (some 61) w := by kernel_rfl
theorem Tryz.mkE (p : Addr) (w : World) : (ReflectliteValue.mk 61 p ReflectliteValue.flagAddr).run Tryz.prog w = .ok (.agg #[.pointer (some ⟨1, 61, none⟩), .pointer (some p), .int .u64 386]) w := by kernel_rfl
theorem Tryz.elemVP (a p : Addr) (W : World) (ha : W.cell? a = some (.pointer (some p))) :
    (ReflectliteValue.method (ReflectliteValue.valueError "reflectlite.Value.Elem" 0) ReflectliteValue.elem #[.agg #[.pointer (some ⟨1, 118, none⟩), .pointer (some a), .int .u64 150]]).run Tryz.prog W
      = .ok (.agg #[.pointer (some ⟨1, 61, none⟩), .pointer (some p), .int .u64 386]) W := by
  rw [rlm]
  simp only [Sem.run_bind, Tryz.partsP, Result.andThen]
  simp [ReflectliteValue.elem, loadVar, isAgg, underlying, Tryz.underlying118, ha, Result.andThen, Tryz.elemOfP, Tryz.mkE]
theorem rls : ∃ s1 s2 s3 : String, ∀ v x : Value, ReflectliteValue.set #[v, x] = (do
    let (some (dst, a, fl), some (src, b, _)) := (← ReflectliteValue.parts v, ← ReflectliteValue.parts x)
      | unsupported (.noEntry s1)
    if fl / ReflectliteValue.flagAddr % 2 == 0 then unsupported (.noEntry s2)
    let val ← loadVar src b
    if ← Rtype.directlyAssignable dst src then storeVar dst a val
    else if ← Rtype.implements dst src then
      if (← Rtype.kind src) == 20 then
        match val with
        | .nilIface => unsupported (.noEntry s3)
        | _ => storeVar dst a val
      else storeVar dst a (.iface src val)
    else panicString ("reflectlite.Set: value of type " ++ (← Rtype.spelt src) ++ " is not assignable to type " ++ (← Rtype.spelt dst))
    pure (.tuple #[])) := ⟨_, _, _, fun _ _ => rfl⟩
theorem Tryz.partsEa (a : Addr) (w : World) : (ReflectliteValue.parts (.agg #[.pointer (some ⟨1, 61, none⟩), .pointer (some a), .int .u64 386])).run Tryz.prog w = .ok (some (61, a, 386)) w := by kernel_rfl
theorem Tryz.partsE (a : Addr) (w : World) : (ReflectliteValue.parts (.agg #[.pointer (some ⟨1, 61, none⟩), .pointer (some a), .int .u64 130])).run Tryz.prog w = .ok (some (61, a, 130)) w := by kernel_rfl
theorem Tryz.directE (w : World) : (Rtype.directlyAssignable 61 61).run Tryz.prog w = .ok true w := by kernel_rfl
theorem Tryz.setE (ta b : Addr) (e : Int) (old : Value) (W : World) (hb : W.cell? b = some (.int .i64 e)) (ht : W.cell? ta = some old) (hf : W.frozen? ta = false) :
    (ReflectliteValue.set #[.agg #[.pointer (some ⟨1, 61, none⟩), .pointer (some ta), .int .u64 386], .agg #[.pointer (some ⟨1, 61, none⟩), .pointer (some b), .int .u64 130]]).run Tryz.prog W
      = .ok (.tuple #[]) (W.setCell ta (.int .i64 e)) := by
  obtain ⟨s1, s2, s3, hrls⟩ := rls
  rw [hrls]
  simp only [Sem.run_bind, Tryz.partsEa, Tryz.partsE, Result.andThen]
  simp [ReflectliteValue.flagAddr, loadVar, isAgg, underlying, Tryz.underlying61, hb, Result.andThen, Tryz.directE, storeVar, Value.cells, storeCells, Addr.add]
  rw [run_store Tryz.prog W ta _ _ (by rfl)]
  simp [ht, hf]
set_option maxHeartbeats 4000000 in
theorem as_hit (e : Int) (t : Addr) (old : Value) (w : World) (hg : w.cell? ⟨0, 0, none⟩ = some (.iface 167 (.agg #[.pointer (some ⟨1, 35, none⟩)]))) (ht0 : w.cell? t = some old) (hf0 : w.frozen? t = false) :
    Calls Tryz.prog 67 #[.iface 61 (.int .i64 e), .iface 118 (.pointer (some t))] w fun ev w' => ev = .returned (.bool true) ∧ w' = ((((w.alloc (.cells #[.pointer (some t)] 118)).alloc (.cells #[.pointer (some ⟨1, 118, none⟩), .pointer (some ⟨w.heap.size, 0, none⟩), .int .u64 150] 146)).alloc (.cells #[.pointer (some ⟨1, 118, none⟩), .pointer (some ⟨w.heap.size, 0, none⟩), .int .u64 150] 146)).alloc (.cells #[.int .i64 e] 61)).setCell t (.int .i64 e) := by
  have h6 := @run_callFunc_extern Tryz.prog 94 _ (fun args => ReflectliteValue.unpack (args.getD 0 (.tuple #[]))) Tryz.func94 (by kernel_rfl) (by kernel_rfl) (by kernel_rfl) (by kernel_rfl)
  have h7 := @run_callFunc_extern Tryz.prog 95 _ (ReflectliteValue.methodAny (ReflectliteValue.valueError "reflectlite.Value.Type" 0) (fun t _ _ _ => ReflectliteType.toType t)) Tryz.func95 (by kernel_rfl) (by kernel_rfl) (by kernel_rfl) (by kernel_rfl)
  have h8 := @run_callFunc_extern Tryz.prog 96 _ (ReflectliteValue.method (ReflectliteValue.valueError "reflectlite.Value.IsNil" 0) ReflectliteValue.isNil) Tryz.func96 (by kernel_rfl) (by kernel_rfl) (by kernel_rfl) (by kernel_rfl)
  have h27 := @run_callFunc_extern Tryz.prog 142 _ (ReflectliteType.abiMethod fun t => do pure (.int .u8 (← Rtype.kind t))) Tryz.func142 (by kernel_rfl) (by kernel_rfl) (by kernel_rfl) (by kernel_rfl)
  have h37 := @run_callFunc_extern Tryz.prog 155 _ (ReflectliteType.method ReflectliteType.elem) Tryz.func155 (by kernel_rfl) (by kernel_rfl) (by kernel_rfl) (by kernel_rfl)
  have h38 := @run_callFunc_extern Tryz.prog 156 _ (ReflectliteType.relation "Implements" ReflectliteType.implements_) Tryz.func156 (by kernel_rfl) (by kernel_rfl) (by kernel_rfl) (by kernel_rfl)
  have h10 := @run_callFunc_extern Tryz.prog 109 _ (ReflectliteType.typeOf) Tryz.func109 (by kernel_rfl) (by kernel_rfl) (by kernel_rfl) (by kernel_rfl)
  have h35 := @run_callFunc_extern Tryz.prog 153 _ (ReflectliteType.relation "AssignableTo" ReflectliteType.assignableTo) Tryz.func153 (by kernel_rfl) (by kernel_rfl) (by kernel_rfl) (by kernel_rfl)
  have h11 := @run_callFunc_extern Tryz.prog 110 _ (ReflectliteValue.method (ReflectliteValue.valueError "reflectlite.Value.Elem" 0) ReflectliteValue.elem) Tryz.func110 (by kernel_rfl) (by kernel_rfl) (by kernel_rfl) (by kernel_rfl)
  have h12 := @run_callFunc_extern Tryz.prog 111 _ (ReflectliteValue.set) Tryz.func111 (by kernel_rfl) (by kernel_rfl) (by kernel_rfl) (by kernel_rfl)
  have xtypeOfE := Tryz.typeOfE
  have xmethodAssignableTo := Tryz.methodAssignableTo
  have xassignableE := Tryz.assignableE
  have xvalueOfE := Tryz.valueOfE
  have xvalueOfP := Tryz.valueOfP
  have xtypeP := Tryz.typeP
  have xmethodKind := Tryz.methodKind
  have xmethodElem := Tryz.methodElem
  have xmethodImplements := Tryz.methodImplements
  have xkindP := Tryz.kindP
  have xkindE := Tryz.kindE
  have xelemP := Tryz.elemP
  have ximplementsE := Tryz.implementsE
  have n8 := Tryz.isNilP ⟨w.heap.size, 0, none⟩ t ((w.alloc (.cells #[.pointer (some t)] 118)).alloc (.cells #[.pointer (some ⟨1, 118, none⟩), .pointer (some ⟨w.heap.size, 0, none⟩), .int .u64 150] 146)) (by simp)
  have hlt : 0 < w.heap.size := by
    rcases Nat.eq_zero_or_pos w.heap.size with h0 | h
    · simp [World.cell?, h0] at hg
    · exact h
  have hg2 : ((w.alloc (.cells #[.pointer (some t)] 118)).alloc (.cells #[.pointer (some ⟨1, 118, none⟩), .pointer (some ⟨w.heap.size, 0, none⟩), .int .u64 150] 146)).cell? ⟨0, 0, none⟩ = some (.iface 167 (.agg #[.pointer (some ⟨1, 35, none⟩)])) := by
    rw [World.cell?_alloc_lt _ _ ⟨0, 0, none⟩ (by simp), World.cell?_alloc_lt _ _ ⟨0, 0, none⟩ hlt]; exact hg
  have htl : t.block < w.heap.size := by
    rcases Nat.lt_or_ge t.block w.heap.size with h | h
    · exact h
    · simp [World.cell?, Array.getElem?_eq_none h] at ht0
  have el := Tryz.elemVP ⟨w.heap.size, 0, none⟩ t (((w.alloc (.cells #[.pointer (some t)] 118)).alloc (.cells #[.pointer (some ⟨1, 118, none⟩), .pointer (some ⟨w.heap.size, 0, none⟩), .int .u64 150] 146)).alloc (.cells #[.pointer (some ⟨1, 118, none⟩), .pointer (some ⟨w.heap.size, 0, none⟩), .int .u64 150] 146)) (by rw [World.cell?_alloc_lt _ _ ⟨w.heap.size, 0, none⟩ (by simp; omega)]; simp)
  have st := Tryz.setE t ⟨w.heap.size + 1 + 1 + 1, 0, none⟩ e old ((((w.alloc (.cells #[.pointer (some t)] 118)).alloc (.cells #[.pointer (some ⟨1, 118, none⟩), .pointer (some ⟨w.heap.size, 0, none⟩), .int .u64 150] 146)).alloc (.cells #[.pointer (some ⟨1, 118, none⟩), .pointer (some ⟨w.heap.size, 0, none⟩), .int .u64 150] 146)).alloc (.cells #[.int .i64 e] 61))
    (by rw [World.cell?_alloc_at _ _ _ _ (by simp)]; rfl)
    (by rw [World.cell?_alloc_lt _ _ t (by simp; omega), World.cell?_alloc_lt _ _ t (by simp; omega), World.cell?_alloc_lt _ _ t (by simp; omega), World.cell?_alloc_lt _ _ t htl]; exact ht0)
    (by rw [World.frozen?_alloc_old _ _ t (by simp; omega), World.frozen?_alloc_old _ _ t (by simp; omega), World.frozen?_alloc_old _ _ t (by simp; omega), World.frozen?_alloc_old _ _ t (Nat.ne_of_lt htl)]; exact hf0)
  go_enter Tryz.func67, Tryz.ntmps67
  go_wp2
  refine wp_loop_rounds 1 ?_
  rw [rounds_succ]
  go_wp2
  go_ret
  exact ⟨rfl, rfl⟩
end Go.Proofs.YtilaihbbollcnaaGreatDoor
namespace Go.Proofs.YtilaihbbollcnaaGreatDoor
open Go.Sx
/-- the cell of the variable errors.errorType -/
def handleV : Value := .iface 167 (.agg #[.pointer (some ⟨1, 35, none⟩)])
theorem as_nilC (t : Value) : Ctr Tryz.prog 67 #[.nilIface, t] [] (Ret (.bool false) []) := by
  intro F w hi
  refine (as_nil t w).mono ?_
  rintro e w' ⟨rfl, rfl⟩
  exact ⟨_, _, rfl, ⟨rfl, rfl⟩, hi⟩
theorem as_hitC (gt : Nat) (gf : Nat × Nat) (b : Nat) (old k : Int) : Ctr Tryz.prog 67 #[.iface 61 (.int .i64 k), .iface 118 (.pointer (some ⟨b, 0, none⟩))] [.raw 0 (.cells #[handleV] gt gf), .pts b [.int .i64 old] 61]
    (Ret (.bool true) [.raw 0 (.cells #[handleV] gt gf), .pts b [.int .i64 k] 61]) := by
  intro F w hi
  have h0 := (hi.one (i := 0) rfl (b := 0) (o := .cells #[handleV] gt gf) (fun g hg => hg)).1
  have hb := (hi.one (i := 1) rfl (b := b) (o := .cells #[.int .i64 old] 61 (0, 0)) (fun g hg => hg)).1
  refine (as_hit k ⟨b, 0, none⟩ (.int .i64 old) w (by simp [World.cell?, h0, handleV]) (by simp [World.cell?, hb]) (by simp [World.frozen?, hb])).mono ?_
  rintro e w' ⟨rfl, rfl⟩
  refine ⟨_, _, rfl, ⟨rfl, rfl⟩, ?_⟩
  have h4 : In _ F (((((w.alloc (.cells #[.pointer (some ⟨b, 0, none⟩)] 118)).alloc (.cells #[.pointer (some ⟨1, 118, none⟩), .pointer (some ⟨w.heap.size, 0, none⟩), .int .u64 150] 146)).alloc (.cells #[.pointer (some ⟨1, 118, none⟩), .pointer (some ⟨w.heap.size, 0, none⟩), .int .u64 150] 146)).alloc (.cells #[.int .i64 k] 61))) := (((hi.alloc (.cells #[.pointer (some ⟨b, 0, none⟩)] 118)).alloc (.cells #[.pointer (some ⟨1, 118, none⟩), .pointer (some ⟨w.heap.size, 0, none⟩), .int .u64 150] 146)).alloc (.cells #[.pointer (some ⟨1, 118, none⟩), .pointer (some ⟨w.heap.size, 0, none⟩), .int .u64 150] 146)).alloc (.cells #[.int .i64 k] 61)
  obtain ⟨h5, h6⟩ := h4.one (i := 1) rfl (b := b) (o := .cells #[.int .i64 old] 61 (0, 0)) (fun g hg => hg)
  have h7 := h6 (.cells #[.int .i64 k] 61 (0, 0)) (.pts b [.int .i64 k] 61) (((((w.alloc (.cells #[.pointer (some ⟨b, 0, none⟩)] 118)).alloc (.cells #[.pointer (some ⟨1, 118, none⟩), .pointer (some ⟨w.heap.size, 0, none⟩), .int .u64 150] 146)).alloc (.cells #[.pointer (some ⟨1, 118, none⟩), .pointer (some ⟨w.heap.size, 0, none⟩), .int .u64 150] 146)).alloc (.cells #[.int .i64 k] 61)).setCell ⟨b, 0, none⟩ (.int .i64 k)) rfl
    (by simp only [World.setCell]; rw [Array.getElem?_modify, if_pos rfl]; exact congrArg _ h5)
    (fun j hj => by simp only [World.setCell]; rw [Array.getElem?_modify, if_neg (fun h => hj h.symm)]) rfl rfl rfl
  exact In.left (L := [.raw 0 (.cells #[handleV] gt gf), .pts b [.int .i64 k] 61]) (M := [_, _, _, _]) h7
end Go.Proofs.YtilaihbbollcnaaGreatDoor


namespace Go.Proofs.YtilaihbbollcnaaGreatDoor
open Go.Sx
abbrev Efb1cc (x0 : Nat) (x1 : Int) (x2 : Int) (x3 : Int) (x4 : Bool) (x5 : Bool) : Ent := .pts x0 [.int .i64 x1, .int .i64 x2, .int .i64 x3, .bool x4, .bool x5] 74
abbrev E14f95 (x0 : Nat) (x1 : Int) (x2 : Int) (x3 : Int) (x4 : Int) (x5 : Int) : Ent := .pts x0 [.int .i64 x1, .int .i64 x2, .int .i64 x3, .int .i64 x4, .int .i64 x5] 183
abbrev q30_0 : List Nat := [0, 1, 0, 0, 1, 1, 0, 0, 1, 0, 1, 1, 1, 1]
abbrev q30_1 : List Nat := [1, 1, 0, 0, 1, 1, 0, 0, 1, 0, 1, 1, 1, 1]
abbrev q30_2 : List Nat := [1, 1, 1, 0, 0, 1, 0, 1, 1, 1, 1]
abbrev q30_3 : List Nat := [0, 1, 0, 1, 1, 1, 1]

def errV (k : Int) : Value := if k = 0 then .nilIface else .iface 61 (.int .i64 k)
theorem errV_ne {k : Int} (h : k ≠ 0) : errV k = .iface 61 (.int .i64 k) := if_neg h
def IsH (o : Obj) : Prop := ∃ t f, o = .cells #[handleV] t f
noncomputable def B115 : Code := (Tryz.f115.body).getD .skip

theorem ctl_parts0   :
    Ctr Tryz.prog 115 #[.agg #[vI 0, vI 0, vI 0, .bool false, .bool false]] [] (Ret (.tuple #[.agg #[vI 0, vI 0, vI 0, vI 0, vI 0], .agg #[vI 16, vI 31, vI 1, vI 1, vI 15]]) []) := by
  refine ctr_of (args := [.agg #[vI 0, vI 0, vI 0, .bool false, .bool false]]) (fn := Tryz.f115) (body := B115) (nt := 19) Tryz.func115 (by kernel_rfl) (by kernel_rfl) ?_
  intro F
  refine go_exec (rs := [.cell 2 183, .cell 3 183]) (by kernel_rfl) 4000 [.e 0, .e 0, .e 0, .e 1, .e 0, .e 0, .e 1, .e 1, .e 2, .e 1, .e 2] (o := .new fun b_1 => .new fun b_2 => .new fun b_3 => .obl (b_1 = b_1) (.obl (b_1 = b_1) (.obl (b_1 = b_1) (.obl (b_2 = b_2) (.obl (b_1 = b_1) (.obl (b_1 = b_1) (.obl (b_2 = b_2) (.obl (b_2 = b_2) (.obl (b_3 = b_3) (.obl (b_2 = b_2) (.obl (b_3 = b_3) (.ret (.tuple #[.agg #[vI 0, vI 0, vI 0, vI 0, vI 0], .agg #[vI 16, vI 31, vI 1, vI 1, vI 15]]) [Efb1cc b_1 0 0 0 false false, E14f95 b_2 0 0 0 0 0, E14f95 b_3 16 31 1 1 15])))))))))))) (by kernel_rfl) ?_
  refine ok_new fun b_1 => ?_
  refine ok_new fun b_2 => ?_
  refine ok_new fun b_3 => ?_
  refine ok_obl rfl ?_
  refine ok_obl rfl ?_
  refine ok_obl rfl ?_
  refine ok_obl rfl ?_
  refine ok_obl rfl ?_
  refine ok_obl rfl ?_
  refine ok_obl rfl ?_
  refine ok_obl rfl ?_
  refine ok_obl rfl ?_
  refine ok_obl rfl ?_
  refine ok_obl rfl ?_
  exact ret_ok (post := []) [] (by kernel_rfl) ⟨rfl, (by kernel_rfl)⟩

noncomputable def B106 : Code := (Tryz.f106.body).getD .skip

theorem ctl_Unpack (w_ : Int) (hw : U64 w_) :
    Ctr Tryz.prog 106 #[vU w_] [] (Ret (.agg #[vI (ctlEpoch w_), vI (ctlGen w_), vI (ctlBlock w_), .bool (ctlLive w_), .bool (ctlBusy w_)]) []) := by
  refine ctr_of (args := [vU w_]) (fn := Tryz.f106) (body := B106) (nt := 44) Tryz.func106 (by kernel_rfl) (by kernel_rfl) ?_
  intro F
  refine go_exec (rs := [.cell 2 74]) (by kernel_rfl) 4000 [.z [0, 1] 1 [0, 2, 9]] (o := .new fun b_1 => .stop [.o [0, 1] 1, .c [1, 1]] [(0, vU w_), (2, vP b_1), (9, .agg #[vI 0, vI 0, vI 0, .bool false, .bool false])] [Efb1cc b_1 0 0 0 false false]) (by kernel_rfl) ?_
  refine ok_new fun b_1 => ?_
  refine ok_stop ?_
  refine go_call (some 10) [] Tryz.call115 (ctl_parts0) (by kernel_rfl) ?_
  rintro v post ⟨rfl, rfl⟩
  refine go_exec (rs := [.cell 2 74]) (by kernel_rfl) 4000 [.e 1, .e 2, .u, .w, .e 2, .z q30_0 6 [0, 2, 4, 5, 6, 7, 13, 16, 17, 18, 21]] (o := .new fun b_2 => .new fun b_3 => .obl (b_2 = b_2) (.obl (b_3 = b_3) (.new fun b_4 => .obl (b_3 = b_3) (.stop [.o q30_0 6, .c q30_1, .b 1, .c q30_2, .r q30_3, .b 0, .c [1, 1, 1, 1, 1]] [(0, vU w_), (2, vP b_1), (4, vP b_3), (5, vP b_4), (6, vI 0), (7, vI 0), (13, vI 0), (16, vI 0), (17, vU w_), (18, vI 0), (21, vI 16)] [Efb1cc b_1 0 0 0 false false, E14f95 b_2 0 0 0 0 0, E14f95 b_3 16 31 1 1 15, E14f95 b_4 0 0 0 0 0])))) (by kernel_rfl) ?_
  refine ok_new fun b_2 => ?_
  refine ok_new fun b_3 => ?_
  refine ok_obl rfl ?_
  refine ok_obl rfl ?_
  refine ok_new fun b_4 => ?_
  refine ok_obl rfl ?_
  refine ok_stop ?_
  refine go_call (some 22) [] Tryz.call100 (bits_Get w_ 0 16 (by omega)) (by kernel_rfl) ?_
  rintro v post ⟨rfl, rfl⟩
  refine go_exec (rs := [.cell 2 74]) (by kernel_rfl) 4000 [.n, .w, .e 3, .w, .e 2, .w, .w, .u, .w, .e 2, .z q30_0 6 [0, 2, 4, 5, 6, 7, 13, 16, 17, 18, 21]] (o := .obl (InK .i64 (bAnd .u64 (bShr .u64 w_ 0) (bShr .u64 18446744073709551615 (64 - 16)))) (.obl (b_4 = b_4) (.obl (b_3 = b_3) (.obl (b_3 = b_3) (.stop [.o q30_0 6, .c q30_1, .b 1, .c q30_2, .r q30_3, .b 0, .c [1, 1, 1, 1, 1]] [(0, vU w_), (2, vP b_1), (4, vP b_3), (5, vP b_4), (6, vI 16), (7, vI 1), (13, vI 1), (16, vI 1), (17, vU w_), (18, vI 16), (21, vI 31)] [Efb1cc b_1 0 0 0 false false, E14f95 b_2 0 0 0 0 0, E14f95 b_3 16 31 1 1 15, E14f95 b_4 (bAnd .u64 (bShr .u64 w_ 0) (bShr .u64 18446744073709551615 (64 - 16))) 0 0 0 0]))))) (by kernel_rfl) ?_
  refine ok_obl (by have hr := ctl_rng hw; first | (rw [un_block hw]; simp only [InK]; omega) | (rw [un_gen hw]; simp only [InK]; omega) | (rw [un_busy hw]; simp only [InK]; omega) | (rw [un_live hw]; simp only [InK]; omega) | (rw [un_epoch hw]; simp only [InK]; omega) | (simp only [InK]; omega)) ?_
  refine ok_obl rfl ?_
  refine ok_obl rfl ?_
  refine ok_obl rfl ?_
  refine ok_stop ?_
  refine go_call (some 22) [] Tryz.call100 (bits_Get w_ 16 31 (by omega)) (by kernel_rfl) ?_
  rintro v post ⟨rfl, rfl⟩
  refine go_exec (rs := [.cell 2 74]) (by kernel_rfl) 4000 [.n, .w, .e 3, .w, .e 2, .w, .w, .u, .w, .e 2, .z q30_0 6 [0, 2, 4, 5, 6, 7, 13, 16, 17, 18, 21]] (o := .obl (InK .i64 (bAnd .u64 (bShr .u64 w_ 16) (bShr .u64 18446744073709551615 (64 - 31)))) (.obl (b_4 = b_4) (.obl (b_3 = b_3) (.obl (b_3 = b_3) (.stop [.o q30_0 6, .c q30_1, .b 1, .c q30_2, .r q30_3, .b 0, .c [1, 1, 1, 1, 1]] [(0, vU w_), (2, vP b_1), (4, vP b_3), (5, vP b_4), (6, vI 47), (7, vI 2), (13, vI 2), (16, vI 2), (17, vU w_), (18, vI 47), (21, vI 1)] [Efb1cc b_1 0 0 0 false false, E14f95 b_2 0 0 0 0 0, E14f95 b_3 16 31 1 1 15, E14f95 b_4 (bAnd .u64 (bShr .u64 w_ 0) (bShr .u64 18446744073709551615 (64 - 16))) (bAnd .u64 (bShr .u64 w_ 16) (bShr .u64 18446744073709551615 (64 - 31))) 0 0 0]))))) (by kernel_rfl) ?_
  refine ok_obl (by have hr := ctl_rng hw; first | (rw [un_block hw]; simp only [InK]; omega) | (rw [un_gen hw]; simp only [InK]; omega) | (rw [un_busy hw]; simp only [InK]; omega) | (rw [un_live hw]; simp only [InK]; omega) | (rw [un_epoch hw]; simp only [InK]; omega) | (simp only [InK]; omega)) ?_
  refine ok_obl rfl ?_
  refine ok_obl rfl ?_
  refine ok_obl rfl ?_
  refine ok_stop ?_
  refine go_call (some 22) [] Tryz.call100 (bits_Get w_ 47 1 (by omega)) (by kernel_rfl) ?_
  rintro v post ⟨rfl, rfl⟩
  refine go_exec (rs := [.cell 2 74]) (by kernel_rfl) 4000 [.n, .w, .e 3, .w, .e 2, .w, .w, .u, .w, .e 2, .z q30_0 6 [0, 2, 4, 5, 6, 7, 13, 16, 17, 18, 21]] (o := .obl (InK .i64 (bAnd .u64 (bShr .u64 w_ 47) (bShr .u64 18446744073709551615 (64 - 1)))) (.obl (b_4 = b_4) (.obl (b_3 = b_3) (.obl (b_3 = b_3) (.stop [.o q30_0 6, .c q30_1, .b 1, .c q30_2, .r q30_3, .b 0, .c [1, 1, 1, 1, 1]] [(0, vU w_), (2, vP b_1), (4, vP b_3), (5, vP b_4), (6, vI 48), (7, vI 3), (13, vI 3), (16, vI 3), (17, vU w_), (18, vI 48), (21, vI 1)] [Efb1cc b_1 0 0 0 false false, E14f95 b_2 0 0 0 0 0, E14f95 b_3 16 31 1 1 15, E14f95 b_4 (bAnd .u64 (bShr .u64 w_ 0) (bShr .u64 18446744073709551615 (64 - 16))) (bAnd .u64 (bShr .u64 w_ 16) (bShr .u64 18446744073709551615 (64 - 31))) (bAnd .u64 (bShr .u64 w_ 47) (bShr .u64 18446744073709551615 (64 - 1))) 0 0]))))) (by kernel_rfl) ?_
  refine ok_obl (by have hr := ctl_rng hw; first | (rw [un_block hw]; simp only [InK]; omega) | (rw [un_gen hw]; simp only [InK]; omega) | (rw [un_busy hw]; simp only [InK]; omega) | (rw [un_live hw]; simp only [InK]; omega) | (rw [un_epoch hw]; simp only [InK]; omega) | (simp only [InK]; omega)) ?_
  refine ok_obl rfl ?_
  refine ok_obl rfl ?_
  refine ok_obl rfl ?_
  refine ok_stop ?_
  refine go_call (some 22) [] Tryz.call100 (bits_Get w_ 48 1 (by omega)) (by kernel_rfl) ?_
  rintro v post ⟨rfl, rfl⟩
  refine go_exec (rs := [.cell 2 74]) (by kernel_rfl) 4000 [.n, .w, .e 3, .w, .e 2, .w, .w, .u, .w, .e 2, .z q30_0 6 [0, 2, 4, 5, 6, 7, 13, 16, 17, 18, 21]] (o := .obl (InK .i64 (bAnd .u64 (bShr .u64 w_ 48) (bShr .u64 18446744073709551615 (64 - 1)))) (.obl (b_4 = b_4) (.obl (b_3 = b_3) (.obl (b_3 = b_3) (.stop [.o q30_0 6, .c q30_1, .b 1, .c q30_2, .r q30_3, .b 0, .c [1, 1, 1, 1, 1]] [(0, vU w_), (2, vP b_1), (4, vP b_3), (5, vP b_4), (6, vI 49), (7, vI 4), (13, vI 4), (16, vI 4), (17, vU w_), (18, vI 49), (21, vI 15)] [Efb1cc b_1 0 0 0 false false, E14f95 b_2 0 0 0 0 0, E14f95 b_3 16 31 1 1 15, E14f95 b_4 (bAnd .u64 (bShr .u64 w_ 0) (bShr .u64 18446744073709551615 (64 - 16))) (bAnd .u64 (bShr .u64 w_ 16) (bShr .u64 18446744073709551615 (64 - 31))) (bAnd .u64 (bShr .u64 w_ 47) (bShr .u64 18446744073709551615 (64 - 1))) (bAnd .u64 (bShr .u64 w_ 48) (bShr .u64 18446744073709551615 (64 - 1))) 0]))))) (by kernel_rfl) ?_
  refine ok_obl (by have hr := ctl_rng hw; first | (rw [un_block hw]; simp only [InK]; omega) | (rw [un_gen hw]; simp only [InK]; omega) | (rw [un_busy hw]; simp only [InK]; omega) | (rw [un_live hw]; simp only [InK]; omega) | (rw [un_epoch hw]; simp only [InK]; omega) | (simp only [InK]; omega)) ?_
  refine ok_obl rfl ?_
  refine ok_obl rfl ?_
  refine ok_obl rfl ?_
  refine ok_stop ?_
  refine go_call (some 22) [] Tryz.call100 (bits_Get w_ 49 15 (by omega)) (by kernel_rfl) ?_
  rintro v post ⟨rfl, rfl⟩
  refine go_exec (rs := [.cell 2 74]) (by kernel_rfl) 4000 [.n, .w, .e 3, .w, .e 2, .w, .w, .u, .w, .e 3, .w, .e 3, .w, .e 3, .w, .e 3, .w, .e 3, .e 0, .e 0] (o := .obl (InK .i64 (bAnd .u64 (bShr .u64 w_ 49) (bShr .u64 18446744073709551615 (64 - 15)))) (.obl (b_4 = b_4) (.obl (b_3 = b_3) (.obl (b_4 = b_4) (.obl (b_4 = b_4) (.obl (b_4 = b_4) (.obl (b_4 = b_4) (.obl (b_4 = b_4) (.obl (b_1 = b_1) (.obl (b_1 = b_1) (.ret (.agg #[vI (bAnd .u64 (bShr .u64 w_ 49) (bShr .u64 18446744073709551615 (64 - 15))), vI (bAnd .u64 (bShr .u64 w_ 16) (bShr .u64 18446744073709551615 (64 - 31))), vI (bAnd .u64 (bShr .u64 w_ 0) (bShr .u64 18446744073709551615 (64 - 16))), .bool ((bAnd .u64 (bShr .u64 w_ 48) (bShr .u64 18446744073709551615 (64 - 1))) == 1), .bool ((bAnd .u64 (bShr .u64 w_ 47) (bShr .u64 18446744073709551615 (64 - 1))) == 1)]) [Efb1cc b_1 (bAnd .u64 (bShr .u64 w_ 49) (bShr .u64 18446744073709551615 (64 - 15))) (bAnd .u64 (bShr .u64 w_ 16) (bShr .u64 18446744073709551615 (64 - 31))) (bAnd .u64 (bShr .u64 w_ 0) (bShr .u64 18446744073709551615 (64 - 16))) ((bAnd .u64 (bShr .u64 w_ 48) (bShr .u64 18446744073709551615 (64 - 1))) == 1) ((bAnd .u64 (bShr .u64 w_ 47) (bShr .u64 18446744073709551615 (64 - 1))) == 1), E14f95 b_2 0 0 0 0 0, E14f95 b_3 16 31 1 1 15, E14f95 b_4 (bAnd .u64 (bShr .u64 w_ 0) (bShr .u64 18446744073709551615 (64 - 16))) (bAnd .u64 (bShr .u64 w_ 16) (bShr .u64 18446744073709551615 (64 - 31))) (bAnd .u64 (bShr .u64 w_ 47) (bShr .u64 18446744073709551615 (64 - 1))) (bAnd .u64 (bShr .u64 w_ 48) (bShr .u64 18446744073709551615 (64 - 1))) (bAnd .u64 (bShr .u64 w_ 49) (bShr .u64 18446744073709551615 (64 - 15)))]))))))))))) (by kernel_rfl) ?_
  refine ok_obl (by have hr := ctl_rng hw; first | (rw [un_block hw]; simp only [InK]; omega) | (rw [un_gen hw]; simp only [InK]; omega) | (rw [un_busy hw]; simp only [InK]; omega) | (rw [un_live hw]; simp only [InK]; omega) | (rw [un_epoch hw]; simp only [InK]; omega) | (simp only [InK]; omega)) ?_
  refine ok_obl rfl ?_
  refine ok_obl rfl ?_
  refine ok_obl rfl ?_
  refine ok_obl rfl ?_
  refine ok_obl rfl ?_
  refine ok_obl rfl ?_
  refine ok_obl rfl ?_
  refine ok_obl rfl ?_
  refine ok_obl rfl ?_
  exact ret_ok (post := []) [] (by kernel_rfl) ⟨(by rw [un_block hw, un_gen hw, un_busy hw, un_live hw, un_epoch hw]; rfl), (by kernel_rfl)⟩

noncomputable def B81 : Code := (Tryz.f81.body).getD .skip

theorem r13_Unpack (w_ : Int) (hw : U64 w_) :
    Ctr Tryz.prog 81 #[vU w_] [] (Ret (.agg #[vI (ctlEpoch w_), vI (ctlGen w_), vI (ctlBlock w_), .bool (ctlLive w_), .bool (ctlBusy w_)]) []) := by
  refine ctr_of (args := [vU w_]) (fn := Tryz.f81) (body := B81) (nt := 22) Tryz.func81 (by kernel_rfl) (by kernel_rfl) ?_
  intro F
  refine go_exec (rs := [.cell 2 74]) (by kernel_rfl) 4000 [.n, .n, .n, .n, .n, .n, .n, .e 0, .e 0] (o := .new fun b_1 => .obl (InK .i64 (bAnd .u64 w_ 65535)) (.obl ((0 : Int) ≤ 16) (.obl (InK .i64 (bAnd .u64 (bShr .u64 w_ 16) 2147483647)) (.obl ((0 : Int) ≤ 47) (.obl ((0 : Int) ≤ 48) (.obl ((0 : Int) ≤ 49) (.obl (InK .i64 (bShr .u64 w_ 49)) (.obl (b_1 = b_1) (.obl (b_1 = b_1) (.ret (.agg #[vI (bShr .u64 w_ 49), vI (bAnd .u64 (bShr .u64 w_ 16) 2147483647), vI (bAnd .u64 w_ 65535), .bool ((bAnd .u64 (bShr .u64 w_ 48) 1) == 1), .bool ((bAnd .u64 (bShr .u64 w_ 47) 1) == 1)]) [Efb1cc b_1 (bShr .u64 w_ 49) (bAnd .u64 (bShr .u64 w_ 16) 2147483647) (bAnd .u64 w_ 65535) ((bAnd .u64 (bShr .u64 w_ 48) 1) == 1) ((bAnd .u64 (bShr .u64 w_ 47) 1) == 1)])))))))))) (by kernel_rfl) ?_
  refine ok_new fun b_1 => ?_
  refine ok_obl (by have hr := ctl_rng hw; first | (rw [ru_block hw]; simp only [InK]; omega) | (rw [ru_gen hw]; simp only [InK]; omega) | (rw [ru_epoch hw]; simp only [InK]; omega) | (simp only [InK]; omega)) ?_
  refine ok_obl (by first | omega | (simp; done) | (simp; omega)) ?_
  refine ok_obl (by have hr := ctl_rng hw; first | (rw [ru_block hw]; simp only [InK]; omega) | (rw [ru_gen hw]; simp only [InK]; omega) | (rw [ru_epoch hw]; simp only [InK]; omega) | (simp only [InK]; omega)) ?_
  refine ok_obl (by first | omega | (simp; done) | (simp; omega)) ?_
  refine ok_obl (by first | omega | (simp; done) | (simp; omega)) ?_
  refine ok_obl (by first | omega | (simp; done) | (simp; omega)) ?_
  refine ok_obl (by have hr := ctl_rng hw; first | (rw [ru_block hw]; simp only [InK]; omega) | (rw [ru_gen hw]; simp only [InK]; omega) | (rw [ru_epoch hw]; simp only [InK]; omega) | (simp only [InK]; omega)) ?_
  refine ok_obl rfl ?_
  refine ok_obl rfl ?_
  exact ret_ok (post := []) [] (by kernel_rfl) ⟨(by rw [ru_block hw, ru_gen hw, ru_busy hw, ru_live hw, ru_epoch hw]; rfl), (by kernel_rfl)⟩

noncomputable def B73 : Code := (Tryz.f73.body).getD .skip

theorem r13_flagT   :
    Ctr Tryz.prog 73 #[.bool true] [] (Ret (vU 1) []) := by
  refine ctr_of (args := [.bool true]) (fn := Tryz.f73) (body := B73) (nt := 4) Tryz.func73 (by kernel_rfl) (by kernel_rfl) ?_
  intro F
  refine go_exec (rs := [.tmp 2]) (by kernel_rfl) 4000 [] (o := .ret (vU 1) []) (by kernel_rfl) ?_
  exact ret_ok (post := []) [] (by kernel_rfl) ⟨rfl, (by kernel_rfl)⟩


theorem r13_flagF   :
    Ctr Tryz.prog 73 #[.bool false] [] (Ret (vU 0) []) := by
  refine ctr_of (args := [.bool false]) (fn := Tryz.f73) (body := B73) (nt := 4) Tryz.func73 (by kernel_rfl) (by kernel_rfl) ?_
  intro F
  refine go_exec (rs := [.tmp 2]) (by kernel_rfl) 4000 [] (o := .ret (vU 0) []) (by kernel_rfl) ?_
  exact ret_ok (post := []) [] (by kernel_rfl) ⟨rfl, (by kernel_rfl)⟩


theorem r13_flag (b_ : Bool)  :
    Ctr Tryz.prog 73 #[.bool b_] [] (Ret (vU (flagI b_)) []) := by
  cases b_
  · exact r13_flagF
  · exact r13_flagT

noncomputable def B30 : Code := (Tryz.f30.body).getD .skip

theorem r13_Pack (e_ g_ k_ : Int) (l_ b_ : Bool) (he : 0 ≤ e_ ∧ e_ ≤ 32767) (hg : 0 ≤ g_ ∧ g_ ≤ 2147483647) (hk : 0 ≤ k_ ∧ k_ ≤ 65535) :
    Ctr Tryz.prog 30 #[.agg #[vI e_, vI g_, vI k_, .bool l_, .bool b_]] [] (Ret (vU (packW3 e_ (flagI l_) (flagI b_) g_ k_)) []) := by
  refine ctr_of (args := [.agg #[vI e_, vI g_, vI k_, .bool l_, .bool b_]]) (fn := Tryz.f30) (body := B30) (nt := 31) Tryz.func30 (by kernel_rfl) (by kernel_rfl) ?_
  intro F
  refine go_exec (rs := [.tmp 2]) (by kernel_rfl) 4000 [.e 0, .w, .w, .e 0, .z [0, 1, 1] 4 [1, 8, 10]] (o := .new fun b_1 => .obl (b_1 = b_1) (.obl (b_1 = b_1) (.stop [.o [0, 1, 1] 4, .c [1, 1, 1]] [(1, vP b_1), (8, vU (IntKind.u64.wrap ((IntKind.u64.wrap e_) * 2))), (10, .bool l_)] [Efb1cc b_1 e_ g_ k_ l_ b_]))) (by kernel_rfl) ?_
  refine ok_new fun b_1 => ?_
  refine ok_obl rfl ?_
  refine ok_obl rfl ?_
  refine ok_stop ?_
  refine go_call (some 11) [] Tryz.call73 (r13_flag l_) (by kernel_rfl) ?_
  rintro v post ⟨rfl, rfl⟩
  refine go_exec (rs := [.tmp 2]) (by kernel_rfl) 4000 [.w, .w, .e 0, .z [0, 1, 1, 1] 4 [1, 14, 16]] (o := .obl (b_1 = b_1) (.stop [.o [0, 1, 1, 1] 4, .c [1, 1, 1, 1]] [(1, vP b_1), (14, vU (IntKind.u64.wrap ((IntKind.u64.wrap ((IntKind.u64.wrap ((IntKind.u64.wrap e_) * 2)) + (flagI l_))) * 2))), (16, .bool b_)] [Efb1cc b_1 e_ g_ k_ l_ b_])) (by kernel_rfl) ?_
  refine ok_obl rfl ?_
  refine ok_stop ?_
  refine go_call (some 17) [] Tryz.call73 (r13_flag b_) (by kernel_rfl) ?_
  rintro v post ⟨rfl, rfl⟩
  refine go_exec (rs := [.tmp 2]) (by kernel_rfl) 4000 [.w, .n, .e 0, .w, .w, .n, .e 0, .w, .w] (o := .obl ((0 : Int) ≤ 31) (.obl (b_1 = b_1) (.obl ((0 : Int) ≤ 16) (.obl (b_1 = b_1) (.ret (vU (IntKind.u64.wrap ((bShl .u64 (IntKind.u64.wrap ((bShl .u64 (IntKind.u64.wrap ((IntKind.u64.wrap ((IntKind.u64.wrap ((IntKind.u64.wrap ((IntKind.u64.wrap e_) * 2)) + (flagI l_))) * 2)) + (flagI b_))) 31) + (IntKind.u64.wrap g_))) 16) + (IntKind.u64.wrap k_)))) [Efb1cc b_1 e_ g_ k_ l_ b_]))))) (by kernel_rfl) ?_
  refine ok_obl (by first | omega | (simp; done) | (simp; omega)) ?_
  refine ok_obl rfl ?_
  refine ok_obl (by first | omega | (simp; done) | (simp; omega)) ?_
  refine ok_obl rfl ?_
  exact ret_ok (post := []) [] (by kernel_rfl) ⟨(congrArg (Value.int .u64) (by have h1 := flagI_rng l_; have h2 := flagI_rng b_; unfold packW3; simp only [shl31, shl16, wrapU64]; omega)), (by kernel_rfl)⟩

noncomputable def B36 : Code := (Tryz.f36.body).getD .skip

theorem r13_Born0   :
    Ctr Tryz.prog 36 #[vU 0] [] (Ret (vU (packW3 0 1 0 0 0)) []) := by
  refine ctr_of (args := [vU 0]) (fn := Tryz.f36) (body := B36) (nt := 8) Tryz.func36 (by kernel_rfl) (by kernel_rfl) ?_
  intro F
  refine go_exec (rs := [.tmp 2]) (by kernel_rfl) 4000 [.z [0, 1] 1 [3]] (o := .stop [.o [0, 1] 1, .c [1, 1]] [(3, vU 0)] []) (by kernel_rfl) ?_
  refine ok_stop ?_
  refine go_call (some 4) [] Tryz.call81 (r13_Unpack 0 (by unfold U64; omega)) (by kernel_rfl) ?_
  rintro v post ⟨rfl, rfl⟩
  refine go_exec (rs := [.tmp 2]) (by kernel_rfl) 4000 [.z [0, 1] 4 [6]] (o := .stop [.o [0, 1] 4, .c [1, 1]] [(6, .agg #[vI (ctlEpoch 0), vI 0, vI 0, .bool true, .bool false])] []) (by kernel_rfl) ?_
  refine ok_stop ?_
  refine go_call (some 7) [] Tryz.call30 (r13_Pack (ctlEpoch 0) 0 0 true false (by decide) (by decide) (by decide)) (by kernel_rfl) ?_
  rintro v post ⟨rfl, rfl⟩
  refine go_exec (rs := [.tmp 2]) (by kernel_rfl) 4000 [] (o := .ret (vU (packW3 (ctlEpoch 0) (flagI true) (flagI false) 0 0)) []) (by kernel_rfl) ?_
  exact ret_ok (post := []) [] (by kernel_rfl) ⟨rfl, (by kernel_rfl)⟩

noncomputable def B116 : Code := (Tryz.f116.body).getD .skip

theorem slots_Mark (cl bk : Int) (hcl : 0 ≤ cl + 1 ∧ cl + 1 ≤ 4294967295) (hb : 0 ≤ bk ∧ bk ≤ 4294967295) :
    Ctr Tryz.prog 116 #[vI cl, vI bk] [] (Ret (vU (markW cl bk)) []) := by
  refine ctr_of (args := [vI cl, vI bk]) (fn := Tryz.f116) (body := B116) (nt := 14) Tryz.func116 (by kernel_rfl) (by kernel_rfl) ?_
  intro F
  refine go_exec (rs := [.tmp 4]) (by kernel_rfl) 4000 [.n, .w, .w, .n, .w, .w] (o := .obl (InK .i64 (cl + 1)) (.obl ((0 : Int) ≤ 32) (.ret (vU (bOr .u64 (bShl .u64 (IntKind.u64.wrap (IntKind.u32.wrap (cl + 1))) 32) (IntKind.u64.wrap (IntKind.u32.wrap bk)))) []))) (by kernel_rfl) ?_
  refine ok_obl (by simp only [InK]; omega) ?_
  refine ok_obl (by first | omega | (simp; done) | (simp; omega)) ?_
  exact ret_ok (post := []) [] (by kernel_rfl) ⟨(congrArg (Value.int .u64) (mark_or hcl hb)), (by kernel_rfl)⟩


theorem cause_New0   :
    Ctr Tryz.prog 60 #[vI 0] [] (Ret (.nilIface) []) := by
  refine ctr_of (args := [vI 0]) (fn := Tryz.f60) (body := B60) (nt := 7) Tryz.func60 (by kernel_rfl) (by kernel_rfl) ?_
  intro F
  refine go_exec (rs := [.tmp 2]) (by kernel_rfl) 4000 [] (o := .ret (.nilIface) []) (by kernel_rfl) ?_
  exact ret_ok (post := []) [] (by kernel_rfl) ⟨rfl, (by kernel_rfl)⟩


theorem cause_NewE (k_ : Int) (hk : k_ ≠ 0) :
    Ctr Tryz.prog 60 #[vI k_] [] (Ret (.iface 61 (vI k_)) []) := by
  refine ctr_of (args := [vI k_]) (fn := Tryz.f60) (body := B60) (nt := 7) Tryz.func60 (by kernel_rfl) (by kernel_rfl) ?_
  intro F
  refine go_exec (rs := [.tmp 2]) (by kernel_rfl) 4000 [.sp [4] [.dead] []] (o := .br (k_ == 0) (.bad) (.ret (.iface 61 (vI k_)) [])) (by kernel_rfl) ?_
  refine ok_br (fun h => absurd (show (k_ == 0) = false from (beq_eq_false_iff_ne.2 hk)) (by rw [h]; simp)) (fun _ => ?_)
  exact ret_ok (post := []) [] (by kernel_rfl) ⟨rfl, (by kernel_rfl)⟩

noncomputable def B67 : Code := (Tryz.f67.body).getD .skip

-- as_nilC

theorem as_hitH (o_ : Obj) (b : Nat) (old k_ : Int) (ho : IsH o_) :
    Ctr Tryz.prog 67 #[.iface 61 (vI k_), .iface 118 (vP b)] [.raw 0 o_, .pts b [vI old] 61] (Ret (.bool true) [.raw 0 o_, .pts b [vI k_] 61]) := by
  obtain ⟨t, f, rfl⟩ := ho
  exact as_hitC t f b old k_

noncomputable def B22 : Code := (Tryz.f22.body).getD .skip

theorem cause_Top0 (o_ : Obj)  :
    Ctr Tryz.prog 22 #[.nilIface] [.raw 0 o_] (Ret (vI 0) [.raw 0 o_]) := by
  refine ctr_of (args := [.nilIface]) (fn := Tryz.f22) (body := B22) (nt := 8) Tryz.func22 (by kernel_rfl) (by kernel_rfl) ?_
  intro F
  refine go_exec (rs := [.tmp 2]) (by kernel_rfl) 4000 [.z [0, 0, 1, 1] 2 [3, 4, 5]] (o := .new fun b_1 => .stop [.o [0, 0, 1, 1] 2, .c [1, 0, 1, 1], .c [1, 1, 1]] [(3, vP b_1), (4, .nilIface), (5, .iface 118 (vP b_1))] [.raw 0 o_, .pts b_1 [vI 0] 61]) (by kernel_rfl) ?_
  refine ok_new fun b_1 => ?_
  refine ok_stop ?_
  refine go_call (some 6) [] Tryz.call67 (as_nilC (.iface 118 (vP b_1))) (by kernel_rfl) ?_
  rintro v post ⟨rfl, rfl⟩
  refine go_exec (rs := [.tmp 2]) (by kernel_rfl) 4000 [] (o := .ret (vI 0) [.raw 0 o_, .pts b_1 [vI 0] 61]) (by kernel_rfl) ?_
  exact ret_ok (post := [.raw 0 o_]) [0] (by kernel_rfl) ⟨rfl, (by kernel_rfl)⟩


theorem cause_TopE (o_ : Obj) (k_ : Int) (ho : IsH o_) :
    Ctr Tryz.prog 22 #[.iface 61 (vI k_)] [.raw 0 o_] (Ret (vI k_) [.raw 0 o_]) := by
  refine ctr_of (args := [.iface 61 (vI k_)]) (fn := Tryz.f22) (body := B22) (nt := 8) Tryz.func22 (by kernel_rfl) (by kernel_rfl) ?_
  intro F
  refine go_exec (rs := [.tmp 2]) (by kernel_rfl) 4000 [.z [0, 0, 1, 1] 2 [3, 4, 5]] (o := .new fun b_1 => .stop [.o [0, 0, 1, 1] 2, .c [1, 0, 1, 1], .c [1, 1, 1]] [(3, vP b_1), (4, .iface 61 (vI k_)), (5, .iface 118 (vP b_1))] [.raw 0 o_, .pts b_1 [vI 0] 61]) (by kernel_rfl) ?_
  refine ok_new fun b_1 => ?_
  refine ok_stop ?_
  refine go_call (some 6) [0, 1] Tryz.call67 (as_hitH o_ b_1 0 k_ (by first | assumption | omega | (simp only [InK] at *; omega))) (by kernel_rfl) ?_
  rintro v post ⟨rfl, rfl⟩
  refine go_exec (rs := [.tmp 2]) (by kernel_rfl) 4000 [.e 1] (o := .obl (b_1 = b_1) (.ret (vI k_) [.raw 0 o_, .pts b_1 [vI k_] 61])) (by kernel_rfl) ?_
  refine ok_obl rfl ?_
  exact ret_ok (post := [.raw 0 o_]) [0] (by kernel_rfl) ⟨rfl, (by kernel_rfl)⟩


theorem cause_Top (o_ : Obj) (k_ : Int) (ho : IsH o_) :
    Ctr Tryz.prog 22 #[(errV k_)] [.raw 0 o_] (Ret (vI k_) [.raw 0 o_]) := by
  by_cases hk : k_ = 0
  · subst hk; exact cause_Top0 o_
  · rw [errV_ne hk]; exact cause_TopE o_ k_ ho

end Go.Proofs.YtilaihbbollcnaaGreatDoor

/- What the listed variable gives a walk. -/
namespace Go.Proofs.YtilaihbbollcnaaGreatDoor
open Go.Sx Go.ChangeShapes Go.WideShapes Go.ChangeAt Go.RowKit
theorem Tryz.own : ownKnob Tryz.prog.godebug = none := by kernel_rfl
theorem Tryz.laidOutP : laidOutB Tryz.prog = true := by kernel_rfl
theorem Tryz.et : Tryz.prog.globalNamed "errors.errorType" = some 0 := by kernel_rfl
theorem Tryz.rt : (Tryz.prog.cutTypes.find? (·.1 == "internal/reflectlite.rtype")).map (·.2) = some 167 := by kernel_rfl
theorem Tryz.oneRow : ((List.range 219).filter fun t => Tryz.prog.rowNamed t [101, 114, 114, 111, 114]) = [35] := by kernel_rfl
theorem Tryz.sizeT : Tryz.prog.types.size = 219 := by kernel_rfl
theorem handle_of_laid {W : World} (h : laidMetH Tryz.prog [("errors.errorType", Rows.laid_errors_errorType)] W) : ∃ o, IsH o ∧ W.heap[0]? = some o := by
  have h' : laidMet Tryz.prog [] W ∧ handlesMet Tryz.prog [("errors.errorType", Rows.laid_errors_errorType)] W := h
  obtain ⟨name, u, ty, e1, e2, e3, e4, e5⟩ := h'.2 _ (List.mem_singleton.2 rfl)
  have en : name = [101, 114, 114, 111, 114] := (Option.some.inj e1).symm
  subst en
  obtain rfl := Option.some.inj (Tryz.rt.symm.trans e2)
  have hm : ty ∈ (List.range 219).filter fun t => Tryz.prog.rowNamed t [101, 114, 114, 111, 114] := List.mem_filter.2 ⟨List.mem_range.2 (by rw [← Tryz.sizeT]; exact e3), e4⟩
  rw [Tryz.oneRow] at hm
  obtain rfl := List.mem_singleton.1 hm
  have hh : typeHandle Tryz.prog 35 = .pointer (some ⟨1, 35, none⟩) := by kernel_rfl
  rw [hh] at e5
  simp only [World.var?, Tryz.et, Option.bind_some] at e5
  split at e5
  · rename_i cs t f hc
    exact ⟨_, ⟨t, f, by have := Option.some.inj e5; rw [this]; rfl⟩, hc⟩
  · cases e5
noncomputable def laidWorld (os : Os) : World :=
  let w0 := World.holding Tryz.prog os ⟨#[], #[], []⟩
  { w0 with heap := w0.heap.modify 0 fun
      | .cells _ t frozen => .cells #[.iface 167 (.agg #[.pointer (some ⟨1, 35, none⟩)])] t frozen
      | o => o }
theorem laidWorld_met (os : Os) (args : Array Value) : laidMetH Tryz.prog [("errors.errorType", Rows.laid_errors_errorType)] ((laidWorld os).forCall (fun _ _ => 0) ⟨#[], args, []⟩).memory :=
  laidMetH_of_parts (laidMet_nil _ _) (by kernel_rfl)
theorem foot_h {o : Obj} {W : World} (h : W.heap[0]? = some o) : Fits [(0, o)] W := ⟨by simp, fun p hp => by rw [List.mem_singleton.1 hp]; exact h⟩
theorem dens_h (o : Obj) : dens [.raw 0 o] [(0, o)] := ⟨[(0, o)], [], by simp, rfl, rfl⟩
theorem pin_h (o : Obj) : ∀ g, dens [.raw 0 o] g → ∀ p ∈ [(0, o)], p ∈ g := by
  rintro g ⟨f1, f2, rfl, h1, h2⟩ p hp
  have h1 : f1 = [(0, o)] := h1
  subst h1
  exact List.mem_append_left _ hp
theorem open_rd2 {P : Program} {w : World} {H : Type} {enc : TypeId × Value → H} {base : Nat} {held : Bool} {α : Type} {en : α → List Value} {d0 : α} {sz : Nat} (hz : Sized en sz) {d : Nat} {t e : TypeId} {ks : List Kd} {v : Value} {y : DataW H} {ps : List MemPlace} (ht : P.underlying t = some (.slice e)) (hf : flat P d e = some ks) (hs : P.cellsOf e = sz) (h0 : 0 < sz)
    {Q : α → Prop} (hen : ∀ row, FitsAll ks row → ∃ x, row = en x ∧ Q x) {b0 : Nat} (hv : Value.okWide P w .any b0 t v) (h : DataW.Trod enc P w base (fun _ => true) held t v y ps) :
    ∃ (a : Option Addr) (c : Nat) (xs : List α) (bt : TypeId) (r : Sx.Rest) (foot : Ft), v = .slice a xs.length c ∧ (xs.length ≤ c ∧ ∀ x ∈ xs, Q x) ∧ (Ent.rd a c en d0 sz xs bt r).den foot ∧ Fits foot w ∧ (foot = [] ∨ xs ≠ []) ∧ ∀ g, (Ent.rd a c en d0 sz xs bt r).den g → ∀ p ∈ foot, p ∈ g := by
  obtain ⟨a, c, xs, bt, r, foot, h1, h2, h3, h4, h5, h6, h7⟩ := open_rd hz ht hf hs h0 hen hv h
  by_cases hx : xs = []
  · refine ⟨a, c, xs, bt, r, [], h1, h2, ⟨hz, .inl ⟨hx, rfl, ?_⟩⟩, ⟨by simp, by simp⟩, .inl rfl, by simp⟩
    rcases h4.2 with ⟨_, _, q⟩ | ⟨b, off, q, _⟩
    · exact q
    · intro hn; rw [hn] at q; cases q
  · exact ⟨a, c, xs, bt, r, foot, h1, h2, h4, h5, .inr hx, h7⟩
theorem apart_h {o : Obj} {W : World} (ho : IsH o) (hO : W.heap[0]? = some o) {α : Type} {a : Option Addr} {c : Nat} {en : α → List Value} {d : α} {sz : Nat} {xs : List α} {t : TypeId} {r : Sx.Rest} {foot : Ft} (hd : (Ent.rd a c en d sz xs t r).den foot) (hfit : Fits foot W) (hne : foot = [] ∨ xs ≠ []) (h2 : 2 ≤ sz) : 0 ∉ foot.map (·.1) := by
  intro hm
  rcases hne with hf | hx
  · rw [hf] at hm; simp at hm
  · rcases hd.2 with ⟨q, _⟩ | ⟨b, off, _, _, _, q⟩
    · exact hx q
    · rw [q] at hm hfit
      simp only [List.map_cons, List.map_nil, List.mem_singleton] at hm
      subst hm
      have h1 := hfit.2 _ (List.mem_singleton.2 rfl)
      simp only at h1
      rw [hO] at h1
      obtain ⟨t', f', rfl⟩ := ho
      have h3 := Option.some.inj h1
      injection h3 with h4 h5 h6
      have h7 := congrArg Array.size h4
      cases xs with
      | nil => exact hx rfl
      | cons x l =>
        have hs := hd.1 x
        simp [cellsOf] at h7
        omega
theorem dens_hr {o : Obj} {e : Ent} {foot : Ft} (h : e.den foot) : dens [.raw 0 o, e] ((0, o) :: foot) := ⟨[(0, o)], foot, rfl, rfl, foot, [], by simp, h, rfl⟩
theorem foot_hr {o : Obj} {W : World} {foot : Ft} (hO : W.heap[0]? = some o) (hfit : Fits foot W) (h0 : 0 ∉ foot.map (·.1)) : Fits ((0, o) :: foot) W :=
  ⟨by rw [List.map_cons, List.nodup_cons]; exact ⟨h0, hfit.1⟩, fun p hp => by
    rcases List.mem_cons.1 hp with rfl | hp
    · exact hO
    · exact hfit.2 p hp⟩
theorem pin_hr {o : Obj} {e : Ent} {foot : Ft} (h : ∀ g, e.den g → ∀ p ∈ foot, p ∈ g) : ∀ g, dens [.raw 0 o, e] g → ∀ p ∈ (0, o) :: foot, p ∈ g := by
  rintro g ⟨f1, f2, rfl, h1, f3, f4, rfl, h3, _⟩ p hp
  have h1 : f1 = [(0, o)] := h1
  subst h1
  rcases List.mem_cons.1 hp with rfl | hp
  · simp
  · simp [h f3 h3 p hp]
end Go.Proofs.YtilaihbbollcnaaGreatDoor


namespace Go.Proofs.YtilaihbbollcnaaGreatDoor
open Go.Sx
abbrev E6725d (x0 : Nat) (c1 : Cfg) (x2 : Int) (x3 : Int) (x4 : Int) (x5 : Int) (x6 : Value) (x7 : Int) (x8 : Int) (x9 : Int) (x10 : Int) (x11 : Value) : Ent := .pts x0 [.int .i64 c1.topics, .int .i64 c1.small, .int .i64 c1.slots, .int .i64 c1.clients, .int .i64 c1.s0, .int .i64 c1.n0, .int .i64 c1.s1, .int .i64 c1.n1, .int .i64 c1.retry, .int .i64 x2, .int .i64 x3, .int .i64 x4, .int .i64 x5, x6, .int .u64 x7, .int .i64 x8, .int .i64 x9, .int .i64 x10, x11] 102
abbrev E0836a (x0 : Nat) (c1 : Cfg) (x2 : Int) (x3 : Int) (x4 : Int) (x5 : Int) (x6 : Value) (x7 : Int) (x8 : Int) (x9 : Int) (x10 : Int) : Ent := .pts x0 [.int .i64 c1.topics, .int .i64 c1.small, .int .i64 c1.slots, .int .i64 c1.clients, .int .i64 c1.s0, .int .i64 c1.n0, .int .i64 c1.s1, .int .i64 c1.n1, .int .i64 c1.retry, .int .i64 x2, .int .i64 x3, .int .i64 x4, .int .i64 x5, x6, .int .u64 x7, .int .i64 x8, .int .i64 x9, .int .i64 x10, .nilIface] 102
abbrev q31_0 : List Nat := [0, 1, 1, 1, 0, 1, 1]
abbrev q31_1 : List Nat := [0, 0, 1, 0, 1, 1, 1]

/-- the step that is next -/
noncomputable def nxG (g : Nat) : Nat → Value
  | 1 => .func (.func 58) #[vP g] #[]
  | 2 => .func (.func 107) #[vP g] #[]
  | 3 => .func (.func 117) #[vP g] #[]
  | _ => .nilFunc
noncomputable def B108 : Code := (Tryz.f108.body).getD .skip

theorem gEnd0 (c : Cfg) (g : Nat) (cl ep sl wd sn bk fl cm : Int) (nx er : Value)  :
    Ctr Tryz.prog 108 #[vP g, vI 0] [E6725d g c cl ep sl wd nx sn bk fl cm er] (Ret (undef) [E0836a g c cl ep sl wd (.nilFunc) sn bk fl cm]) := by
  refine ctr_of (args := [vP g, vI 0]) (fn := Tryz.f108) (body := B108) (nt := 20) Tryz.func108 (by kernel_rfl) (by kernel_rfl) ?_
  intro F
  refine go_exec (rs := []) (by kernel_rfl) 4000 [.e 0, .z [0, 1] 2 [0, 7, 8]] (o := .obl (g = g) (.stop [.o [0, 1] 2, .c [1, 1]] [(0, vP g), (7, vP g), (8, vI 0)] [E6725d g c cl ep sl wd (.nilFunc) sn bk fl cm er])) (by kernel_rfl) ?_
  refine ok_obl rfl ?_
  refine ok_stop ?_
  refine go_call (some 9) [] Tryz.call60 (cause_New0) (by kernel_rfl) ?_
  rintro v post ⟨rfl, rfl⟩
  refine go_exec (rs := []) (by kernel_rfl) 4000 [.e 0, .e 0] (o := .obl (g = g) (.obl (g = g) (.ret (undef) [E0836a g c cl ep sl wd (.nilFunc) sn bk fl cm]))) (by kernel_rfl) ?_
  refine ok_obl rfl ?_
  refine ok_obl rfl ?_
  exact ret_ok (post := [E0836a g c cl ep sl wd (.nilFunc) sn bk fl cm]) [0] (by kernel_rfl) ⟨rfl, (by kernel_rfl)⟩


theorem gEndE (c : Cfg) (g : Nat) (cl ep sl wd sn bk fl cm : Int) (nx er : Value) (k_ : Int) (hk : k_ ≠ 0) :
    Ctr Tryz.prog 108 #[vP g, vI k_] [E6725d g c cl ep sl wd nx sn bk fl cm er] (Ret (undef) [E6725d g c cl ep sl wd (.nilFunc) sn 0 fl cm (.iface 61 (vI k_))]) := by
  refine ctr_of (args := [vP g, vI k_]) (fn := Tryz.f108) (body := B108) (nt := 20) Tryz.func108 (by kernel_rfl) (by kernel_rfl) ?_
  intro F
  refine go_exec (rs := []) (by kernel_rfl) 4000 [.e 0, .z [0, 1] 2 [0, 7, 8]] (o := .obl (g = g) (.stop [.o [0, 1] 2, .c [1, 1]] [(0, vP g), (7, vP g), (8, vI k_)] [E6725d g c cl ep sl wd (.nilFunc) sn bk fl cm er])) (by kernel_rfl) ?_
  refine ok_obl rfl ?_
  refine ok_stop ?_
  refine go_call (some 9) [] Tryz.call60 (cause_NewE k_ (by first | assumption | omega | (simp only [InK] at *; omega))) (by kernel_rfl) ?_
  rintro v post ⟨rfl, rfl⟩
  refine go_exec (rs := []) (by kernel_rfl) 4000 [.e 0, .e 0, .e 0] (o := .obl (g = g) (.obl (g = g) (.obl (g = g) (.ret (undef) [E6725d g c cl ep sl wd (.nilFunc) sn 0 fl cm (.iface 61 (vI k_))])))) (by kernel_rfl) ?_
  refine ok_obl rfl ?_
  refine ok_obl rfl ?_
  refine ok_obl rfl ?_
  exact ret_ok (post := [E6725d g c cl ep sl wd (.nilFunc) sn 0 fl cm (.iface 61 (vI k_))]) [0] (by kernel_rfl) ⟨rfl, (by kernel_rfl)⟩

noncomputable def B90 : Code := (Tryz.f90.body).getD .skip

theorem gLookD (c : Cfg) (g : Nat) (cl ep sl wd sn bk fl cm : Int) (nx er : Value) (w_ : Int) (hw : U64 w_) (hl : ctlLive w_ = false) :
    Ctr Tryz.prog 90 #[vP g, vU w_] [E6725d g c cl ep sl wd nx sn bk fl cm er] (Ret (undef) [E6725d g c cl ep sl wd (.nilFunc) w_ 0 fl cm (.iface 61 (vI 22))]) := by
  refine ctr_of (args := [vP g, vU w_]) (fn := Tryz.f90) (body := B90) (nt := 42) Tryz.func90 (by kernel_rfl) (by kernel_rfl) ?_
  intro F
  refine go_exec (rs := []) (by kernel_rfl) 4000 [.z [0] 1 [0, 1, 5]] (o := .stop [.o [0] 1, .c [1]] [(0, vP g), (1, vU w_), (5, vU w_)] [E6725d g c cl ep sl wd nx sn bk fl cm er]) (by kernel_rfl) ?_
  refine ok_stop ?_
  refine go_call (some 6) [] Tryz.call106 (ctl_Unpack w_ (by first | assumption | omega | (simp only [InK] at *; omega))) (by kernel_rfl) ?_
  rintro v post ⟨rfl, rfl⟩
  refine go_exec (rs := []) (by kernel_rfl) 4000 [.e 1, .z [0, 1] 0 [0, 1, 4]] (o := .new fun b_2 => .obl (b_2 = b_2) (.stop [.c [0, 1], .c [1, 1]] [(0, vP g), (1, vU w_), (4, vP b_2)] [E6725d g c cl ep sl wd nx sn bk fl cm er, Efb1cc b_2 (ctlEpoch w_) (ctlGen w_) (ctlBlock w_) (ctlLive w_) (ctlBusy w_)])) (by kernel_rfl) ?_
  refine ok_new fun b_2 => ?_
  refine ok_obl rfl ?_
  refine ok_stop ?_
  refine go_lz (by kernel_rfl) (by kernel_rfl) ?_
  refine lz_node (l' := (mk 17 [0, 1, 2, 3, 4, 5, 6, 7, 8, 9])) (V' := [0, 1, 2, 3, 4, 5, 6, 7, 8, 9]) (T1 := [(0, vP g), (1, vU w_), (4, vP b_2), (7, vP g), (8, vP g), (9, vP g), (10, vU w_), (11, .pointer (some ⟨b_2, 2, none⟩)), (12, vI (ctlBlock w_)), (13, vP g), (14, .func (.func 107) #[vP g] #[]), (15, vP g), (16, .pointer (some ⟨g, 14, none⟩))]) (ps := [b_2 = b_2]) [0, 1, 2, 3, 4, 5, 6, 7, 8, 9] [(0, .h .w), (1, .h .w), (2, .h .w), (3, .h .w), (4, .h .w), (5, .h (.e 1)), (6, .h .w), (7, .h .w), (8, .h .w), (9, .h .w)] [0, 1, 4, 7, 8, 9, 10, 11, 12, 13, 14, 15, 16] [10] (by kernel_rfl) ⟨rfl, trivial⟩ ⟨?_, trivial⟩
  refine lz_op (l' := (mk 17 [0, 1, 2, 3, 4, 5, 6, 7, 8, 9, 10])) (V' := [1, 2, 4, 5, 6, 7]) (so := .obl (g = g) (.ok .skip [E6725d g c cl ep sl wd nx w_ bk fl cm er, Efb1cc b_2 (ctlEpoch w_) (ctlGen w_) (ctlBlock w_) (ctlLive w_) (ctlBusy w_)])) (dst := none) (.e 0) (by kernel_rfl) ?_
  refine sat_obl rfl ?_
  refine sat_skip ?_
  refine lz_node (l' := (mk 17 [0, 1, 2, 3, 4, 5, 6, 7, 8, 9, 10, 11, 12])) (V' := [1, 2, 4, 5, 6, 7, 11, 12]) (T1 := [(0, vP g), (4, vP b_2), (8, vP g), (9, vP g), (11, .pointer (some ⟨b_2, 2, none⟩)), (12, vI (ctlBlock w_)), (13, vP g), (14, .func (.func 107) #[vP g] #[]), (17, vP g), (18, .pointer (some ⟨g, 15, none⟩))]) (ps := [b_2 = b_2]) [11, 12] [(1, .h .w), (2, .h .w), (4, .h .w), (5, .h (.e 1)), (6, .h .w), (7, .h .w), (11, .h .w), (12, .h .w)] [0, 4, 8, 9, 11, 12, 13, 14, 17, 18] [13] (by kernel_rfl) ⟨rfl, trivial⟩ ⟨?_, trivial⟩
  refine lz_op (l' := (mk 17 [0, 1, 2, 3, 4, 5, 6, 7, 8, 9, 10, 11, 12, 13])) (V' := [2, 6, 7]) (so := .obl (g = g) (.ok .skip [E6725d g c cl ep sl wd nx w_ (ctlBlock w_) fl cm er, Efb1cc b_2 (ctlEpoch w_) (ctlGen w_) (ctlBlock w_) (ctlLive w_) (ctlBusy w_)])) (dst := none) (.e 0) (by kernel_rfl) ?_
  refine sat_obl rfl ?_
  refine sat_skip ?_
  refine lz_node (l' := (mk 17 [0, 1, 2, 3, 4, 5, 6, 7, 8, 9, 10, 11, 12, 13, 14, 15])) (V' := [2, 6, 7, 14, 15]) (T1 := [(0, vP g), (4, vP b_2), (9, vP g), (13, vP g), (14, .func (.func 107) #[vP g] #[]), (19, vP g), (20, .pointer (some ⟨g, 13, none⟩))]) (ps := []) [14, 15] [(2, .h .w), (6, .h .w), (7, .h .w), (14, .h .w), (15, .h .w)] [0, 4, 9, 13, 14, 19, 20] [16] (by kernel_rfl) trivial ⟨?_, trivial⟩
  refine lz_op (l' := (mk 17 [0, 1, 2, 3, 4, 5, 6, 7, 8, 9, 10, 11, 12, 13, 14, 15, 16])) (V' := []) (so := .obl (g = g) (.ok .skip [E6725d g c cl ep sl wd (.func (.func 107) #[vP g] #[]) w_ (ctlBlock w_) fl cm er, Efb1cc b_2 (ctlEpoch w_) (ctlGen w_) (ctlBlock w_) (ctlLive w_) (ctlBusy w_)])) (dst := none) (.e 0) (by kernel_rfl) ?_
  refine sat_obl rfl ?_
  refine sat_skip ?_
  refine lz_end (T1 := [(0, vP g), (4, vP b_2)]) (ps := []) [] [] [0, 4] (by kernel_rfl) trivial ?_
  refine go_exec (rs := []) (by kernel_rfl) 4000 [.z [0, 0, 1, 1] 0 [0, 4]] (o := .stop [.c [0, 0, 1, 1], .c [1, 0, 1, 1], .b 0] [(0, vP g), (4, vP b_2)] [E6725d g c cl ep sl wd (.func (.func 107) #[vP g] #[]) w_ (ctlBlock w_) fl cm er, Efb1cc b_2 (ctlEpoch w_) (ctlGen w_) (ctlBlock w_) (ctlLive w_) (ctlBusy w_)]) (by kernel_rfl) ?_
  refine ok_stop ?_
  refine go_quiet (tm' := [(0, vP g), (4, vP b_2), (21, .bool true)]) (ps := [b_2 = b_2, (!(ctlLive w_)) = true]) (cs := []) [(0, .h .w), (1, .h (.e 1)), (2, .h (.t true)), (3, .h .w), (4, .h .w), (5, .h .w), (6, .h .w), (7, .h .w), (8, .h .w), (9, .h .w), (10, .h .w), (11, .h .w), (12, .h .w)] [0, 4, 21] (by kernel_rfl) (by kernel_rfl) ⟨rfl, (by simp [hl]), trivial⟩ trivial ?_
  refine go_exec (rs := []) (by kernel_rfl) 4000 [.z [0, 1, 0, 1, 1] 1 [34]] (o := .stop [.o [0, 1, 0, 1, 1] 1, .b 0] [(34, vP g)] [E6725d g c cl ep sl wd (.func (.func 107) #[vP g] #[]) w_ (ctlBlock w_) fl cm er, Efb1cc b_2 (ctlEpoch w_) (ctlGen w_) (ctlBlock w_) (ctlLive w_) (ctlBusy w_)]) (by kernel_rfl) ?_
  refine ok_stop ?_
  refine go_call (some 35) [0] Tryz.call108 (gEndE c g cl ep sl wd w_ (ctlBlock w_) fl cm (.func (.func 107) #[vP g] #[]) er 22 (by decide)) (by kernel_rfl) ?_
  rintro v post ⟨rfl, rfl⟩
  refine go_exec (rs := []) (by kernel_rfl) 4000 [] (o := .ret (undef) [Efb1cc b_2 (ctlEpoch w_) (ctlGen w_) (ctlBlock w_) (ctlLive w_) (ctlBusy w_), E6725d g c cl ep sl wd (.nilFunc) w_ 0 fl cm (.iface 61 (vI 22))]) (by kernel_rfl) ?_
  exact ret_ok (post := [E6725d g c cl ep sl wd (.nilFunc) w_ 0 fl cm (.iface 61 (vI 22))]) [1] (by kernel_rfl) ⟨rfl, (by kernel_rfl)⟩


theorem gLookP (c : Cfg) (g : Nat) (cl ep sl wd sn bk fl cm : Int) (nx er : Value) (w_ : Int) (hw : U64 w_) (hl : ctlLive w_ = true) (he : ctlEpoch w_ ≠ ep) :
    Ctr Tryz.prog 90 #[vP g, vU w_] [E6725d g c cl ep sl wd nx sn bk fl cm er] (Ret (undef) [E6725d g c cl ep sl wd (.nilFunc) w_ 0 fl cm (.iface 61 (vI 22))]) := by
  refine ctr_of (args := [vP g, vU w_]) (fn := Tryz.f90) (body := B90) (nt := 42) Tryz.func90 (by kernel_rfl) (by kernel_rfl) ?_
  intro F
  refine go_exec (rs := []) (by kernel_rfl) 4000 [.z [0] 1 [0, 1, 5]] (o := .stop [.o [0] 1, .c [1]] [(0, vP g), (1, vU w_), (5, vU w_)] [E6725d g c cl ep sl wd nx sn bk fl cm er]) (by kernel_rfl) ?_
  refine ok_stop ?_
  refine go_call (some 6) [] Tryz.call106 (ctl_Unpack w_ (by first | assumption | omega | (simp only [InK] at *; omega))) (by kernel_rfl) ?_
  rintro v post ⟨rfl, rfl⟩
  refine go_exec (rs := []) (by kernel_rfl) 4000 [.e 1, .z [0, 1] 0 [0, 1, 4]] (o := .new fun b_2 => .obl (b_2 = b_2) (.stop [.c [0, 1], .c [1, 1]] [(0, vP g), (1, vU w_), (4, vP b_2)] [E6725d g c cl ep sl wd nx sn bk fl cm er, Efb1cc b_2 (ctlEpoch w_) (ctlGen w_) (ctlBlock w_) (ctlLive w_) (ctlBusy w_)])) (by kernel_rfl) ?_
  refine ok_new fun b_2 => ?_
  refine ok_obl rfl ?_
  refine ok_stop ?_
  refine go_lz (by kernel_rfl) (by kernel_rfl) ?_
  refine lz_node (l' := (mk 17 [0, 1, 2, 3, 4, 5, 6, 7, 8, 9])) (V' := [0, 1, 2, 3, 4, 5, 6, 7, 8, 9]) (T1 := [(0, vP g), (1, vU w_), (4, vP b_2), (7, vP g), (8, vP g), (9, vP g), (10, vU w_), (11, .pointer (some ⟨b_2, 2, none⟩)), (12, vI (ctlBlock w_)), (13, vP g), (14, .func (.func 107) #[vP g] #[]), (15, vP g), (16, .pointer (some ⟨g, 14, none⟩))]) (ps := [b_2 = b_2]) [0, 1, 2, 3, 4, 5, 6, 7, 8, 9] [(0, .h .w), (1, .h .w), (2, .h .w), (3, .h .w), (4, .h .w), (5, .h (.e 1)), (6, .h .w), (7, .h .w), (8, .h .w), (9, .h .w)] [0, 1, 4, 7, 8, 9, 10, 11, 12, 13, 14, 15, 16] [10] (by kernel_rfl) ⟨rfl, trivial⟩ ⟨?_, trivial⟩
  refine lz_op (l' := (mk 17 [0, 1, 2, 3, 4, 5, 6, 7, 8, 9, 10])) (V' := [1, 2, 4, 5, 6, 7]) (so := .obl (g = g) (.ok .skip [E6725d g c cl ep sl wd nx w_ bk fl cm er, Efb1cc b_2 (ctlEpoch w_) (ctlGen w_) (ctlBlock w_) (ctlLive w_) (ctlBusy w_)])) (dst := none) (.e 0) (by kernel_rfl) ?_
  refine sat_obl rfl ?_
  refine sat_skip ?_
  refine lz_node (l' := (mk 17 [0, 1, 2, 3, 4, 5, 6, 7, 8, 9, 10, 11, 12])) (V' := [1, 2, 4, 5, 6, 7, 11, 12]) (T1 := [(0, vP g), (4, vP b_2), (8, vP g), (9, vP g), (11, .pointer (some ⟨b_2, 2, none⟩)), (12, vI (ctlBlock w_)), (13, vP g), (14, .func (.func 107) #[vP g] #[]), (17, vP g), (18, .pointer (some ⟨g, 15, none⟩))]) (ps := [b_2 = b_2]) [11, 12] [(1, .h .w), (2, .h .w), (4, .h .w), (5, .h (.e 1)), (6, .h .w), (7, .h .w), (11, .h .w), (12, .h .w)] [0, 4, 8, 9, 11, 12, 13, 14, 17, 18] [13] (by kernel_rfl) ⟨rfl, trivial⟩ ⟨?_, trivial⟩
  refine lz_op (l' := (mk 17 [0, 1, 2, 3, 4, 5, 6, 7, 8, 9, 10, 11, 12, 13])) (V' := [2, 6, 7]) (so := .obl (g = g) (.ok .skip [E6725d g c cl ep sl wd nx w_ (ctlBlock w_) fl cm er, Efb1cc b_2 (ctlEpoch w_) (ctlGen w_) (ctlBlock w_) (ctlLive w_) (ctlBusy w_)])) (dst := none) (.e 0) (by kernel_rfl) ?_
  refine sat_obl rfl ?_
  refine sat_skip ?_
  refine lz_node (l' := (mk 17 [0, 1, 2, 3, 4, 5, 6, 7, 8, 9, 10, 11, 12, 13, 14, 15])) (V' := [2, 6, 7, 14, 15]) (T1 := [(0, vP g), (4, vP b_2), (9, vP g), (13, vP g), (14, .func (.func 107) #[vP g] #[]), (19, vP g), (20, .pointer (some ⟨g, 13, none⟩))]) (ps := []) [14, 15] [(2, .h .w), (6, .h .w), (7, .h .w), (14, .h .w), (15, .h .w)] [0, 4, 9, 13, 14, 19, 20] [16] (by kernel_rfl) trivial ⟨?_, trivial⟩
  refine lz_op (l' := (mk 17 [0, 1, 2, 3, 4, 5, 6, 7, 8, 9, 10, 11, 12, 13, 14, 15, 16])) (V' := []) (so := .obl (g = g) (.ok .skip [E6725d g c cl ep sl wd (.func (.func 107) #[vP g] #[]) w_ (ctlBlock w_) fl cm er, Efb1cc b_2 (ctlEpoch w_) (ctlGen w_) (ctlBlock w_) (ctlLive w_) (ctlBusy w_)])) (dst := none) (.e 0) (by kernel_rfl) ?_
  refine sat_obl rfl ?_
  refine sat_skip ?_
  refine lz_end (T1 := [(0, vP g), (4, vP b_2)]) (ps := []) [] [] [0, 4] (by kernel_rfl) trivial ?_
  refine go_exec (rs := []) (by kernel_rfl) 4000 [.z [0, 0, 1, 1] 0 [0, 4]] (o := .stop [.c [0, 0, 1, 1], .c [1, 0, 1, 1], .b 0] [(0, vP g), (4, vP b_2)] [E6725d g c cl ep sl wd (.func (.func 107) #[vP g] #[]) w_ (ctlBlock w_) fl cm er, Efb1cc b_2 (ctlEpoch w_) (ctlGen w_) (ctlBlock w_) (ctlLive w_) (ctlBusy w_)]) (by kernel_rfl) ?_
  refine ok_stop ?_
  refine go_quiet (tm' := [(0, vP g), (4, vP b_2), (21, .bool true)]) (ps := [b_2 = b_2, (!(ctlLive w_)) = false, b_2 = b_2, g = g, ((ctlEpoch w_) != ep) = true]) (cs := []) [(0, .h .w), (1, .h (.e 1)), (2, .h (.t false)), (3, .h .w), (4, .h .w), (5, .h (.e 1)), (6, .h .w), (7, .h .w), (8, .h .w), (9, .h (.e 0)), (10, .h (.t true)), (11, .h .w), (12, .h .w)] [0, 4, 21] (by kernel_rfl) (by kernel_rfl) ⟨rfl, (by simp [hl]), rfl, rfl, (bne_iff_ne.2 he), trivial⟩ trivial ?_
  refine go_exec (rs := []) (by kernel_rfl) 4000 [.z [0, 1, 0, 1, 1] 1 [34]] (o := .stop [.o [0, 1, 0, 1, 1] 1, .b 0] [(34, vP g)] [E6725d g c cl ep sl wd (.func (.func 107) #[vP g] #[]) w_ (ctlBlock w_) fl cm er, Efb1cc b_2 (ctlEpoch w_) (ctlGen w_) (ctlBlock w_) (ctlLive w_) (ctlBusy w_)]) (by kernel_rfl) ?_
  refine ok_stop ?_
  refine go_call (some 35) [0] Tryz.call108 (gEndE c g cl ep sl wd w_ (ctlBlock w_) fl cm (.func (.func 107) #[vP g] #[]) er 22 (by decide)) (by kernel_rfl) ?_
  rintro v post ⟨rfl, rfl⟩
  refine go_exec (rs := []) (by kernel_rfl) 4000 [] (o := .ret (undef) [Efb1cc b_2 (ctlEpoch w_) (ctlGen w_) (ctlBlock w_) (ctlLive w_) (ctlBusy w_), E6725d g c cl ep sl wd (.nilFunc) w_ 0 fl cm (.iface 61 (vI 22))]) (by kernel_rfl) ?_
  exact ret_ok (post := [E6725d g c cl ep sl wd (.nilFunc) w_ 0 fl cm (.iface 61 (vI 22))]) [1] (by kernel_rfl) ⟨rfl, (by kernel_rfl)⟩


theorem gLookE (c : Cfg) (g : Nat) (cl ep sl wd sn bk fl cm : Int) (nx er : Value) (w_ : Int) (hw : U64 w_) (hl : ctlLive w_ = true) (he : ctlEpoch w_ = ep) (hb : ctlBlock w_ = 0) :
    Ctr Tryz.prog 90 #[vP g, vU w_] [E6725d g c cl ep sl wd nx sn bk fl cm er] (Ret (undef) [E6725d g c cl ep sl wd (.nilFunc) w_ 0 fl cm (.iface 61 (vI 20))]) := by
  refine ctr_of (args := [vP g, vU w_]) (fn := Tryz.f90) (body := B90) (nt := 42) Tryz.func90 (by kernel_rfl) (by kernel_rfl) ?_
  intro F
  refine go_exec (rs := []) (by kernel_rfl) 4000 [.z [0] 1 [0, 1, 5]] (o := .stop [.o [0] 1, .c [1]] [(0, vP g), (1, vU w_), (5, vU w_)] [E6725d g c cl ep sl wd nx sn bk fl cm er]) (by kernel_rfl) ?_
  refine ok_stop ?_
  refine go_call (some 6) [] Tryz.call106 (ctl_Unpack w_ (by first | assumption | omega | (simp only [InK] at *; omega))) (by kernel_rfl) ?_
  rintro v post ⟨rfl, rfl⟩
  refine go_exec (rs := []) (by kernel_rfl) 4000 [.e 1, .z [0, 1] 0 [0, 1, 4]] (o := .new fun b_2 => .obl (b_2 = b_2) (.stop [.c [0, 1], .c [1, 1]] [(0, vP g), (1, vU w_), (4, vP b_2)] [E6725d g c cl ep sl wd nx sn bk fl cm er, Efb1cc b_2 (ctlEpoch w_) (ctlGen w_) (ctlBlock w_) (ctlLive w_) (ctlBusy w_)])) (by kernel_rfl) ?_
  refine ok_new fun b_2 => ?_
  refine ok_obl rfl ?_
  refine ok_stop ?_
  refine go_lz (by kernel_rfl) (by kernel_rfl) ?_
  refine lz_node (l' := (mk 17 [0, 1, 2, 3, 4, 5, 6, 7, 8, 9])) (V' := [0, 1, 2, 3, 4, 5, 6, 7, 8, 9]) (T1 := [(0, vP g), (1, vU w_), (4, vP b_2), (7, vP g), (8, vP g), (9, vP g), (10, vU w_), (11, .pointer (some ⟨b_2, 2, none⟩)), (12, vI (ctlBlock w_)), (13, vP g), (14, .func (.func 107) #[vP g] #[]), (15, vP g), (16, .pointer (some ⟨g, 14, none⟩))]) (ps := [b_2 = b_2]) [0, 1, 2, 3, 4, 5, 6, 7, 8, 9] [(0, .h .w), (1, .h .w), (2, .h .w), (3, .h .w), (4, .h .w), (5, .h (.e 1)), (6, .h .w), (7, .h .w), (8, .h .w), (9, .h .w)] [0, 1, 4, 7, 8, 9, 10, 11, 12, 13, 14, 15, 16] [10] (by kernel_rfl) ⟨rfl, trivial⟩ ⟨?_, trivial⟩
  refine lz_op (l' := (mk 17 [0, 1, 2, 3, 4, 5, 6, 7, 8, 9, 10])) (V' := [1, 2, 4, 5, 6, 7]) (so := .obl (g = g) (.ok .skip [E6725d g c cl ep sl wd nx w_ bk fl cm er, Efb1cc b_2 (ctlEpoch w_) (ctlGen w_) (ctlBlock w_) (ctlLive w_) (ctlBusy w_)])) (dst := none) (.e 0) (by kernel_rfl) ?_
  refine sat_obl rfl ?_
  refine sat_skip ?_
  refine lz_node (l' := (mk 17 [0, 1, 2, 3, 4, 5, 6, 7, 8, 9, 10, 11, 12])) (V' := [1, 2, 4, 5, 6, 7, 11, 12]) (T1 := [(0, vP g), (4, vP b_2), (8, vP g), (9, vP g), (11, .pointer (some ⟨b_2, 2, none⟩)), (12, vI (ctlBlock w_)), (13, vP g), (14, .func (.func 107) #[vP g] #[]), (17, vP g), (18, .pointer (some ⟨g, 15, none⟩))]) (ps := [b_2 = b_2]) [11, 12] [(1, .h .w), (2, .h .w), (4, .h .w), (5, .h (.e 1)), (6, .h .w), (7, .h .w), (11, .h .w), (12, .h .w)] [0, 4, 8, 9, 11, 12, 13, 14, 17, 18] [13] (by kernel_rfl) ⟨rfl, trivial⟩ ⟨?_, trivial⟩
  refine lz_op (l' := (mk 17 [0, 1, 2, 3, 4, 5, 6, 7, 8, 9, 10, 11, 12, 13])) (V' := [2, 6, 7]) (so := .obl (g = g) (.ok .skip [E6725d g c cl ep sl wd nx w_ (ctlBlock w_) fl cm er, Efb1cc b_2 (ctlEpoch w_) (ctlGen w_) (ctlBlock w_) (ctlLive w_) (ctlBusy w_)])) (dst := none) (.e 0) (by kernel_rfl) ?_
  refine sat_obl rfl ?_
  refine sat_skip ?_
  refine lz_node (l' := (mk 17 [0, 1, 2, 3, 4, 5, 6, 7, 8, 9, 10, 11, 12, 13, 14, 15])) (V' := [2, 6, 7, 14, 15]) (T1 := [(0, vP g), (4, vP b_2), (9, vP g), (13, vP g), (14, .func (.func 107) #[vP g] #[]), (19, vP g), (20, .pointer (some ⟨g, 13, none⟩))]) (ps := []) [14, 15] [(2, .h .w), (6, .h .w), (7, .h .w), (14, .h .w), (15, .h .w)] [0, 4, 9, 13, 14, 19, 20] [16] (by kernel_rfl) trivial ⟨?_, trivial⟩
  refine lz_op (l' := (mk 17 [0, 1, 2, 3, 4, 5, 6, 7, 8, 9, 10, 11, 12, 13, 14, 15, 16])) (V' := []) (so := .obl (g = g) (.ok .skip [E6725d g c cl ep sl wd (.func (.func 107) #[vP g] #[]) w_ (ctlBlock w_) fl cm er, Efb1cc b_2 (ctlEpoch w_) (ctlGen w_) (ctlBlock w_) (ctlLive w_) (ctlBusy w_)])) (dst := none) (.e 0) (by kernel_rfl) ?_
  refine sat_obl rfl ?_
  refine sat_skip ?_
  refine lz_end (T1 := [(0, vP g), (4, vP b_2)]) (ps := []) [] [] [0, 4] (by kernel_rfl) trivial ?_
  refine go_exec (rs := []) (by kernel_rfl) 4000 [.z [0, 0, 1, 1] 0 [0, 4]] (o := .stop [.c [0, 0, 1, 1], .c [1, 0, 1, 1], .b 0] [(0, vP g), (4, vP b_2)] [E6725d g c cl ep sl wd (.func (.func 107) #[vP g] #[]) w_ (ctlBlock w_) fl cm er, Efb1cc b_2 (ctlEpoch w_) (ctlGen w_) (ctlBlock w_) (ctlLive w_) (ctlBusy w_)]) (by kernel_rfl) ?_
  refine ok_stop ?_
  refine go_quiet (tm' := [(0, vP g), (4, vP b_2), (21, .bool false)]) (ps := [b_2 = b_2, (!(ctlLive w_)) = false, b_2 = b_2, g = g, ((ctlEpoch w_) != ep) = false]) (cs := []) [(0, .h .w), (1, .h (.e 1)), (2, .h (.t false)), (3, .h .w), (4, .h .w), (5, .h (.e 1)), (6, .h .w), (7, .h .w), (8, .h .w), (9, .h (.e 0)), (10, .h (.t false)), (11, .h .w), (12, .h .w)] [0, 4, 21] (by kernel_rfl) (by kernel_rfl) ⟨rfl, (by simp [hl]), rfl, rfl, (bne_eq_false_iff_eq.2 he), trivial⟩ trivial ?_
  refine go_exec (rs := []) (by kernel_rfl) 4000 [.e 1, .sp [36, 39] [.z q31_0 1 [40]] [.dead]] (o := .obl (b_2 = b_2) (.obl (((ctlBlock w_) == 0) = ((ctlBlock w_) == 0)) (.br ((ctlBlock w_) == 0) (.stop [.o q31_0 1, .b 0] [(40, vP g)] [E6725d g c cl ep sl wd (.func (.func 107) #[vP g] #[]) w_ (ctlBlock w_) fl cm er, Efb1cc b_2 (ctlEpoch w_) (ctlGen w_) (ctlBlock w_) (ctlLive w_) (ctlBusy w_)]) (.bad)))) (by kernel_rfl) ?_
  refine ok_obl rfl ?_
  refine ok_obl rfl ?_
  refine ok_br (fun _ => ?_) (fun h => absurd (show ((ctlBlock w_) == 0) = true from (beq_iff_eq.2 hb)) (by rw [h]; simp))
  refine ok_stop ?_
  refine go_call (some 41) [0] Tryz.call108 (gEndE c g cl ep sl wd w_ (ctlBlock w_) fl cm (.func (.func 107) #[vP g] #[]) er 20 (by decide)) (by kernel_rfl) ?_
  rintro v post ⟨rfl, rfl⟩
  refine go_exec (rs := []) (by kernel_rfl) 4000 [] (o := .ret (undef) [Efb1cc b_2 (ctlEpoch w_) (ctlGen w_) (ctlBlock w_) (ctlLive w_) (ctlBusy w_), E6725d g c cl ep sl wd (.nilFunc) w_ 0 fl cm (.iface 61 (vI 20))]) (by kernel_rfl) ?_
  exact ret_ok (post := [E6725d g c cl ep sl wd (.nilFunc) w_ 0 fl cm (.iface 61 (vI 20))]) [1] (by kernel_rfl) ⟨rfl, (by kernel_rfl)⟩


theorem gLookN (c : Cfg) (g : Nat) (cl ep sl wd sn bk fl cm : Int) (nx er : Value) (w_ : Int) (hw : U64 w_) (hl : ctlLive w_ = true) (he : ctlEpoch w_ = ep) (hb : ctlBlock w_ ≠ 0) :
    Ctr Tryz.prog 90 #[vP g, vU w_] [E6725d g c cl ep sl wd nx sn bk fl cm er] (Ret (undef) [E6725d g c cl ep sl wd (.func (.func 107) #[vP g] #[]) w_ (ctlBlock w_) fl cm er]) := by
  refine ctr_of (args := [vP g, vU w_]) (fn := Tryz.f90) (body := B90) (nt := 42) Tryz.func90 (by kernel_rfl) (by kernel_rfl) ?_
  intro F
  refine go_exec (rs := []) (by kernel_rfl) 4000 [.z [0] 1 [0, 1, 5]] (o := .stop [.o [0] 1, .c [1]] [(0, vP g), (1, vU w_), (5, vU w_)] [E6725d g c cl ep sl wd nx sn bk fl cm er]) (by kernel_rfl) ?_
  refine ok_stop ?_
  refine go_call (some 6) [] Tryz.call106 (ctl_Unpack w_ (by first | assumption | omega | (simp only [InK] at *; omega))) (by kernel_rfl) ?_
  rintro v post ⟨rfl, rfl⟩
  refine go_exec (rs := []) (by kernel_rfl) 4000 [.e 1, .z [0, 1] 0 [0, 1, 4]] (o := .new fun b_2 => .obl (b_2 = b_2) (.stop [.c [0, 1], .c [1, 1]] [(0, vP g), (1, vU w_), (4, vP b_2)] [E6725d g c cl ep sl wd nx sn bk fl cm er, Efb1cc b_2 (ctlEpoch w_) (ctlGen w_) (ctlBlock w_) (ctlLive w_) (ctlBusy w_)])) (by kernel_rfl) ?_
  refine ok_new fun b_2 => ?_
  refine ok_obl rfl ?_
  refine ok_stop ?_
  refine go_lz (by kernel_rfl) (by kernel_rfl) ?_
  refine lz_node (l' := (mk 17 [0, 1, 2, 3, 4, 5, 6, 7, 8, 9])) (V' := [0, 1, 2, 3, 4, 5, 6, 7, 8, 9]) (T1 := [(0, vP g), (1, vU w_), (4, vP b_2), (7, vP g), (8, vP g), (9, vP g), (10, vU w_), (11, .pointer (some ⟨b_2, 2, none⟩)), (12, vI (ctlBlock w_)), (13, vP g), (14, .func (.func 107) #[vP g] #[]), (15, vP g), (16, .pointer (some ⟨g, 14, none⟩))]) (ps := [b_2 = b_2]) [0, 1, 2, 3, 4, 5, 6, 7, 8, 9] [(0, .h .w), (1, .h .w), (2, .h .w), (3, .h .w), (4, .h .w), (5, .h (.e 1)), (6, .h .w), (7, .h .w), (8, .h .w), (9, .h .w)] [0, 1, 4, 7, 8, 9, 10, 11, 12, 13, 14, 15, 16] [10] (by kernel_rfl) ⟨rfl, trivial⟩ ⟨?_, trivial⟩
  refine lz_op (l' := (mk 17 [0, 1, 2, 3, 4, 5, 6, 7, 8, 9, 10])) (V' := [1, 2, 4, 5, 6, 7]) (so := .obl (g = g) (.ok .skip [E6725d g c cl ep sl wd nx w_ bk fl cm er, Efb1cc b_2 (ctlEpoch w_) (ctlGen w_) (ctlBlock w_) (ctlLive w_) (ctlBusy w_)])) (dst := none) (.e 0) (by kernel_rfl) ?_
  refine sat_obl rfl ?_
  refine sat_skip ?_
  refine lz_node (l' := (mk 17 [0, 1, 2, 3, 4, 5, 6, 7, 8, 9, 10, 11, 12])) (V' := [1, 2, 4, 5, 6, 7, 11, 12]) (T1 := [(0, vP g), (4, vP b_2), (8, vP g), (9, vP g), (11, .pointer (some ⟨b_2, 2, none⟩)), (12, vI (ctlBlock w_)), (13, vP g), (14, .func (.func 107) #[vP g] #[]), (17, vP g), (18, .pointer (some ⟨g, 15, none⟩))]) (ps := [b_2 = b_2]) [11, 12] [(1, .h .w), (2, .h .w), (4, .h .w), (5, .h (.e 1)), (6, .h .w), (7, .h .w), (11, .h .w), (12, .h .w)] [0, 4, 8, 9, 11, 12, 13, 14, 17, 18] [13] (by kernel_rfl) ⟨rfl, trivial⟩ ⟨?_, trivial⟩
  refine lz_op (l' := (mk 17 [0, 1, 2, 3, 4, 5, 6, 7, 8, 9, 10, 11, 12, 13])) (V' := [2, 6, 7]) (so := .obl (g = g) (.ok .skip [E6725d g c cl ep sl wd nx w_ (ctlBlock w_) fl cm er, Efb1cc b_2 (ctlEpoch w_) (ctlGen w_) (ctlBlock w_) (ctlLive w_) (ctlBusy w_)])) (dst := none) (.e 0) (by kernel_rfl) ?_
  refine sat_obl rfl ?_
  refine sat_skip ?_
  refine lz_node (l' := (mk 17 [0, 1, 2, 3, 4, 5, 6, 7, 8, 9, 10, 11, 12, 13, 14, 15])) (V' := [2, 6, 7, 14, 15]) (T1 := [(0, vP g), (4, vP b_2), (9, vP g), (13, vP g), (14, .func (.func 107) #[vP g] #[]), (19, vP g), (20, .pointer (some ⟨g, 13, none⟩))]) (ps := []) [14, 15] [(2, .h .w), (6, .h .w), (7, .h .w), (14, .h .w), (15, .h .w)] [0, 4, 9, 13, 14, 19, 20] [16] (by kernel_rfl) trivial ⟨?_, trivial⟩
  refine lz_op (l' := (mk 17 [0, 1, 2, 3, 4, 5, 6, 7, 8, 9, 10, 11, 12, 13, 14, 15, 16])) (V' := []) (so := .obl (g = g) (.ok .skip [E6725d g c cl ep sl wd (.func (.func 107) #[vP g] #[]) w_ (ctlBlock w_) fl cm er, Efb1cc b_2 (ctlEpoch w_) (ctlGen w_) (ctlBlock w_) (ctlLive w_) (ctlBusy w_)])) (dst := none) (.e 0) (by kernel_rfl) ?_
  refine sat_obl rfl ?_
  refine sat_skip ?_
  refine lz_end (T1 := [(0, vP g), (4, vP b_2)]) (ps := []) [] [] [0, 4] (by kernel_rfl) trivial ?_
  refine go_exec (rs := []) (by kernel_rfl) 4000 [.z [0, 0, 1, 1] 0 [0, 4]] (o := .stop [.c [0, 0, 1, 1], .c [1, 0, 1, 1], .b 0] [(0, vP g), (4, vP b_2)] [E6725d g c cl ep sl wd (.func (.func 107) #[vP g] #[]) w_ (ctlBlock w_) fl cm er, Efb1cc b_2 (ctlEpoch w_) (ctlGen w_) (ctlBlock w_) (ctlLive w_) (ctlBusy w_)]) (by kernel_rfl) ?_
  refine ok_stop ?_
  refine go_quiet (tm' := [(0, vP g), (4, vP b_2), (21, .bool false)]) (ps := [b_2 = b_2, (!(ctlLive w_)) = false, b_2 = b_2, g = g, ((ctlEpoch w_) != ep) = false]) (cs := []) [(0, .h .w), (1, .h (.e 1)), (2, .h (.t false)), (3, .h .w), (4, .h .w), (5, .h (.e 1)), (6, .h .w), (7, .h .w), (8, .h .w), (9, .h (.e 0)), (10, .h (.t false)), (11, .h .w), (12, .h .w)] [0, 4, 21] (by kernel_rfl) (by kernel_rfl) ⟨rfl, (by simp [hl]), rfl, rfl, (bne_eq_false_iff_eq.2 he), trivial⟩ trivial ?_
  refine go_exec (rs := []) (by kernel_rfl) 4000 [.e 1, .sp [36, 39] [.dead] []] (o := .obl (b_2 = b_2) (.obl (((ctlBlock w_) == 0) = ((ctlBlock w_) == 0)) (.br ((ctlBlock w_) == 0) (.bad) (.ret (undef) [E6725d g c cl ep sl wd (.func (.func 107) #[vP g] #[]) w_ (ctlBlock w_) fl cm er, Efb1cc b_2 (ctlEpoch w_) (ctlGen w_) (ctlBlock w_) (ctlLive w_) (ctlBusy w_)])))) (by kernel_rfl) ?_
  refine ok_obl rfl ?_
  refine ok_obl rfl ?_
  refine ok_br (fun h => absurd (show ((ctlBlock w_) == 0) = false from (beq_eq_false_iff_ne.2 hb)) (by rw [h]; simp)) (fun _ => ?_)
  exact ret_ok (post := [E6725d g c cl ep sl wd (.func (.func 107) #[vP g] #[]) w_ (ctlBlock w_) fl cm er]) [0] (by kernel_rfl) ⟨rfl, (by kernel_rfl)⟩

noncomputable def B91 : Code := (Tryz.f91.body).getD .skip

theorem gLoad (c : Cfg) (g ba : Nat) (cl ep sl wd sn bk fl cm : Int) (nx er : Value) (A : Ar) (hn : A.ws.length = A.n) (hs : 0 ≤ A.steps ∧ A.steps ≤ 1000000000) (hwd : 0 ≤ wd ∧ wd < A.n) :
    Ctr Tryz.prog 91 #[vP g, vP ba] [E6725d g c cl ep sl wd nx sn bk fl cm er, E21626 ba A, E671ef A] (Ret (vU (A.ws.getD wd.toNat 0)) [E6725d g c cl ep sl wd nx sn bk fl ((A.load wd).steps) er, E21626 ba (A.load wd), E671ef (A.load wd)]) := by
  refine ctr_of (args := [vP g, vP ba]) (fn := Tryz.f91) (body := B91) (nt := 18) Tryz.func91 (by kernel_rfl) (by kernel_rfl) ?_
  intro F
  refine go_exec (rs := [.tmp 4]) (by kernel_rfl) 4000 [.e 0, .z [0, 1] 5 [0, 1, 6, 10]] (o := .obl (g = g) (.stop [.o [0, 1] 5, .c [1, 1]] [(0, vP g), (1, vP ba), (6, vP ba), (10, vI wd)] [E6725d g c cl ep sl wd nx sn bk fl cm er, E21626 ba A, E671ef A])) (by kernel_rfl) ?_
  refine ok_obl rfl ?_
  refine ok_stop ?_
  refine go_call (some 11) [1, 2] Tryz.call76 (arena_Load ba A wd (by first | assumption | omega | (simp only [InK] at *; omega)) hwd (by first | assumption | omega | (simp only [InK] at *; omega))) (by kernel_rfl) ?_
  rintro v post ⟨rfl, rfl⟩
  refine go_exec (rs := [.tmp 4]) (by kernel_rfl) 4000 [.z [0, 1, 1] 2 [5, 12, 13]] (o := .stop [.o [0, 1, 1] 2, .c [1, 1, 1]] [(5, vU (A.ws.getD wd.toNat 0)), (12, vP g), (13, vP ba)] [E6725d g c cl ep sl wd nx sn bk fl cm er, E21626 ba (A.load wd), E671ef (A.load wd)]) (by kernel_rfl) ?_
  refine ok_stop ?_
  refine go_call (some 14) [1, 2] Tryz.call21 (arena_Steps ba (A.load wd)) (by kernel_rfl) ?_
  rintro v post ⟨rfl, rfl⟩
  refine go_exec (rs := [.tmp 4]) (by kernel_rfl) 4000 [.e 0] (o := .obl (g = g) (.ret (vU (A.ws.getD wd.toNat 0)) [E6725d g c cl ep sl wd nx sn bk fl ((A.load wd).steps) er, E21626 ba (A.load wd), E671ef (A.load wd)])) (by kernel_rfl) ?_
  refine ok_obl rfl ?_
  exact ret_ok (post := [E6725d g c cl ep sl wd nx sn bk fl ((A.load wd).steps) er, E21626 ba (A.load wd), E671ef (A.load wd)]) [0, 1, 2] (by kernel_rfl) ⟨rfl, (by kernel_rfl)⟩

noncomputable def B58 : Code := (Tryz.f58.body).getD .skip

theorem gFirstD (c : Cfg) (g ba : Nat) (cl ep sl wd sn bk fl cm : Int) (nx er : Value) (A : Ar) (hn : A.ws.length = A.n) (hs : 0 ≤ A.steps ∧ A.steps ≤ 1000000000) (hwd : 0 ≤ wd ∧ wd < A.n) (hw : U64 (A.ws.getD wd.toNat 0)) (hl : ctlLive (A.ws.getD wd.toNat 0) = false) :
    Ctr Tryz.prog 58 #[vP g, vP ba] [E6725d g c cl ep sl wd nx sn bk fl cm er, E21626 ba A, E671ef A] (Ret (undef) [E6725d g c cl ep sl wd (.nilFunc) (A.ws.getD wd.toNat 0) 0 fl ((A.load wd).steps) (.iface 61 (vI 22)), E21626 ba (A.load wd), E671ef (A.load wd)]) := by
  refine ctr_of (args := [vP g, vP ba]) (fn := Tryz.f58) (body := B58) (nt := 9) Tryz.func58 (by kernel_rfl) (by kernel_rfl) ?_
  intro F
  refine go_exec (rs := []) (by kernel_rfl) 4000 [.z [] 3 [4, 5, 6]] (o := .stop [.o [] 3] [(4, vP g), (5, vP g), (6, vP ba)] [E6725d g c cl ep sl wd nx sn bk fl cm er, E21626 ba A, E671ef A]) (by kernel_rfl) ?_
  refine ok_stop ?_
  refine go_call (some 7) [0, 1, 2] Tryz.call91 (gLoad c g ba cl ep sl wd sn bk fl cm nx er A (by first | assumption | omega | (simp only [InK] at *; omega)) (by first | assumption | omega | (simp only [InK] at *; omega)) (by first | assumption | omega | (simp only [InK] at *; omega))) (by kernel_rfl) ?_
  rintro v post ⟨rfl, rfl⟩
  refine go_call (some 8) [0] Tryz.call90 (gLookD c g cl ep sl wd sn bk fl ((A.load wd).steps) nx er (A.ws.getD wd.toNat 0) (by first | assumption | omega | (simp only [InK] at *; omega)) (by first | assumption | omega | (simp only [InK] at *; omega))) (by kernel_rfl) ?_
  rintro v post ⟨rfl, rfl⟩
  refine go_exec (rs := []) (by kernel_rfl) 4000 [] (o := .ret (undef) [E21626 ba (A.load wd), E671ef (A.load wd), E6725d g c cl ep sl wd (.nilFunc) (A.ws.getD wd.toNat 0) 0 fl ((A.load wd).steps) (.iface 61 (vI 22))]) (by kernel_rfl) ?_
  exact ret_ok (post := [E6725d g c cl ep sl wd (.nilFunc) (A.ws.getD wd.toNat 0) 0 fl ((A.load wd).steps) (.iface 61 (vI 22)), E21626 ba (A.load wd), E671ef (A.load wd)]) [2, 0, 1] (by kernel_rfl) ⟨rfl, (by kernel_rfl)⟩


theorem gFirstP (c : Cfg) (g ba : Nat) (cl ep sl wd sn bk fl cm : Int) (nx er : Value) (A : Ar) (hn : A.ws.length = A.n) (hs : 0 ≤ A.steps ∧ A.steps ≤ 1000000000) (hwd : 0 ≤ wd ∧ wd < A.n) (hw : U64 (A.ws.getD wd.toNat 0)) (hl : ctlLive (A.ws.getD wd.toNat 0) = true) (he : ctlEpoch (A.ws.getD wd.toNat 0) ≠ ep) :
    Ctr Tryz.prog 58 #[vP g, vP ba] [E6725d g c cl ep sl wd nx sn bk fl cm er, E21626 ba A, E671ef A] (Ret (undef) [E6725d g c cl ep sl wd (.nilFunc) (A.ws.getD wd.toNat 0) 0 fl ((A.load wd).steps) (.iface 61 (vI 22)), E21626 ba (A.load wd), E671ef (A.load wd)]) := by
  refine ctr_of (args := [vP g, vP ba]) (fn := Tryz.f58) (body := B58) (nt := 9) Tryz.func58 (by kernel_rfl) (by kernel_rfl) ?_
  intro F
  refine go_exec (rs := []) (by kernel_rfl) 4000 [.z [] 3 [4, 5, 6]] (o := .stop [.o [] 3] [(4, vP g), (5, vP g), (6, vP ba)] [E6725d g c cl ep sl wd nx sn bk fl cm er, E21626 ba A, E671ef A]) (by kernel_rfl) ?_
  refine ok_stop ?_
  refine go_call (some 7) [0, 1, 2] Tryz.call91 (gLoad c g ba cl ep sl wd sn bk fl cm nx er A (by first | assumption | omega | (simp only [InK] at *; omega)) (by first | assumption | omega | (simp only [InK] at *; omega)) (by first | assumption | omega | (simp only [InK] at *; omega))) (by kernel_rfl) ?_
  rintro v post ⟨rfl, rfl⟩
  refine go_call (some 8) [0] Tryz.call90 (gLookP c g cl ep sl wd sn bk fl ((A.load wd).steps) nx er (A.ws.getD wd.toNat 0) (by first | assumption | omega | (simp only [InK] at *; omega)) (by first | assumption | omega | (simp only [InK] at *; omega)) (by first | assumption | omega | (simp only [InK] at *; omega))) (by kernel_rfl) ?_
  rintro v post ⟨rfl, rfl⟩
  refine go_exec (rs := []) (by kernel_rfl) 4000 [] (o := .ret (undef) [E21626 ba (A.load wd), E671ef (A.load wd), E6725d g c cl ep sl wd (.nilFunc) (A.ws.getD wd.toNat 0) 0 fl ((A.load wd).steps) (.iface 61 (vI 22))]) (by kernel_rfl) ?_
  exact ret_ok (post := [E6725d g c cl ep sl wd (.nilFunc) (A.ws.getD wd.toNat 0) 0 fl ((A.load wd).steps) (.iface 61 (vI 22)), E21626 ba (A.load wd), E671ef (A.load wd)]) [2, 0, 1] (by kernel_rfl) ⟨rfl, (by kernel_rfl)⟩


theorem gFirstE (c : Cfg) (g ba : Nat) (cl ep sl wd sn bk fl cm : Int) (nx er : Value) (A : Ar) (hn : A.ws.length = A.n) (hs : 0 ≤ A.steps ∧ A.steps ≤ 1000000000) (hwd : 0 ≤ wd ∧ wd < A.n) (hw : U64 (A.ws.getD wd.toNat 0)) (hl : ctlLive (A.ws.getD wd.toNat 0) = true) (he : ctlEpoch (A.ws.getD wd.toNat 0) = ep) (hb : ctlBlock (A.ws.getD wd.toNat 0) = 0) :
    Ctr Tryz.prog 58 #[vP g, vP ba] [E6725d g c cl ep sl wd nx sn bk fl cm er, E21626 ba A, E671ef A] (Ret (undef) [E6725d g c cl ep sl wd (.nilFunc) (A.ws.getD wd.toNat 0) 0 fl ((A.load wd).steps) (.iface 61 (vI 20)), E21626 ba (A.load wd), E671ef (A.load wd)]) := by
  refine ctr_of (args := [vP g, vP ba]) (fn := Tryz.f58) (body := B58) (nt := 9) Tryz.func58 (by kernel_rfl) (by kernel_rfl) ?_
  intro F
  refine go_exec (rs := []) (by kernel_rfl) 4000 [.z [] 3 [4, 5, 6]] (o := .stop [.o [] 3] [(4, vP g), (5, vP g), (6, vP ba)] [E6725d g c cl ep sl wd nx sn bk fl cm er, E21626 ba A, E671ef A]) (by kernel_rfl) ?_
  refine ok_stop ?_
  refine go_call (some 7) [0, 1, 2] Tryz.call91 (gLoad c g ba cl ep sl wd sn bk fl cm nx er A (by first | assumption | omega | (simp only [InK] at *; omega)) (by first | assumption | omega | (simp only [InK] at *; omega)) (by first | assumption | omega | (simp only [InK] at *; omega))) (by kernel_rfl) ?_
  rintro v post ⟨rfl, rfl⟩
  refine go_call (some 8) [0] Tryz.call90 (gLookE c g cl ep sl wd sn bk fl ((A.load wd).steps) nx er (A.ws.getD wd.toNat 0) (by first | assumption | omega | (simp only [InK] at *; omega)) (by first | assumption | omega | (simp only [InK] at *; omega)) (by first | assumption | omega | (simp only [InK] at *; omega)) (by first | assumption | omega | (simp only [InK] at *; omega))) (by kernel_rfl) ?_
  rintro v post ⟨rfl, rfl⟩
  refine go_exec (rs := []) (by kernel_rfl) 4000 [] (o := .ret (undef) [E21626 ba (A.load wd), E671ef (A.load wd), E6725d g c cl ep sl wd (.nilFunc) (A.ws.getD wd.toNat 0) 0 fl ((A.load wd).steps) (.iface 61 (vI 20))]) (by kernel_rfl) ?_
  exact ret_ok (post := [E6725d g c cl ep sl wd (.nilFunc) (A.ws.getD wd.toNat 0) 0 fl ((A.load wd).steps) (.iface 61 (vI 20)), E21626 ba (A.load wd), E671ef (A.load wd)]) [2, 0, 1] (by kernel_rfl) ⟨rfl, (by kernel_rfl)⟩


theorem gFirstN (c : Cfg) (g ba : Nat) (cl ep sl wd sn bk fl cm : Int) (nx er : Value) (A : Ar) (hn : A.ws.length = A.n) (hs : 0 ≤ A.steps ∧ A.steps ≤ 1000000000) (hwd : 0 ≤ wd ∧ wd < A.n) (hw : U64 (A.ws.getD wd.toNat 0)) (hl : ctlLive (A.ws.getD wd.toNat 0) = true) (he : ctlEpoch (A.ws.getD wd.toNat 0) = ep) (hb : ctlBlock (A.ws.getD wd.toNat 0) ≠ 0) :
    Ctr Tryz.prog 58 #[vP g, vP ba] [E6725d g c cl ep sl wd nx sn bk fl cm er, E21626 ba A, E671ef A] (Ret (undef) [E6725d g c cl ep sl wd (.func (.func 107) #[vP g] #[]) (A.ws.getD wd.toNat 0) (ctlBlock (A.ws.getD wd.toNat 0)) fl ((A.load wd).steps) er, E21626 ba (A.load wd), E671ef (A.load wd)]) := by
  refine ctr_of (args := [vP g, vP ba]) (fn := Tryz.f58) (body := B58) (nt := 9) Tryz.func58 (by kernel_rfl) (by kernel_rfl) ?_
  intro F
  refine go_exec (rs := []) (by kernel_rfl) 4000 [.z [] 3 [4, 5, 6]] (o := .stop [.o [] 3] [(4, vP g), (5, vP g), (6, vP ba)] [E6725d g c cl ep sl wd nx sn bk fl cm er, E21626 ba A, E671ef A]) (by kernel_rfl) ?_
  refine ok_stop ?_
  refine go_call (some 7) [0, 1, 2] Tryz.call91 (gLoad c g ba cl ep sl wd sn bk fl cm nx er A (by first | assumption | omega | (simp only [InK] at *; omega)) (by first | assumption | omega | (simp only [InK] at *; omega)) (by first | assumption | omega | (simp only [InK] at *; omega))) (by kernel_rfl) ?_
  rintro v post ⟨rfl, rfl⟩
  refine go_call (some 8) [0] Tryz.call90 (gLookN c g cl ep sl wd sn bk fl ((A.load wd).steps) nx er (A.ws.getD wd.toNat 0) (by first | assumption | omega | (simp only [InK] at *; omega)) (by first | assumption | omega | (simp only [InK] at *; omega)) (by first | assumption | omega | (simp only [InK] at *; omega)) (by first | assumption | omega | (simp only [InK] at *; omega))) (by kernel_rfl) ?_
  rintro v post ⟨rfl, rfl⟩
  refine go_exec (rs := []) (by kernel_rfl) 4000 [] (o := .ret (undef) [E21626 ba (A.load wd), E671ef (A.load wd), E6725d g c cl ep sl wd (.func (.func 107) #[vP g] #[]) (A.ws.getD wd.toNat 0) (ctlBlock (A.ws.getD wd.toNat 0)) fl ((A.load wd).steps) er]) (by kernel_rfl) ?_
  exact ret_ok (post := [E6725d g c cl ep sl wd (.func (.func 107) #[vP g] #[]) (A.ws.getD wd.toNat 0) (ctlBlock (A.ws.getD wd.toNat 0)) fl ((A.load wd).steps) er, E21626 ba (A.load wd), E671ef (A.load wd)]) [2, 0, 1] (by kernel_rfl) ⟨rfl, (by kernel_rfl)⟩

noncomputable def B107 : Code := (Tryz.f107.body).getD .skip

theorem gSecond (c : Cfg) (g ba : Nat) (cl ep sl wd sn bk fl cm : Int) (nx er : Value) (A : Ar) (hn : A.ws.length = A.n) (hs : 0 ≤ A.steps ∧ A.steps ≤ 1000000000) (hsl : 0 ≤ sl ∧ sl < A.n) (hcl : 0 ≤ cl ∧ cl ≤ 1000) (hbk : 0 ≤ bk ∧ bk ≤ 65535) :
    Ctr Tryz.prog 107 #[vP g, vP ba] [E6725d g c cl ep sl wd nx sn bk fl cm er, E21626 ba A, E671ef A] (Ret (undef) [E6725d g c cl ep sl wd (.func (.func 117) #[vP g] #[]) sn bk fl cm er, E21626 ba (A.store sl (markW cl bk)), E671ef (A.store sl (markW cl bk))]) := by
  refine ctr_of (args := [vP g, vP ba]) (fn := Tryz.f107) (body := B107) (nt := 24) Tryz.func107 (by kernel_rfl) (by kernel_rfl) ?_
  intro F
  refine go_exec (rs := []) (by kernel_rfl) 4000 [.z [0] 0 [0, 1]] (o := .stop [.c [0], .c [1]] [(0, vP g), (1, vP ba)] [E6725d g c cl ep sl wd nx sn bk fl cm er, E21626 ba A, E671ef A]) (by kernel_rfl) ?_
  refine ok_stop ?_
  refine go_tail_call (dst := (some 18)) (ps := [g = g, g = g, g = g]) (cs := [(116, #[vI cl, vI bk], vU (markW cl bk))]) [(0, .h .w), (1, .h .w), (2, .h .w), (3, .h .w), (4, .h (.e 0)), (5, .h .w), (6, .h .w), (7, .h .w), (8, .h (.e 0)), (9, .h .w), (10, .h .w), (11, .h .w), (12, .h (.e 0)), (13, .q (vU (markW cl bk)))] 14 [] [1, 2] [0] (by kernel_rfl) Tryz.call9 (arena_Store ba A sl (markW cl bk) (by first | assumption | omega | (simp only [InK] at *; omega)) hsl (by first | assumption | omega | (simp only [InK] at *; omega))) (by kernel_rfl) ⟨rfl, rfl, rfl, trivial⟩ ⟨⟨Tryz.call116, quiet_of [] (slots_Mark cl bk (by omega) (by omega)) (by kernel_rfl) (by rintro v post ⟨rfl, rfl⟩; exact ⟨rfl, rfl⟩)⟩, trivial⟩ ?_
  rintro v post ⟨rfl, rfl⟩
  refine tail_next (tm' := [(0, vP g)]) (ps2 := []) (by kernel_rfl) trivial ?_
  refine go_exec (rs := []) (by kernel_rfl) 4000 [.e 0] (o := .obl (g = g) (.ret (undef) [E6725d g c cl ep sl wd (.func (.func 117) #[vP g] #[]) sn bk fl cm er, E21626 ba (A.store sl (markW cl bk)), E671ef (A.store sl (markW cl bk))])) (by kernel_rfl) ?_
  refine ok_obl rfl ?_
  exact ret_ok (post := [E6725d g c cl ep sl wd (.func (.func 117) #[vP g] #[]) sn bk fl cm er, E21626 ba (A.store sl (markW cl bk)), E671ef (A.store sl (markW cl bk))]) [0, 1, 2] (by kernel_rfl) ⟨rfl, (by kernel_rfl)⟩

noncomputable def B117 : Code := (Tryz.f117.body).getD .skip

theorem gThirdK (c : Cfg) (g ba : Nat) (cl ep sl wd sn bk fl cm : Int) (nx er : Value) (A : Ar) (hn : A.ws.length = A.n) (hs : 0 ≤ A.steps ∧ A.steps ≤ 1000000000) (hwd : 0 ≤ wd ∧ wd < A.n) (hw : U64 (A.ws.getD wd.toNat 0)) (hf0 : 0 ≤ fl ∧ fl ≤ 1000) (hq : (A.ws.getD wd.toNat 0) = sn) :
    Ctr Tryz.prog 117 #[vP g, vP ba] [E6725d g c cl ep sl wd nx sn bk fl cm er, E21626 ba A, E671ef A] (Ret (undef) [E0836a g c cl ep sl wd (.nilFunc) sn bk fl ((A.load wd).steps), E21626 ba (A.load wd), E671ef (A.load wd)]) := by
  refine ctr_of (args := [vP g, vP ba]) (fn := Tryz.f117) (body := B117) (nt := 38) Tryz.func117 (by kernel_rfl) (by kernel_rfl) ?_
  intro F
  refine go_exec (rs := []) (by kernel_rfl) 4000 [.z [0] 2 [0, 5, 6]] (o := .stop [.o [0] 2, .c [1]] [(0, vP g), (5, vP g), (6, vP ba)] [E6725d g c cl ep sl wd nx sn bk fl cm er, E21626 ba A, E671ef A]) (by kernel_rfl) ?_
  refine ok_stop ?_
  refine go_call (some 7) [0, 1, 2] Tryz.call91 (gLoad c g ba cl ep sl wd sn bk fl cm nx er A (by first | assumption | omega | (simp only [InK] at *; omega)) (by first | assumption | omega | (simp only [InK] at *; omega)) (by first | assumption | omega | (simp only [InK] at *; omega))) (by kernel_rfl) ?_
  rintro v post ⟨rfl, rfl⟩
  refine go_exec (rs := []) (by kernel_rfl) 4000 [.e 0, .sp [13] [.z [0, 0, 1, 0, 1] 1 [14]] [.dead]] (o := .obl (g = g) (.br ((A.ws.getD wd.toNat 0) == sn) (.stop [.o [0, 0, 1, 0, 1] 1, .c [1, 0, 1, 0, 1], .c [1, 1]] [(14, vP g)] [E6725d g c cl ep sl wd nx sn bk fl ((A.load wd).steps) er, E21626 ba (A.load wd), E671ef (A.load wd)]) (.bad))) (by kernel_rfl) ?_
  refine ok_obl rfl ?_
  refine ok_br (fun _ => ?_) (fun h => absurd (show ((A.ws.getD wd.toNat 0) == sn) = true from (beq_iff_eq.2 hq)) (by rw [h]; simp))
  refine ok_stop ?_
  refine go_call (some 15) [0] Tryz.call108 (gEnd0 c g cl ep sl wd sn bk fl ((A.load wd).steps) nx er) (by kernel_rfl) ?_
  rintro v post ⟨rfl, rfl⟩
  refine go_exec (rs := []) (by kernel_rfl) 4000 [] (o := .ret (undef) [E21626 ba (A.load wd), E671ef (A.load wd), E0836a g c cl ep sl wd (.nilFunc) sn bk fl ((A.load wd).steps)]) (by kernel_rfl) ?_
  exact ret_ok (post := [E0836a g c cl ep sl wd (.nilFunc) sn bk fl ((A.load wd).steps), E21626 ba (A.load wd), E671ef (A.load wd)]) [2, 0, 1] (by kernel_rfl) ⟨rfl, (by kernel_rfl)⟩


theorem gThirdR (c : Cfg) (g ba : Nat) (cl ep sl wd sn bk fl cm : Int) (nx er : Value) (A : Ar) (hn : A.ws.length = A.n) (hs : 0 ≤ A.steps ∧ A.steps ≤ 1000000000) (hwd : 0 ≤ wd ∧ wd < A.n) (hw : U64 (A.ws.getD wd.toNat 0)) (hf0 : 0 ≤ fl ∧ fl ≤ 1000) (hq : (A.ws.getD wd.toNat 0) ≠ sn) (hr : fl + 1 = c.retry) :
    Ctr Tryz.prog 117 #[vP g, vP ba] [E6725d g c cl ep sl wd nx sn bk fl cm er, E21626 ba A, E671ef A] (Ret (undef) [E6725d g c cl ep sl wd (.nilFunc) sn 0 (fl + 1) ((A.load wd).steps) (.iface 61 (vI 17)), E21626 ba (A.load wd), E671ef (A.load wd)]) := by
  refine ctr_of (args := [vP g, vP ba]) (fn := Tryz.f117) (body := B117) (nt := 38) Tryz.func117 (by kernel_rfl) (by kernel_rfl) ?_
  intro F
  refine go_exec (rs := []) (by kernel_rfl) 4000 [.z [0] 2 [0, 5, 6]] (o := .stop [.o [0] 2, .c [1]] [(0, vP g), (5, vP g), (6, vP ba)] [E6725d g c cl ep sl wd nx sn bk fl cm er, E21626 ba A, E671ef A]) (by kernel_rfl) ?_
  refine ok_stop ?_
  refine go_call (some 7) [0, 1, 2] Tryz.call91 (gLoad c g ba cl ep sl wd sn bk fl cm nx er A (by first | assumption | omega | (simp only [InK] at *; omega)) (by first | assumption | omega | (simp only [InK] at *; omega)) (by first | assumption | omega | (simp only [InK] at *; omega))) (by kernel_rfl) ?_
  rintro v post ⟨rfl, rfl⟩
  refine go_exec (rs := []) (by kernel_rfl) 4000 [.e 0, .sp [13] [.dead] [.e 0, .n, .e 0, .z [0, 0, 1, 1, 1] 0 [0, 4]]] (o := .obl (g = g) (.br ((A.ws.getD wd.toNat 0) == sn) (.bad) (.obl (g = g) (.obl (InK .i64 (fl + 1)) (.obl (g = g) (.stop [.c [0, 0, 1, 1, 1], .c [1, 0, 1, 1, 1], .c [1, 1, 1, 1]] [(0, vP g), (4, vU (A.ws.getD wd.toNat 0))] [E6725d g c cl ep sl wd nx sn bk (fl + 1) ((A.load wd).steps) er, E21626 ba (A.load wd), E671ef (A.load wd)])))))) (by kernel_rfl) ?_
  refine ok_obl rfl ?_
  refine ok_br (fun h => absurd (show ((A.ws.getD wd.toNat 0) == sn) = false from (beq_eq_false_iff_ne.2 hq)) (by rw [h]; simp)) (fun _ => ?_)
  refine ok_obl rfl ?_
  refine ok_obl (by simp only [InK]; omega) ?_
  refine ok_obl rfl ?_
  refine ok_stop ?_
  refine go_quiet (tm' := [(0, vP g), (4, vU (A.ws.getD wd.toNat 0)), (32, .bool true)]) (ps := [g = g, g = g, ((fl + 1) == c.retry) = true]) (cs := []) [(0, .h .w), (1, .h .w), (2, .h .w), (3, .h (.e 0)), (4, .h .w), (5, .h .w), (6, .h .w), (7, .h .w), (8, .h (.e 0)), (9, .h (.t true))] [0, 4, 32] (by kernel_rfl) (by kernel_rfl) ⟨rfl, rfl, (beq_iff_eq.2 hr), trivial⟩ trivial ?_
  refine go_exec (rs := []) (by kernel_rfl) 4000 [.z q31_1 1 [33]] (o := .stop [.o q31_1 1, .c [1, 0, 1, 0, 1, 1, 1], .c [1, 1, 1, 1]] [(33, vP g)] [E6725d g c cl ep sl wd nx sn bk (fl + 1) ((A.load wd).steps) er, E21626 ba (A.load wd), E671ef (A.load wd)]) (by kernel_rfl) ?_
  refine ok_stop ?_
  refine go_call (some 34) [0] Tryz.call108 (gEndE c g cl ep sl wd sn bk (fl + 1) ((A.load wd).steps) nx er 17 (by decide)) (by kernel_rfl) ?_
  rintro v post ⟨rfl, rfl⟩
  refine go_exec (rs := []) (by kernel_rfl) 4000 [] (o := .ret (undef) [E21626 ba (A.load wd), E671ef (A.load wd), E6725d g c cl ep sl wd (.nilFunc) sn 0 (fl + 1) ((A.load wd).steps) (.iface 61 (vI 17))]) (by kernel_rfl) ?_
  exact ret_ok (post := [E6725d g c cl ep sl wd (.nilFunc) sn 0 (fl + 1) ((A.load wd).steps) (.iface 61 (vI 17)), E21626 ba (A.load wd), E671ef (A.load wd)]) [2, 0, 1] (by kernel_rfl) ⟨rfl, (by kernel_rfl)⟩


theorem gThirdD (c : Cfg) (g ba : Nat) (cl ep sl wd sn bk fl cm : Int) (nx er : Value) (A : Ar) (hn : A.ws.length = A.n) (hs : 0 ≤ A.steps ∧ A.steps ≤ 1000000000) (hwd : 0 ≤ wd ∧ wd < A.n) (hw : U64 (A.ws.getD wd.toNat 0)) (hf0 : 0 ≤ fl ∧ fl ≤ 1000) (hq : (A.ws.getD wd.toNat 0) ≠ sn) (hr : fl + 1 ≠ c.retry) (hl : ctlLive (A.ws.getD wd.toNat 0) = false) :
    Ctr Tryz.prog 117 #[vP g, vP ba] [E6725d g c cl ep sl wd nx sn bk fl cm er, E21626 ba A, E671ef A] (Ret (undef) [E6725d g c cl ep sl wd (.nilFunc) (A.ws.getD wd.toNat 0) 0 (fl + 1) ((A.load wd).steps) (.iface 61 (vI 22)), E21626 ba (A.load wd), E671ef (A.load wd)]) := by
  refine ctr_of (args := [vP g, vP ba]) (fn := Tryz.f117) (body := B117) (nt := 38) Tryz.func117 (by kernel_rfl) (by kernel_rfl) ?_
  intro F
  refine go_exec (rs := []) (by kernel_rfl) 4000 [.z [0] 2 [0, 5, 6]] (o := .stop [.o [0] 2, .c [1]] [(0, vP g), (5, vP g), (6, vP ba)] [E6725d g c cl ep sl wd nx sn bk fl cm er, E21626 ba A, E671ef A]) (by kernel_rfl) ?_
  refine ok_stop ?_
  refine go_call (some 7) [0, 1, 2] Tryz.call91 (gLoad c g ba cl ep sl wd sn bk fl cm nx er A (by first | assumption | omega | (simp only [InK] at *; omega)) (by first | assumption | omega | (simp only [InK] at *; omega)) (by first | assumption | omega | (simp only [InK] at *; omega))) (by kernel_rfl) ?_
  rintro v post ⟨rfl, rfl⟩
  refine go_exec (rs := []) (by kernel_rfl) 4000 [.e 0, .sp [13] [.dead] [.e 0, .n, .e 0, .z [0, 0, 1, 1, 1] 0 [0, 4]]] (o := .obl (g = g) (.br ((A.ws.getD wd.toNat 0) == sn) (.bad) (.obl (g = g) (.obl (InK .i64 (fl + 1)) (.obl (g = g) (.stop [.c [0, 0, 1, 1, 1], .c [1, 0, 1, 1, 1], .c [1, 1, 1, 1]] [(0, vP g), (4, vU (A.ws.getD wd.toNat 0))] [E6725d g c cl ep sl wd nx sn bk (fl + 1) ((A.load wd).steps) er, E21626 ba (A.load wd), E671ef (A.load wd)])))))) (by kernel_rfl) ?_
  refine ok_obl rfl ?_
  refine ok_br (fun h => absurd (show ((A.ws.getD wd.toNat 0) == sn) = false from (beq_eq_false_iff_ne.2 hq)) (by rw [h]; simp)) (fun _ => ?_)
  refine ok_obl rfl ?_
  refine ok_obl (by simp only [InK]; omega) ?_
  refine ok_obl rfl ?_
  refine ok_stop ?_
  refine go_quiet (tm' := [(0, vP g), (4, vU (A.ws.getD wd.toNat 0)), (32, .bool false)]) (ps := [g = g, g = g, ((fl + 1) == c.retry) = false]) (cs := []) [(0, .h .w), (1, .h .w), (2, .h .w), (3, .h (.e 0)), (4, .h .w), (5, .h .w), (6, .h .w), (7, .h .w), (8, .h (.e 0)), (9, .h (.t false))] [0, 4, 32] (by kernel_rfl) (by kernel_rfl) ⟨rfl, rfl, (beq_eq_false_iff_ne.2 hr), trivial⟩ trivial ?_
  refine go_exec (rs := []) (by kernel_rfl) 4000 [.z [1, 1, 1, 1] 2 [35, 36]] (o := .stop [.o [1, 1, 1, 1] 2] [(35, vP g), (36, vU (A.ws.getD wd.toNat 0))] [E6725d g c cl ep sl wd nx sn bk (fl + 1) ((A.load wd).steps) er, E21626 ba (A.load wd), E671ef (A.load wd)]) (by kernel_rfl) ?_
  refine ok_stop ?_
  refine go_call (some 37) [0] Tryz.call90 (gLookD c g cl ep sl wd sn bk (fl + 1) ((A.load wd).steps) nx er (A.ws.getD wd.toNat 0) (by first | assumption | omega | (simp only [InK] at *; omega)) (by first | assumption | omega | (simp only [InK] at *; omega))) (by kernel_rfl) ?_
  rintro v post ⟨rfl, rfl⟩
  refine go_exec (rs := []) (by kernel_rfl) 4000 [] (o := .ret (undef) [E21626 ba (A.load wd), E671ef (A.load wd), E6725d g c cl ep sl wd (.nilFunc) (A.ws.getD wd.toNat 0) 0 (fl + 1) ((A.load wd).steps) (.iface 61 (vI 22))]) (by kernel_rfl) ?_
  exact ret_ok (post := [E6725d g c cl ep sl wd (.nilFunc) (A.ws.getD wd.toNat 0) 0 (fl + 1) ((A.load wd).steps) (.iface 61 (vI 22)), E21626 ba (A.load wd), E671ef (A.load wd)]) [2, 0, 1] (by kernel_rfl) ⟨rfl, (by kernel_rfl)⟩


theorem gThirdP (c : Cfg) (g ba : Nat) (cl ep sl wd sn bk fl cm : Int) (nx er : Value) (A : Ar) (hn : A.ws.length = A.n) (hs : 0 ≤ A.steps ∧ A.steps ≤ 1000000000) (hwd : 0 ≤ wd ∧ wd < A.n) (hw : U64 (A.ws.getD wd.toNat 0)) (hf0 : 0 ≤ fl ∧ fl ≤ 1000) (hq : (A.ws.getD wd.toNat 0) ≠ sn) (hr : fl + 1 ≠ c.retry) (hl : ctlLive (A.ws.getD wd.toNat 0) = true) (he : ctlEpoch (A.ws.getD wd.toNat 0) ≠ ep) :
    Ctr Tryz.prog 117 #[vP g, vP ba] [E6725d g c cl ep sl wd nx sn bk fl cm er, E21626 ba A, E671ef A] (Ret (undef) [E6725d g c cl ep sl wd (.nilFunc) (A.ws.getD wd.toNat 0) 0 (fl + 1) ((A.load wd).steps) (.iface 61 (vI 22)), E21626 ba (A.load wd), E671ef (A.load wd)]) := by
  refine ctr_of (args := [vP g, vP ba]) (fn := Tryz.f117) (body := B117) (nt := 38) Tryz.func117 (by kernel_rfl) (by kernel_rfl) ?_
  intro F
  refine go_exec (rs := []) (by kernel_rfl) 4000 [.z [0] 2 [0, 5, 6]] (o := .stop [.o [0] 2, .c [1]] [(0, vP g), (5, vP g), (6, vP ba)] [E6725d g c cl ep sl wd nx sn bk fl cm er, E21626 ba A, E671ef A]) (by kernel_rfl) ?_
  refine ok_stop ?_
  refine go_call (some 7) [0, 1, 2] Tryz.call91 (gLoad c g ba cl ep sl wd sn bk fl cm nx er A (by first | assumption | omega | (simp only [InK] at *; omega)) (by first | assumption | omega | (simp only [InK] at *; omega)) (by first | assumption | omega | (simp only [InK] at *; omega))) (by kernel_rfl) ?_
  rintro v post ⟨rfl, rfl⟩
  refine go_exec (rs := []) (by kernel_rfl) 4000 [.e 0, .sp [13] [.dead] [.e 0, .n, .e 0, .z [0, 0, 1, 1, 1] 0 [0, 4]]] (o := .obl (g = g) (.br ((A.ws.getD wd.toNat 0) == sn) (.bad) (.obl (g = g) (.obl (InK .i64 (fl + 1)) (.obl (g = g) (.stop [.c [0, 0, 1, 1, 1], .c [1, 0, 1, 1, 1], .c [1, 1, 1, 1]] [(0, vP g), (4, vU (A.ws.getD wd.toNat 0))] [E6725d g c cl ep sl wd nx sn bk (fl + 1) ((A.load wd).steps) er, E21626 ba (A.load wd), E671ef (A.load wd)])))))) (by kernel_rfl) ?_
  refine ok_obl rfl ?_
  refine ok_br (fun h => absurd (show ((A.ws.getD wd.toNat 0) == sn) = false from (beq_eq_false_iff_ne.2 hq)) (by rw [h]; simp)) (fun _ => ?_)
  refine ok_obl rfl ?_
  refine ok_obl (by simp only [InK]; omega) ?_
  refine ok_obl rfl ?_
  refine ok_stop ?_
  refine go_quiet (tm' := [(0, vP g), (4, vU (A.ws.getD wd.toNat 0)), (32, .bool false)]) (ps := [g = g, g = g, ((fl + 1) == c.retry) = false]) (cs := []) [(0, .h .w), (1, .h .w), (2, .h .w), (3, .h (.e 0)), (4, .h .w), (5, .h .w), (6, .h .w), (7, .h .w), (8, .h (.e 0)), (9, .h (.t false))] [0, 4, 32] (by kernel_rfl) (by kernel_rfl) ⟨rfl, rfl, (beq_eq_false_iff_ne.2 hr), trivial⟩ trivial ?_
  refine go_exec (rs := []) (by kernel_rfl) 4000 [.z [1, 1, 1, 1] 2 [35, 36]] (o := .stop [.o [1, 1, 1, 1] 2] [(35, vP g), (36, vU (A.ws.getD wd.toNat 0))] [E6725d g c cl ep sl wd nx sn bk (fl + 1) ((A.load wd).steps) er, E21626 ba (A.load wd), E671ef (A.load wd)]) (by kernel_rfl) ?_
  refine ok_stop ?_
  refine go_call (some 37) [0] Tryz.call90 (gLookP c g cl ep sl wd sn bk (fl + 1) ((A.load wd).steps) nx er (A.ws.getD wd.toNat 0) (by first | assumption | omega | (simp only [InK] at *; omega)) (by first | assumption | omega | (simp only [InK] at *; omega)) (by first | assumption | omega | (simp only [InK] at *; omega))) (by kernel_rfl) ?_
  rintro v post ⟨rfl, rfl⟩
  refine go_exec (rs := []) (by kernel_rfl) 4000 [] (o := .ret (undef) [E21626 ba (A.load wd), E671ef (A.load wd), E6725d g c cl ep sl wd (.nilFunc) (A.ws.getD wd.toNat 0) 0 (fl + 1) ((A.load wd).steps) (.iface 61 (vI 22))]) (by kernel_rfl) ?_
  exact ret_ok (post := [E6725d g c cl ep sl wd (.nilFunc) (A.ws.getD wd.toNat 0) 0 (fl + 1) ((A.load wd).steps) (.iface 61 (vI 22)), E21626 ba (A.load wd), E671ef (A.load wd)]) [2, 0, 1] (by kernel_rfl) ⟨rfl, (by kernel_rfl)⟩


theorem gThirdE (c : Cfg) (g ba : Nat) (cl ep sl wd sn bk fl cm : Int) (nx er : Value) (A : Ar) (hn : A.ws.length = A.n) (hs : 0 ≤ A.steps ∧ A.steps ≤ 1000000000) (hwd : 0 ≤ wd ∧ wd < A.n) (hw : U64 (A.ws.getD wd.toNat 0)) (hf0 : 0 ≤ fl ∧ fl ≤ 1000) (hq : (A.ws.getD wd.toNat 0) ≠ sn) (hr : fl + 1 ≠ c.retry) (hl : ctlLive (A.ws.getD wd.toNat 0) = true) (he : ctlEpoch (A.ws.getD wd.toNat 0) = ep) (hb : ctlBlock (A.ws.getD wd.toNat 0) = 0) :
    Ctr Tryz.prog 117 #[vP g, vP ba] [E6725d g c cl ep sl wd nx sn bk fl cm er, E21626 ba A, E671ef A] (Ret (undef) [E6725d g c cl ep sl wd (.nilFunc) (A.ws.getD wd.toNat 0) 0 (fl + 1) ((A.load wd).steps) (.iface 61 (vI 20)), E21626 ba (A.load wd), E671ef (A.load wd)]) := by
  refine ctr_of (args := [vP g, vP ba]) (fn := Tryz.f117) (body := B117) (nt := 38) Tryz.func117 (by kernel_rfl) (by kernel_rfl) ?_
  intro F
  refine go_exec (rs := []) (by kernel_rfl) 4000 [.z [0] 2 [0, 5, 6]] (o := .stop [.o [0] 2, .c [1]] [(0, vP g), (5, vP g), (6, vP ba)] [E6725d g c cl ep sl wd nx sn bk fl cm er, E21626 ba A, E671ef A]) (by kernel_rfl) ?_
  refine ok_stop ?_
  refine go_call (some 7) [0, 1, 2] Tryz.call91 (gLoad c g ba cl ep sl wd sn bk fl cm nx er A (by first | assumption | omega | (simp only [InK] at *; omega)) (by first | assumption | omega | (simp only [InK] at *; omega)) (by first | assumption | omega | (simp only [InK] at *; omega))) (by kernel_rfl) ?_
  rintro v post ⟨rfl, rfl⟩
  refine go_exec (rs := []) (by kernel_rfl) 4000 [.e 0, .sp [13] [.dead] [.e 0, .n, .e 0, .z [0, 0, 1, 1, 1] 0 [0, 4]]] (o := .obl (g = g) (.br ((A.ws.getD wd.toNat 0) == sn) (.bad) (.obl (g = g) (.obl (InK .i64 (fl + 1)) (.obl (g = g) (.stop [.c [0, 0, 1, 1, 1], .c [1, 0, 1, 1, 1], .c [1, 1, 1, 1]] [(0, vP g), (4, vU (A.ws.getD wd.toNat 0))] [E6725d g c cl ep sl wd nx sn bk (fl + 1) ((A.load wd).steps) er, E21626 ba (A.load wd), E671ef (A.load wd)])))))) (by kernel_rfl) ?_
  refine ok_obl rfl ?_
  refine ok_br (fun h => absurd (show ((A.ws.getD wd.toNat 0) == sn) = false from (beq_eq_false_iff_ne.2 hq)) (by rw [h]; simp)) (fun _ => ?_)
  refine ok_obl rfl ?_
  refine ok_obl (by simp only [InK]; omega) ?_
  refine ok_obl rfl ?_
  refine ok_stop ?_
  refine go_quiet (tm' := [(0, vP g), (4, vU (A.ws.getD wd.toNat 0)), (32, .bool false)]) (ps := [g = g, g = g, ((fl + 1) == c.retry) = false]) (cs := []) [(0, .h .w), (1, .h .w), (2, .h .w), (3, .h (.e 0)), (4, .h .w), (5, .h .w), (6, .h .w), (7, .h .w), (8, .h (.e 0)), (9, .h (.t false))] [0, 4, 32] (by kernel_rfl) (by kernel_rfl) ⟨rfl, rfl, (beq_eq_false_iff_ne.2 hr), trivial⟩ trivial ?_
  refine go_exec (rs := []) (by kernel_rfl) 4000 [.z [1, 1, 1, 1] 2 [35, 36]] (o := .stop [.o [1, 1, 1, 1] 2] [(35, vP g), (36, vU (A.ws.getD wd.toNat 0))] [E6725d g c cl ep sl wd nx sn bk (fl + 1) ((A.load wd).steps) er, E21626 ba (A.load wd), E671ef (A.load wd)]) (by kernel_rfl) ?_
  refine ok_stop ?_
  refine go_call (some 37) [0] Tryz.call90 (gLookE c g cl ep sl wd sn bk (fl + 1) ((A.load wd).steps) nx er (A.ws.getD wd.toNat 0) (by first | assumption | omega | (simp only [InK] at *; omega)) (by first | assumption | omega | (simp only [InK] at *; omega)) (by first | assumption | omega | (simp only [InK] at *; omega)) (by first | assumption | omega | (simp only [InK] at *; omega))) (by kernel_rfl) ?_
  rintro v post ⟨rfl, rfl⟩
  refine go_exec (rs := []) (by kernel_rfl) 4000 [] (o := .ret (undef) [E21626 ba (A.load wd), E671ef (A.load wd), E6725d g c cl ep sl wd (.nilFunc) (A.ws.getD wd.toNat 0) 0 (fl + 1) ((A.load wd).steps) (.iface 61 (vI 20))]) (by kernel_rfl) ?_
  exact ret_ok (post := [E6725d g c cl ep sl wd (.nilFunc) (A.ws.getD wd.toNat 0) 0 (fl + 1) ((A.load wd).steps) (.iface 61 (vI 20)), E21626 ba (A.load wd), E671ef (A.load wd)]) [2, 0, 1] (by kernel_rfl) ⟨rfl, (by kernel_rfl)⟩


theorem gThirdN (c : Cfg) (g ba : Nat) (cl ep sl wd sn bk fl cm : Int) (nx er : Value) (A : Ar) (hn : A.ws.length = A.n) (hs : 0 ≤ A.steps ∧ A.steps ≤ 1000000000) (hwd : 0 ≤ wd ∧ wd < A.n) (hw : U64 (A.ws.getD wd.toNat 0)) (hf0 : 0 ≤ fl ∧ fl ≤ 1000) (hq : (A.ws.getD wd.toNat 0) ≠ sn) (hr : fl + 1 ≠ c.retry) (hl : ctlLive (A.ws.getD wd.toNat 0) = true) (he : ctlEpoch (A.ws.getD wd.toNat 0) = ep) (hb : ctlBlock (A.ws.getD wd.toNat 0) ≠ 0) :
    Ctr Tryz.prog 117 #[vP g, vP ba] [E6725d g c cl ep sl wd nx sn bk fl cm er, E21626 ba A, E671ef A] (Ret (undef) [E6725d g c cl ep sl wd (.func (.func 107) #[vP g] #[]) (A.ws.getD wd.toNat 0) (ctlBlock (A.ws.getD wd.toNat 0)) (fl + 1) ((A.load wd).steps) er, E21626 ba (A.load wd), E671ef (A.load wd)]) := by
  refine ctr_of (args := [vP g, vP ba]) (fn := Tryz.f117) (body := B117) (nt := 38) Tryz.func117 (by kernel_rfl) (by kernel_rfl) ?_
  intro F
  refine go_exec (rs := []) (by kernel_rfl) 4000 [.z [0] 2 [0, 5, 6]] (o := .stop [.o [0] 2, .c [1]] [(0, vP g), (5, vP g), (6, vP ba)] [E6725d g c cl ep sl wd nx sn bk fl cm er, E21626 ba A, E671ef A]) (by kernel_rfl) ?_
  refine ok_stop ?_
  refine go_call (some 7) [0, 1, 2] Tryz.call91 (gLoad c g ba cl ep sl wd sn bk fl cm nx er A (by first | assumption | omega | (simp only [InK] at *; omega)) (by first | assumption | omega | (simp only [InK] at *; omega)) (by first | assumption | omega | (simp only [InK] at *; omega))) (by kernel_rfl) ?_
  rintro v post ⟨rfl, rfl⟩
  refine go_exec (rs := []) (by kernel_rfl) 4000 [.e 0, .sp [13] [.dead] [.e 0, .n, .e 0, .z [0, 0, 1, 1, 1] 0 [0, 4]]] (o := .obl (g = g) (.br ((A.ws.getD wd.toNat 0) == sn) (.bad) (.obl (g = g) (.obl (InK .i64 (fl + 1)) (.obl (g = g) (.stop [.c [0, 0, 1, 1, 1], .c [1, 0, 1, 1, 1], .c [1, 1, 1, 1]] [(0, vP g), (4, vU (A.ws.getD wd.toNat 0))] [E6725d g c cl ep sl wd nx sn bk (fl + 1) ((A.load wd).steps) er, E21626 ba (A.load wd), E671ef (A.load wd)])))))) (by kernel_rfl) ?_
  refine ok_obl rfl ?_
  refine ok_br (fun h => absurd (show ((A.ws.getD wd.toNat 0) == sn) = false from (beq_eq_false_iff_ne.2 hq)) (by rw [h]; simp)) (fun _ => ?_)
  refine ok_obl rfl ?_
  refine ok_obl (by simp only [InK]; omega) ?_
  refine ok_obl rfl ?_
  refine ok_stop ?_
  refine go_quiet (tm' := [(0, vP g), (4, vU (A.ws.getD wd.toNat 0)), (32, .bool false)]) (ps := [g = g, g = g, ((fl + 1) == c.retry) = false]) (cs := []) [(0, .h .w), (1, .h .w), (2, .h .w), (3, .h (.e 0)), (4, .h .w), (5, .h .w), (6, .h .w), (7, .h .w), (8, .h (.e 0)), (9, .h (.t false))] [0, 4, 32] (by kernel_rfl) (by kernel_rfl) ⟨rfl, rfl, (beq_eq_false_iff_ne.2 hr), trivial⟩ trivial ?_
  refine go_exec (rs := []) (by kernel_rfl) 4000 [.z [1, 1, 1, 1] 2 [35, 36]] (o := .stop [.o [1, 1, 1, 1] 2] [(35, vP g), (36, vU (A.ws.getD wd.toNat 0))] [E6725d g c cl ep sl wd nx sn bk (fl + 1) ((A.load wd).steps) er, E21626 ba (A.load wd), E671ef (A.load wd)]) (by kernel_rfl) ?_
  refine ok_stop ?_
  refine go_call (some 37) [0] Tryz.call90 (gLookN c g cl ep sl wd sn bk (fl + 1) ((A.load wd).steps) nx er (A.ws.getD wd.toNat 0) (by first | assumption | omega | (simp only [InK] at *; omega)) (by first | assumption | omega | (simp only [InK] at *; omega)) (by first | assumption | omega | (simp only [InK] at *; omega)) (by first | assumption | omega | (simp only [InK] at *; omega))) (by kernel_rfl) ?_
  rintro v post ⟨rfl, rfl⟩
  refine go_exec (rs := []) (by kernel_rfl) 4000 [] (o := .ret (undef) [E21626 ba (A.load wd), E671ef (A.load wd), E6725d g c cl ep sl wd (.func (.func 107) #[vP g] #[]) (A.ws.getD wd.toNat 0) (ctlBlock (A.ws.getD wd.toNat 0)) (fl + 1) ((A.load wd).steps) er]) (by kernel_rfl) ?_
  exact ret_ok (post := [E6725d g c cl ep sl wd (.func (.func 107) #[vP g] #[]) (A.ws.getD wd.toNat 0) (ctlBlock (A.ws.getD wd.toNat 0)) (fl + 1) ((A.load wd).steps) er, E21626 ba (A.load wd), E671ef (A.load wd)]) [2, 0, 1] (by kernel_rfl) ⟨rfl, (by kernel_rfl)⟩

noncomputable def B19 : Code := (Tryz.f19.body).getD .skip

theorem gDone0 (c : Cfg) (g : Nat) (cl ep sl wd sn bk fl cm : Int) (er : Value)  :
    Ctr Tryz.prog 19 #[vP g] [E6725d g c cl ep sl wd (.nilFunc) sn bk fl cm er] (Ret (.bool true) [E6725d g c cl ep sl wd (.nilFunc) sn bk fl cm er]) := by
  refine ctr_of (args := [vP g]) (fn := Tryz.f19) (body := B19) (nt := 12) Tryz.func19 (by kernel_rfl) (by kernel_rfl) ?_
  intro F
  refine go_exec (rs := [.tmp 2]) (by kernel_rfl) 4000 [.e 0] (o := .obl (g = g) (.ret (.bool true) [E6725d g c cl ep sl wd (.nilFunc) sn bk fl cm er])) (by kernel_rfl) ?_
  refine ok_obl rfl ?_
  exact ret_ok (post := [E6725d g c cl ep sl wd (.nilFunc) sn bk fl cm er]) [0] (by kernel_rfl) ⟨rfl, (by kernel_rfl)⟩


theorem gDone1 (c : Cfg) (g : Nat) (cl ep sl wd sn bk fl cm : Int) (er : Value)  :
    Ctr Tryz.prog 19 #[vP g] [E6725d g c cl ep sl wd (.func (.func 58) #[vP g] #[]) sn bk fl cm er] (Ret (.bool false) [E6725d g c cl ep sl wd (.func (.func 58) #[vP g] #[]) sn bk fl cm er]) := by
  refine ctr_of (args := [vP g]) (fn := Tryz.f19) (body := B19) (nt := 12) Tryz.func19 (by kernel_rfl) (by kernel_rfl) ?_
  intro F
  refine go_exec (rs := [.tmp 2]) (by kernel_rfl) 4000 [.e 0] (o := .obl (g = g) (.ret (.bool false) [E6725d g c cl ep sl wd (.func (.func 58) #[vP g] #[]) sn bk fl cm er])) (by kernel_rfl) ?_
  refine ok_obl rfl ?_
  exact ret_ok (post := [E6725d g c cl ep sl wd (.func (.func 58) #[vP g] #[]) sn bk fl cm er]) [0] (by kernel_rfl) ⟨rfl, (by kernel_rfl)⟩


theorem gDone2 (c : Cfg) (g : Nat) (cl ep sl wd sn bk fl cm : Int) (er : Value)  :
    Ctr Tryz.prog 19 #[vP g] [E6725d g c cl ep sl wd (.func (.func 107) #[vP g] #[]) sn bk fl cm er] (Ret (.bool false) [E6725d g c cl ep sl wd (.func (.func 107) #[vP g] #[]) sn bk fl cm er]) := by
  refine ctr_of (args := [vP g]) (fn := Tryz.f19) (body := B19) (nt := 12) Tryz.func19 (by kernel_rfl) (by kernel_rfl) ?_
  intro F
  refine go_exec (rs := [.tmp 2]) (by kernel_rfl) 4000 [.e 0] (o := .obl (g = g) (.ret (.bool false) [E6725d g c cl ep sl wd (.func (.func 107) #[vP g] #[]) sn bk fl cm er])) (by kernel_rfl) ?_
  refine ok_obl rfl ?_
  exact ret_ok (post := [E6725d g c cl ep sl wd (.func (.func 107) #[vP g] #[]) sn bk fl cm er]) [0] (by kernel_rfl) ⟨rfl, (by kernel_rfl)⟩


theorem gDone3 (c : Cfg) (g : Nat) (cl ep sl wd sn bk fl cm : Int) (er : Value)  :
    Ctr Tryz.prog 19 #[vP g] [E6725d g c cl ep sl wd (.func (.func 117) #[vP g] #[]) sn bk fl cm er] (Ret (.bool false) [E6725d g c cl ep sl wd (.func (.func 117) #[vP g] #[]) sn bk fl cm er]) := by
  refine ctr_of (args := [vP g]) (fn := Tryz.f19) (body := B19) (nt := 12) Tryz.func19 (by kernel_rfl) (by kernel_rfl) ?_
  intro F
  refine go_exec (rs := [.tmp 2]) (by kernel_rfl) 4000 [.e 0] (o := .obl (g = g) (.ret (.bool false) [E6725d g c cl ep sl wd (.func (.func 117) #[vP g] #[]) sn bk fl cm er])) (by kernel_rfl) ?_
  refine ok_obl rfl ?_
  exact ret_ok (post := [E6725d g c cl ep sl wd (.func (.func 117) #[vP g] #[]) sn bk fl cm er]) [0] (by kernel_rfl) ⟨rfl, (by kernel_rfl)⟩


theorem gDone_nil   :
    Ctr Tryz.prog 19 #[.pointer none] [] (Ret (.bool true) []) := by
  refine ctr_of (args := [.pointer none]) (fn := Tryz.f19) (body := B19) (nt := 12) Tryz.func19 (by kernel_rfl) (by kernel_rfl) ?_
  intro F
  refine go_exec (rs := [.tmp 2]) (by kernel_rfl) 4000 [] (o := .ret (.bool true) []) (by kernel_rfl) ?_
  exact ret_ok (post := []) [] (by kernel_rfl) ⟨rfl, (by kernel_rfl)⟩

noncomputable def B16 : Code := (Tryz.f16.body).getD .skip

theorem gStep0 (c : Cfg) (g ba : Nat) (cl ep sl wd sn bk fl cm : Int) (er : Value) (A : Ar)  :
    Ctr Tryz.prog 16 #[vP g, vP ba] [E6725d g c cl ep sl wd (.nilFunc) sn bk fl cm er, E21626 ba A, E671ef A] (Ret (.bool true) [E6725d g c cl ep sl wd (.nilFunc) sn bk fl cm er, E21626 ba A, E671ef A]) := by
  refine ctr_of (args := [vP g, vP ba]) (fn := Tryz.f16) (body := B16) (nt := 16) Tryz.func16 (by kernel_rfl) (by kernel_rfl) ?_
  intro F
  refine go_exec (rs := [.tmp 4]) (by kernel_rfl) 4000 [.z [0, 0, 1] 1 [0, 1, 5]] (o := .stop [.o [0, 0, 1] 1, .c [1, 0, 1], .c [1, 1]] [(0, vP g), (1, vP ba), (5, vP g)] [E6725d g c cl ep sl wd (.nilFunc) sn bk fl cm er, E21626 ba A, E671ef A]) (by kernel_rfl) ?_
  refine ok_stop ?_
  refine go_call (some 6) [0] Tryz.call19 (gDone0 c g cl ep sl wd sn bk fl cm er) (by kernel_rfl) ?_
  rintro v post ⟨rfl, rfl⟩
  refine go_exec (rs := [.tmp 4]) (by kernel_rfl) 4000 [.z [0, 1, 1] 1 [14]] (o := .stop [.o [0, 1, 1] 1, .c [1, 1, 1]] [(14, vP g)] [E21626 ba A, E671ef A, E6725d g c cl ep sl wd (.nilFunc) sn bk fl cm er]) (by kernel_rfl) ?_
  refine ok_stop ?_
  refine go_call (some 15) [2] Tryz.call19 (gDone0 c g cl ep sl wd sn bk fl cm er) (by kernel_rfl) ?_
  rintro v post ⟨rfl, rfl⟩
  refine go_exec (rs := [.tmp 4]) (by kernel_rfl) 4000 [] (o := .ret (.bool true) [E21626 ba A, E671ef A, E6725d g c cl ep sl wd (.nilFunc) sn bk fl cm er]) (by kernel_rfl) ?_
  exact ret_ok (post := [E6725d g c cl ep sl wd (.nilFunc) sn bk fl cm er, E21626 ba A, E671ef A]) [2, 0, 1] (by kernel_rfl) ⟨rfl, (by kernel_rfl)⟩


theorem gStep1D (c : Cfg) (g ba : Nat) (cl ep sl wd sn bk fl cm : Int) (er : Value) (A : Ar) (hn : A.ws.length = A.n) (hs : 0 ≤ A.steps ∧ A.steps ≤ 1000000000) (hwd : 0 ≤ wd ∧ wd < A.n) (hw : U64 (A.ws.getD wd.toNat 0)) (hl : ctlLive (A.ws.getD wd.toNat 0) = false) :
    Ctr Tryz.prog 16 #[vP g, vP ba] [E6725d g c cl ep sl wd (.func (.func 58) #[vP g] #[]) sn bk fl cm er, E21626 ba A, E671ef A] (Ret (.bool true) [E6725d g c cl ep sl wd (.nilFunc) (A.ws.getD wd.toNat 0) 0 fl ((A.load wd).steps) (.iface 61 (vI 22)), E21626 ba (A.load wd), E671ef (A.load wd)]) := by
  refine ctr_of (args := [vP g, vP ba]) (fn := Tryz.f16) (body := B16) (nt := 16) Tryz.func16 (by kernel_rfl) (by kernel_rfl) ?_
  intro F
  refine go_exec (rs := [.tmp 4]) (by kernel_rfl) 4000 [.z [0, 0, 1] 1 [0, 1, 5]] (o := .stop [.o [0, 0, 1] 1, .c [1, 0, 1], .c [1, 1]] [(0, vP g), (1, vP ba), (5, vP g)] [E6725d g c cl ep sl wd (.func (.func 58) #[vP g] #[]) sn bk fl cm er, E21626 ba A, E671ef A]) (by kernel_rfl) ?_
  refine ok_stop ?_
  refine go_call (some 6) [0] Tryz.call19 (gDone1 c g cl ep sl wd sn bk fl cm er) (by kernel_rfl) ?_
  rintro v post ⟨rfl, rfl⟩
  refine go_exec (rs := [.tmp 4]) (by kernel_rfl) 4000 [.e 2, .z [0, 1, 0, 1] 5 [0, 11, 12]] (o := .obl (g = g) (.stop [.o [0, 1, 0, 1] 5, .c [1, 1]] [(0, vP g), (11, .func (.func 58) #[vP g] #[]), (12, vP ba)] [E21626 ba A, E671ef A, E6725d g c cl ep sl wd (.func (.func 58) #[vP g] #[]) sn bk fl cm er])) (by kernel_rfl) ?_
  refine ok_obl rfl ?_
  refine ok_stop ?_
  refine go_call (some 13) [2, 0, 1] Tryz.call58 (gFirstD c g ba cl ep sl wd sn bk fl cm (.func (.func 58) #[vP g] #[]) er A (by first | assumption | omega | (simp only [InK] at *; omega)) (by first | assumption | omega | (simp only [InK] at *; omega)) (by first | assumption | omega | (simp only [InK] at *; omega)) (by first | assumption | omega | (simp only [InK] at *; omega)) (by first | assumption | omega | (simp only [InK] at *; omega))) (by kernel_rfl) ?_
  rintro v post ⟨rfl, rfl⟩
  refine go_exec (rs := [.tmp 4]) (by kernel_rfl) 4000 [.z [0, 1, 1] 1 [14]] (o := .stop [.o [0, 1, 1] 1, .c [1, 1, 1]] [(14, vP g)] [E6725d g c cl ep sl wd (.nilFunc) (A.ws.getD wd.toNat 0) 0 fl ((A.load wd).steps) (.iface 61 (vI 22)), E21626 ba (A.load wd), E671ef (A.load wd)]) (by kernel_rfl) ?_
  refine ok_stop ?_
  refine go_call (some 15) [0] Tryz.call19 (gDone0 c g cl ep sl wd (A.ws.getD wd.toNat 0) 0 fl ((A.load wd).steps) (.iface 61 (vI 22))) (by kernel_rfl) ?_
  rintro v post ⟨rfl, rfl⟩
  refine go_exec (rs := [.tmp 4]) (by kernel_rfl) 4000 [] (o := .ret (.bool true) [E21626 ba (A.load wd), E671ef (A.load wd), E6725d g c cl ep sl wd (.nilFunc) (A.ws.getD wd.toNat 0) 0 fl ((A.load wd).steps) (.iface 61 (vI 22))]) (by kernel_rfl) ?_
  exact ret_ok (post := [E6725d g c cl ep sl wd (.nilFunc) (A.ws.getD wd.toNat 0) 0 fl ((A.load wd).steps) (.iface 61 (vI 22)), E21626 ba (A.load wd), E671ef (A.load wd)]) [2, 0, 1] (by kernel_rfl) ⟨rfl, (by kernel_rfl)⟩


theorem gStep1P (c : Cfg) (g ba : Nat) (cl ep sl wd sn bk fl cm : Int) (er : Value) (A : Ar) (hn : A.ws.length = A.n) (hs : 0 ≤ A.steps ∧ A.steps ≤ 1000000000) (hwd : 0 ≤ wd ∧ wd < A.n) (hw : U64 (A.ws.getD wd.toNat 0)) (hl : ctlLive (A.ws.getD wd.toNat 0) = true) (he : ctlEpoch (A.ws.getD wd.toNat 0) ≠ ep) :
    Ctr Tryz.prog 16 #[vP g, vP ba] [E6725d g c cl ep sl wd (.func (.func 58) #[vP g] #[]) sn bk fl cm er, E21626 ba A, E671ef A] (Ret (.bool true) [E6725d g c cl ep sl wd (.nilFunc) (A.ws.getD wd.toNat 0) 0 fl ((A.load wd).steps) (.iface 61 (vI 22)), E21626 ba (A.load wd), E671ef (A.load wd)]) := by
  refine ctr_of (args := [vP g, vP ba]) (fn := Tryz.f16) (body := B16) (nt := 16) Tryz.func16 (by kernel_rfl) (by kernel_rfl) ?_
  intro F
  refine go_exec (rs := [.tmp 4]) (by kernel_rfl) 4000 [.z [0, 0, 1] 1 [0, 1, 5]] (o := .stop [.o [0, 0, 1] 1, .c [1, 0, 1], .c [1, 1]] [(0, vP g), (1, vP ba), (5, vP g)] [E6725d g c cl ep sl wd (.func (.func 58) #[vP g] #[]) sn bk fl cm er, E21626 ba A, E671ef A]) (by kernel_rfl) ?_
  refine ok_stop ?_
  refine go_call (some 6) [0] Tryz.call19 (gDone1 c g cl ep sl wd sn bk fl cm er) (by kernel_rfl) ?_
  rintro v post ⟨rfl, rfl⟩
  refine go_exec (rs := [.tmp 4]) (by kernel_rfl) 4000 [.e 2, .z [0, 1, 0, 1] 5 [0, 11, 12]] (o := .obl (g = g) (.stop [.o [0, 1, 0, 1] 5, .c [1, 1]] [(0, vP g), (11, .func (.func 58) #[vP g] #[]), (12, vP ba)] [E21626 ba A, E671ef A, E6725d g c cl ep sl wd (.func (.func 58) #[vP g] #[]) sn bk fl cm er])) (by kernel_rfl) ?_
  refine ok_obl rfl ?_
  refine ok_stop ?_
  refine go_call (some 13) [2, 0, 1] Tryz.call58 (gFirstP c g ba cl ep sl wd sn bk fl cm (.func (.func 58) #[vP g] #[]) er A (by first | assumption | omega | (simp only [InK] at *; omega)) (by first | assumption | omega | (simp only [InK] at *; omega)) (by first | assumption | omega | (simp only [InK] at *; omega)) (by first | assumption | omega | (simp only [InK] at *; omega)) (by first | assumption | omega | (simp only [InK] at *; omega)) (by first | assumption | omega | (simp only [InK] at *; omega))) (by kernel_rfl) ?_
  rintro v post ⟨rfl, rfl⟩
  refine go_exec (rs := [.tmp 4]) (by kernel_rfl) 4000 [.z [0, 1, 1] 1 [14]] (o := .stop [.o [0, 1, 1] 1, .c [1, 1, 1]] [(14, vP g)] [E6725d g c cl ep sl wd (.nilFunc) (A.ws.getD wd.toNat 0) 0 fl ((A.load wd).steps) (.iface 61 (vI 22)), E21626 ba (A.load wd), E671ef (A.load wd)]) (by kernel_rfl) ?_
  refine ok_stop ?_
  refine go_call (some 15) [0] Tryz.call19 (gDone0 c g cl ep sl wd (A.ws.getD wd.toNat 0) 0 fl ((A.load wd).steps) (.iface 61 (vI 22))) (by kernel_rfl) ?_
  rintro v post ⟨rfl, rfl⟩
  refine go_exec (rs := [.tmp 4]) (by kernel_rfl) 4000 [] (o := .ret (.bool true) [E21626 ba (A.load wd), E671ef (A.load wd), E6725d g c cl ep sl wd (.nilFunc) (A.ws.getD wd.toNat 0) 0 fl ((A.load wd).steps) (.iface 61 (vI 22))]) (by kernel_rfl) ?_
  exact ret_ok (post := [E6725d g c cl ep sl wd (.nilFunc) (A.ws.getD wd.toNat 0) 0 fl ((A.load wd).steps) (.iface 61 (vI 22)), E21626 ba (A.load wd), E671ef (A.load wd)]) [2, 0, 1] (by kernel_rfl) ⟨rfl, (by kernel_rfl)⟩


theorem gStep1E (c : Cfg) (g ba : Nat) (cl ep sl wd sn bk fl cm : Int) (er : Value) (A : Ar) (hn : A.ws.length = A.n) (hs : 0 ≤ A.steps ∧ A.steps ≤ 1000000000) (hwd : 0 ≤ wd ∧ wd < A.n) (hw : U64 (A.ws.getD wd.toNat 0)) (hl : ctlLive (A.ws.getD wd.toNat 0) = true) (he : ctlEpoch (A.ws.getD wd.toNat 0) = ep) (hb : ctlBlock (A.ws.getD wd.toNat 0) = 0) :
    Ctr Tryz.prog 16 #[vP g, vP ba] [E6725d g c cl ep sl wd (.func (.func 58) #[vP g] #[]) sn bk fl cm er, E21626 ba A, E671ef A] (Ret (.bool true) [E6725d g c cl ep sl wd (.nilFunc) (A.ws.getD wd.toNat 0) 0 fl ((A.load wd).steps) (.iface 61 (vI 20)), E21626 ba (A.load wd), E671ef (A.load wd)]) := by
  refine ctr_of (args := [vP g, vP ba]) (fn := Tryz.f16) (body := B16) (nt := 16) Tryz.func16 (by kernel_rfl) (by kernel_rfl) ?_
  intro F
  refine go_exec (rs := [.tmp 4]) (by kernel_rfl) 4000 [.z [0, 0, 1] 1 [0, 1, 5]] (o := .stop [.o [0, 0, 1] 1, .c [1, 0, 1], .c [1, 1]] [(0, vP g), (1, vP ba), (5, vP g)] [E6725d g c cl ep sl wd (.func (.func 58) #[vP g] #[]) sn bk fl cm er, E21626 ba A, E671ef A]) (by kernel_rfl) ?_
  refine ok_stop ?_
  refine go_call (some 6) [0] Tryz.call19 (gDone1 c g cl ep sl wd sn bk fl cm er) (by kernel_rfl) ?_
  rintro v post ⟨rfl, rfl⟩
  refine go_exec (rs := [.tmp 4]) (by kernel_rfl) 4000 [.e 2, .z [0, 1, 0, 1] 5 [0, 11, 12]] (o := .obl (g = g) (.stop [.o [0, 1, 0, 1] 5, .c [1, 1]] [(0, vP g), (11, .func (.func 58) #[vP g] #[]), (12, vP ba)] [E21626 ba A, E671ef A, E6725d g c cl ep sl wd (.func (.func 58) #[vP g] #[]) sn bk fl cm er])) (by kernel_rfl) ?_
  refine ok_obl rfl ?_
  refine ok_stop ?_
  refine go_call (some 13) [2, 0, 1] Tryz.call58 (gFirstE c g ba cl ep sl wd sn bk fl cm (.func (.func 58) #[vP g] #[]) er A (by first | assumption | omega | (simp only [InK] at *; omega)) (by first | assumption | omega | (simp only [InK] at *; omega)) (by first | assumption | omega | (simp only [InK] at *; omega)) (by first | assumption | omega | (simp only [InK] at *; omega)) (by first | assumption | omega | (simp only [InK] at *; omega)) (by first | assumption | omega | (simp only [InK] at *; omega)) (by first | assumption | omega | (simp only [InK] at *; omega))) (by kernel_rfl) ?_
  rintro v post ⟨rfl, rfl⟩
  refine go_exec (rs := [.tmp 4]) (by kernel_rfl) 4000 [.z [0, 1, 1] 1 [14]] (o := .stop [.o [0, 1, 1] 1, .c [1, 1, 1]] [(14, vP g)] [E6725d g c cl ep sl wd (.nilFunc) (A.ws.getD wd.toNat 0) 0 fl ((A.load wd).steps) (.iface 61 (vI 20)), E21626 ba (A.load wd), E671ef (A.load wd)]) (by kernel_rfl) ?_
  refine ok_stop ?_
  refine go_call (some 15) [0] Tryz.call19 (gDone0 c g cl ep sl wd (A.ws.getD wd.toNat 0) 0 fl ((A.load wd).steps) (.iface 61 (vI 20))) (by kernel_rfl) ?_
  rintro v post ⟨rfl, rfl⟩
  refine go_exec (rs := [.tmp 4]) (by kernel_rfl) 4000 [] (o := .ret (.bool true) [E21626 ba (A.load wd), E671ef (A.load wd), E6725d g c cl ep sl wd (.nilFunc) (A.ws.getD wd.toNat 0) 0 fl ((A.load wd).steps) (.iface 61 (vI 20))]) (by kernel_rfl) ?_
  exact ret_ok (post := [E6725d g c cl ep sl wd (.nilFunc) (A.ws.getD wd.toNat 0) 0 fl ((A.load wd).steps) (.iface 61 (vI 20)), E21626 ba (A.load wd), E671ef (A.load wd)]) [2, 0, 1] (by kernel_rfl) ⟨rfl, (by kernel_rfl)⟩


theorem gStep1N (c : Cfg) (g ba : Nat) (cl ep sl wd sn bk fl cm : Int) (er : Value) (A : Ar) (hn : A.ws.length = A.n) (hs : 0 ≤ A.steps ∧ A.steps ≤ 1000000000) (hwd : 0 ≤ wd ∧ wd < A.n) (hw : U64 (A.ws.getD wd.toNat 0)) (hl : ctlLive (A.ws.getD wd.toNat 0) = true) (he : ctlEpoch (A.ws.getD wd.toNat 0) = ep) (hb : ctlBlock (A.ws.getD wd.toNat 0) ≠ 0) :
    Ctr Tryz.prog 16 #[vP g, vP ba] [E6725d g c cl ep sl wd (.func (.func 58) #[vP g] #[]) sn bk fl cm er, E21626 ba A, E671ef A] (Ret (.bool false) [E6725d g c cl ep sl wd (.func (.func 107) #[vP g] #[]) (A.ws.getD wd.toNat 0) (ctlBlock (A.ws.getD wd.toNat 0)) fl ((A.load wd).steps) er, E21626 ba (A.load wd), E671ef (A.load wd)]) := by
  refine ctr_of (args := [vP g, vP ba]) (fn := Tryz.f16) (body := B16) (nt := 16) Tryz.func16 (by kernel_rfl) (by kernel_rfl) ?_
  intro F
  refine go_exec (rs := [.tmp 4]) (by kernel_rfl) 4000 [.z [0, 0, 1] 1 [0, 1, 5]] (o := .stop [.o [0, 0, 1] 1, .c [1, 0, 1], .c [1, 1]] [(0, vP g), (1, vP ba), (5, vP g)] [E6725d g c cl ep sl wd (.func (.func 58) #[vP g] #[]) sn bk fl cm er, E21626 ba A, E671ef A]) (by kernel_rfl) ?_
  refine ok_stop ?_
  refine go_call (some 6) [0] Tryz.call19 (gDone1 c g cl ep sl wd sn bk fl cm er) (by kernel_rfl) ?_
  rintro v post ⟨rfl, rfl⟩
  refine go_exec (rs := [.tmp 4]) (by kernel_rfl) 4000 [.e 2, .z [0, 1, 0, 1] 5 [0, 11, 12]] (o := .obl (g = g) (.stop [.o [0, 1, 0, 1] 5, .c [1, 1]] [(0, vP g), (11, .func (.func 58) #[vP g] #[]), (12, vP ba)] [E21626 ba A, E671ef A, E6725d g c cl ep sl wd (.func (.func 58) #[vP g] #[]) sn bk fl cm er])) (by kernel_rfl) ?_
  refine ok_obl rfl ?_
  refine ok_stop ?_
  refine go_call (some 13) [2, 0, 1] Tryz.call58 (gFirstN c g ba cl ep sl wd sn bk fl cm (.func (.func 58) #[vP g] #[]) er A (by first | assumption | omega | (simp only [InK] at *; omega)) (by first | assumption | omega | (simp only [InK] at *; omega)) (by first | assumption | omega | (simp only [InK] at *; omega)) (by first | assumption | omega | (simp only [InK] at *; omega)) (by first | assumption | omega | (simp only [InK] at *; omega)) (by first | assumption | omega | (simp only [InK] at *; omega)) (by first | assumption | omega | (simp only [InK] at *; omega))) (by kernel_rfl) ?_
  rintro v post ⟨rfl, rfl⟩
  refine go_exec (rs := [.tmp 4]) (by kernel_rfl) 4000 [.z [0, 1, 1] 1 [14]] (o := .stop [.o [0, 1, 1] 1, .c [1, 1, 1]] [(14, vP g)] [E6725d g c cl ep sl wd (.func (.func 107) #[vP g] #[]) (A.ws.getD wd.toNat 0) (ctlBlock (A.ws.getD wd.toNat 0)) fl ((A.load wd).steps) er, E21626 ba (A.load wd), E671ef (A.load wd)]) (by kernel_rfl) ?_
  refine ok_stop ?_
  refine go_call (some 15) [0] Tryz.call19 (gDone2 c g cl ep sl wd (A.ws.getD wd.toNat 0) (ctlBlock (A.ws.getD wd.toNat 0)) fl ((A.load wd).steps) er) (by kernel_rfl) ?_
  rintro v post ⟨rfl, rfl⟩
  refine go_exec (rs := [.tmp 4]) (by kernel_rfl) 4000 [] (o := .ret (.bool false) [E21626 ba (A.load wd), E671ef (A.load wd), E6725d g c cl ep sl wd (.func (.func 107) #[vP g] #[]) (A.ws.getD wd.toNat 0) (ctlBlock (A.ws.getD wd.toNat 0)) fl ((A.load wd).steps) er]) (by kernel_rfl) ?_
  exact ret_ok (post := [E6725d g c cl ep sl wd (.func (.func 107) #[vP g] #[]) (A.ws.getD wd.toNat 0) (ctlBlock (A.ws.getD wd.toNat 0)) fl ((A.load wd).steps) er, E21626 ba (A.load wd), E671ef (A.load wd)]) [2, 0, 1] (by kernel_rfl) ⟨rfl, (by kernel_rfl)⟩


theorem gStep2 (c : Cfg) (g ba : Nat) (cl ep sl wd sn bk fl cm : Int) (er : Value) (A : Ar) (hn : A.ws.length = A.n) (hs : 0 ≤ A.steps ∧ A.steps ≤ 1000000000) (hsl : 0 ≤ sl ∧ sl < A.n) (hcl : 0 ≤ cl ∧ cl ≤ 1000) (hbk : 0 ≤ bk ∧ bk ≤ 65535) :
    Ctr Tryz.prog 16 #[vP g, vP ba] [E6725d g c cl ep sl wd (.func (.func 107) #[vP g] #[]) sn bk fl cm er, E21626 ba A, E671ef A] (Ret (.bool false) [E6725d g c cl ep sl wd (.func (.func 117) #[vP g] #[]) sn bk fl cm er, E21626 ba (A.store sl (markW cl bk)), E671ef (A.store sl (markW cl bk))]) := by
  refine ctr_of (args := [vP g, vP ba]) (fn := Tryz.f16) (body := B16) (nt := 16) Tryz.func16 (by kernel_rfl) (by kernel_rfl) ?_
  intro F
  refine go_exec (rs := [.tmp 4]) (by kernel_rfl) 4000 [.z [0, 0, 1] 1 [0, 1, 5]] (o := .stop [.o [0, 0, 1] 1, .c [1, 0, 1], .c [1, 1]] [(0, vP g), (1, vP ba), (5, vP g)] [E6725d g c cl ep sl wd (.func (.func 107) #[vP g] #[]) sn bk fl cm er, E21626 ba A, E671ef A]) (by kernel_rfl) ?_
  refine ok_stop ?_
  refine go_call (some 6) [0] Tryz.call19 (gDone2 c g cl ep sl wd sn bk fl cm er) (by kernel_rfl) ?_
  rintro v post ⟨rfl, rfl⟩
  refine go_exec (rs := [.tmp 4]) (by kernel_rfl) 4000 [.e 2, .z [0, 1, 0, 1] 5 [0, 11, 12]] (o := .obl (g = g) (.stop [.o [0, 1, 0, 1] 5, .c [1, 1]] [(0, vP g), (11, .func (.func 107) #[vP g] #[]), (12, vP ba)] [E21626 ba A, E671ef A, E6725d g c cl ep sl wd (.func (.func 107) #[vP g] #[]) sn bk fl cm er])) (by kernel_rfl) ?_
  refine ok_obl rfl ?_
  refine ok_stop ?_
  refine go_call (some 13) [2, 0, 1] Tryz.call107 (gSecond c g ba cl ep sl wd sn bk fl cm (.func (.func 107) #[vP g] #[]) er A (by first | assumption | omega | (simp only [InK] at *; omega)) (by first | assumption | omega | (simp only [InK] at *; omega)) (by first | assumption | omega | (simp only [InK] at *; omega)) (by first | assumption | omega | (simp only [InK] at *; omega)) (by first | assumption | omega | (simp only [InK] at *; omega))) (by kernel_rfl) ?_
  rintro v post ⟨rfl, rfl⟩
  refine go_exec (rs := [.tmp 4]) (by kernel_rfl) 4000 [.z [0, 1, 1] 1 [14]] (o := .stop [.o [0, 1, 1] 1, .c [1, 1, 1]] [(14, vP g)] [E6725d g c cl ep sl wd (.func (.func 117) #[vP g] #[]) sn bk fl cm er, E21626 ba (A.store sl (markW cl bk)), E671ef (A.store sl (markW cl bk))]) (by kernel_rfl) ?_
  refine ok_stop ?_
  refine go_call (some 15) [0] Tryz.call19 (gDone3 c g cl ep sl wd sn bk fl cm er) (by kernel_rfl) ?_
  rintro v post ⟨rfl, rfl⟩
  refine go_exec (rs := [.tmp 4]) (by kernel_rfl) 4000 [] (o := .ret (.bool false) [E21626 ba (A.store sl (markW cl bk)), E671ef (A.store sl (markW cl bk)), E6725d g c cl ep sl wd (.func (.func 117) #[vP g] #[]) sn bk fl cm er]) (by kernel_rfl) ?_
  exact ret_ok (post := [E6725d g c cl ep sl wd (.func (.func 117) #[vP g] #[]) sn bk fl cm er, E21626 ba (A.store sl (markW cl bk)), E671ef (A.store sl (markW cl bk))]) [2, 0, 1] (by kernel_rfl) ⟨rfl, (by kernel_rfl)⟩


theorem gStep3K (c : Cfg) (g ba : Nat) (cl ep sl wd sn bk fl cm : Int) (er : Value) (A : Ar) (hn : A.ws.length = A.n) (hs : 0 ≤ A.steps ∧ A.steps ≤ 1000000000) (hwd : 0 ≤ wd ∧ wd < A.n) (hw : U64 (A.ws.getD wd.toNat 0)) (hf0 : 0 ≤ fl ∧ fl ≤ 1000) (hq : (A.ws.getD wd.toNat 0) = sn) :
    Ctr Tryz.prog 16 #[vP g, vP ba] [E6725d g c cl ep sl wd (.func (.func 117) #[vP g] #[]) sn bk fl cm er, E21626 ba A, E671ef A] (Ret (.bool true) [E0836a g c cl ep sl wd (.nilFunc) sn bk fl ((A.load wd).steps), E21626 ba (A.load wd), E671ef (A.load wd)]) := by
  refine ctr_of (args := [vP g, vP ba]) (fn := Tryz.f16) (body := B16) (nt := 16) Tryz.func16 (by kernel_rfl) (by kernel_rfl) ?_
  intro F
  refine go_exec (rs := [.tmp 4]) (by kernel_rfl) 4000 [.z [0, 0, 1] 1 [0, 1, 5]] (o := .stop [.o [0, 0, 1] 1, .c [1, 0, 1], .c [1, 1]] [(0, vP g), (1, vP ba), (5, vP g)] [E6725d g c cl ep sl wd (.func (.func 117) #[vP g] #[]) sn bk fl cm er, E21626 ba A, E671ef A]) (by kernel_rfl) ?_
  refine ok_stop ?_
  refine go_call (some 6) [0] Tryz.call19 (gDone3 c g cl ep sl wd sn bk fl cm er) (by kernel_rfl) ?_
  rintro v post ⟨rfl, rfl⟩
  refine go_exec (rs := [.tmp 4]) (by kernel_rfl) 4000 [.e 2, .z [0, 1, 0, 1] 5 [0, 11, 12]] (o := .obl (g = g) (.stop [.o [0, 1, 0, 1] 5, .c [1, 1]] [(0, vP g), (11, .func (.func 117) #[vP g] #[]), (12, vP ba)] [E21626 ba A, E671ef A, E6725d g c cl ep sl wd (.func (.func 117) #[vP g] #[]) sn bk fl cm er])) (by kernel_rfl) ?_
  refine ok_obl rfl ?_
  refine ok_stop ?_
  refine go_call (some 13) [2, 0, 1] Tryz.call117 (gThirdK c g ba cl ep sl wd sn bk fl cm (.func (.func 117) #[vP g] #[]) er A (by first | assumption | omega | (simp only [InK] at *; omega)) (by first | assumption | omega | (simp only [InK] at *; omega)) (by first | assumption | omega | (simp only [InK] at *; omega)) (by first | assumption | omega | (simp only [InK] at *; omega)) (by first | assumption | omega | (simp only [InK] at *; omega)) (by first | assumption | omega | (simp only [InK] at *; omega))) (by kernel_rfl) ?_
  rintro v post ⟨rfl, rfl⟩
  refine go_exec (rs := [.tmp 4]) (by kernel_rfl) 4000 [.z [0, 1, 1] 1 [14]] (o := .stop [.o [0, 1, 1] 1, .c [1, 1, 1]] [(14, vP g)] [E0836a g c cl ep sl wd (.nilFunc) sn bk fl ((A.load wd).steps), E21626 ba (A.load wd), E671ef (A.load wd)]) (by kernel_rfl) ?_
  refine ok_stop ?_
  refine go_call (some 15) [0] Tryz.call19 (gDone0 c g cl ep sl wd sn bk fl ((A.load wd).steps) (.nilIface)) (by kernel_rfl) ?_
  rintro v post ⟨rfl, rfl⟩
  refine go_exec (rs := [.tmp 4]) (by kernel_rfl) 4000 [] (o := .ret (.bool true) [E21626 ba (A.load wd), E671ef (A.load wd), E6725d g c cl ep sl wd (.nilFunc) sn bk fl ((A.load wd).steps) (.nilIface)]) (by kernel_rfl) ?_
  exact ret_ok (post := [E6725d g c cl ep sl wd (.nilFunc) sn bk fl ((A.load wd).steps) (.nilIface), E21626 ba (A.load wd), E671ef (A.load wd)]) [2, 0, 1] (by kernel_rfl) ⟨rfl, (by kernel_rfl)⟩


theorem gStep3R (c : Cfg) (g ba : Nat) (cl ep sl wd sn bk fl cm : Int) (er : Value) (A : Ar) (hn : A.ws.length = A.n) (hs : 0 ≤ A.steps ∧ A.steps ≤ 1000000000) (hwd : 0 ≤ wd ∧ wd < A.n) (hw : U64 (A.ws.getD wd.toNat 0)) (hf0 : 0 ≤ fl ∧ fl ≤ 1000) (hq : (A.ws.getD wd.toNat 0) ≠ sn) (hr : fl + 1 = c.retry) :
    Ctr Tryz.prog 16 #[vP g, vP ba] [E6725d g c cl ep sl wd (.func (.func 117) #[vP g] #[]) sn bk fl cm er, E21626 ba A, E671ef A] (Ret (.bool true) [E6725d g c cl ep sl wd (.nilFunc) sn 0 (fl + 1) ((A.load wd).steps) (.iface 61 (vI 17)), E21626 ba (A.load wd), E671ef (A.load wd)]) := by
  refine ctr_of (args := [vP g, vP ba]) (fn := Tryz.f16) (body := B16) (nt := 16) Tryz.func16 (by kernel_rfl) (by kernel_rfl) ?_
  intro F
  refine go_exec (rs := [.tmp 4]) (by kernel_rfl) 4000 [.z [0, 0, 1] 1 [0, 1, 5]] (o := .stop [.o [0, 0, 1] 1, .c [1, 0, 1], .c [1, 1]] [(0, vP g), (1, vP ba), (5, vP g)] [E6725d g c cl ep sl wd (.func (.func 117) #[vP g] #[]) sn bk fl cm er, E21626 ba A, E671ef A]) (by kernel_rfl) ?_
  refine ok_stop ?_
  refine go_call (some 6) [0] Tryz.call19 (gDone3 c g cl ep sl wd sn bk fl cm er) (by kernel_rfl) ?_
  rintro v post ⟨rfl, rfl⟩
  refine go_exec (rs := [.tmp 4]) (by kernel_rfl) 4000 [.e 2, .z [0, 1, 0, 1] 5 [0, 11, 12]] (o := .obl (g = g) (.stop [.o [0, 1, 0, 1] 5, .c [1, 1]] [(0, vP g), (11, .func (.func 117) #[vP g] #[]), (12, vP ba)] [E21626 ba A, E671ef A, E6725d g c cl ep sl wd (.func (.func 117) #[vP g] #[]) sn bk fl cm er])) (by kernel_rfl) ?_
  refine ok_obl rfl ?_
  refine ok_stop ?_
  refine go_call (some 13) [2, 0, 1] Tryz.call117 (gThirdR c g ba cl ep sl wd sn bk fl cm (.func (.func 117) #[vP g] #[]) er A (by first | assumption | omega | (simp only [InK] at *; omega)) (by first | assumption | omega | (simp only [InK] at *; omega)) (by first | assumption | omega | (simp only [InK] at *; omega)) (by first | assumption | omega | (simp only [InK] at *; omega)) (by first | assumption | omega | (simp only [InK] at *; omega)) (by first | assumption | omega | (simp only [InK] at *; omega)) (by first | assumption | omega | (simp only [InK] at *; omega))) (by kernel_rfl) ?_
  rintro v post ⟨rfl, rfl⟩
  refine go_exec (rs := [.tmp 4]) (by kernel_rfl) 4000 [.z [0, 1, 1] 1 [14]] (o := .stop [.o [0, 1, 1] 1, .c [1, 1, 1]] [(14, vP g)] [E6725d g c cl ep sl wd (.nilFunc) sn 0 (fl + 1) ((A.load wd).steps) (.iface 61 (vI 17)), E21626 ba (A.load wd), E671ef (A.load wd)]) (by kernel_rfl) ?_
  refine ok_stop ?_
  refine go_call (some 15) [0] Tryz.call19 (gDone0 c g cl ep sl wd sn 0 (fl + 1) ((A.load wd).steps) (.iface 61 (vI 17))) (by kernel_rfl) ?_
  rintro v post ⟨rfl, rfl⟩
  refine go_exec (rs := [.tmp 4]) (by kernel_rfl) 4000 [] (o := .ret (.bool true) [E21626 ba (A.load wd), E671ef (A.load wd), E6725d g c cl ep sl wd (.nilFunc) sn 0 (fl + 1) ((A.load wd).steps) (.iface 61 (vI 17))]) (by kernel_rfl) ?_
  exact ret_ok (post := [E6725d g c cl ep sl wd (.nilFunc) sn 0 (fl + 1) ((A.load wd).steps) (.iface 61 (vI 17)), E21626 ba (A.load wd), E671ef (A.load wd)]) [2, 0, 1] (by kernel_rfl) ⟨rfl, (by kernel_rfl)⟩


theorem gStep3D (c : Cfg) (g ba : Nat) (cl ep sl wd sn bk fl cm : Int) (er : Value) (A : Ar) (hn : A.ws.length = A.n) (hs : 0 ≤ A.steps ∧ A.steps ≤ 1000000000) (hwd : 0 ≤ wd ∧ wd < A.n) (hw : U64 (A.ws.getD wd.toNat 0)) (hf0 : 0 ≤ fl ∧ fl ≤ 1000) (hq : (A.ws.getD wd.toNat 0) ≠ sn) (hr : fl + 1 ≠ c.retry) (hl : ctlLive (A.ws.getD wd.toNat 0) = false) :
    Ctr Tryz.prog 16 #[vP g, vP ba] [E6725d g c cl ep sl wd (.func (.func 117) #[vP g] #[]) sn bk fl cm er, E21626 ba A, E671ef A] (Ret (.bool true) [E6725d g c cl ep sl wd (.nilFunc) (A.ws.getD wd.toNat 0) 0 (fl + 1) ((A.load wd).steps) (.iface 61 (vI 22)), E21626 ba (A.load wd), E671ef (A.load wd)]) := by
  refine ctr_of (args := [vP g, vP ba]) (fn := Tryz.f16) (body := B16) (nt := 16) Tryz.func16 (by kernel_rfl) (by kernel_rfl) ?_
  intro F
  refine go_exec (rs := [.tmp 4]) (by kernel_rfl) 4000 [.z [0, 0, 1] 1 [0, 1, 5]] (o := .stop [.o [0, 0, 1] 1, .c [1, 0, 1], .c [1, 1]] [(0, vP g), (1, vP ba), (5, vP g)] [E6725d g c cl ep sl wd (.func (.func 117) #[vP g] #[]) sn bk fl cm er, E21626 ba A, E671ef A]) (by kernel_rfl) ?_
  refine ok_stop ?_
  refine go_call (some 6) [0] Tryz.call19 (gDone3 c g cl ep sl wd sn bk fl cm er) (by kernel_rfl) ?_
  rintro v post ⟨rfl, rfl⟩
  refine go_exec (rs := [.tmp 4]) (by kernel_rfl) 4000 [.e 2, .z [0, 1, 0, 1] 5 [0, 11, 12]] (o := .obl (g = g) (.stop [.o [0, 1, 0, 1] 5, .c [1, 1]] [(0, vP g), (11, .func (.func 117) #[vP g] #[]), (12, vP ba)] [E21626 ba A, E671ef A, E6725d g c cl ep sl wd (.func (.func 117) #[vP g] #[]) sn bk fl cm er])) (by kernel_rfl) ?_
  refine ok_obl rfl ?_
  refine ok_stop ?_
  refine go_call (some 13) [2, 0, 1] Tryz.call117 (gThirdD c g ba cl ep sl wd sn bk fl cm (.func (.func 117) #[vP g] #[]) er A (by first | assumption | omega | (simp only [InK] at *; omega)) (by first | assumption | omega | (simp only [InK] at *; omega)) (by first | assumption | omega | (simp only [InK] at *; omega)) (by first | assumption | omega | (simp only [InK] at *; omega)) (by first | assumption | omega | (simp only [InK] at *; omega)) (by first | assumption | omega | (simp only [InK] at *; omega)) (by first | assumption | omega | (simp only [InK] at *; omega)) (by first | assumption | omega | (simp only [InK] at *; omega))) (by kernel_rfl) ?_
  rintro v post ⟨rfl, rfl⟩
  refine go_exec (rs := [.tmp 4]) (by kernel_rfl) 4000 [.z [0, 1, 1] 1 [14]] (o := .stop [.o [0, 1, 1] 1, .c [1, 1, 1]] [(14, vP g)] [E6725d g c cl ep sl wd (.nilFunc) (A.ws.getD wd.toNat 0) 0 (fl + 1) ((A.load wd).steps) (.iface 61 (vI 22)), E21626 ba (A.load wd), E671ef (A.load wd)]) (by kernel_rfl) ?_
  refine ok_stop ?_
  refine go_call (some 15) [0] Tryz.call19 (gDone0 c g cl ep sl wd (A.ws.getD wd.toNat 0) 0 (fl + 1) ((A.load wd).steps) (.iface 61 (vI 22))) (by kernel_rfl) ?_
  rintro v post ⟨rfl, rfl⟩
  refine go_exec (rs := [.tmp 4]) (by kernel_rfl) 4000 [] (o := .ret (.bool true) [E21626 ba (A.load wd), E671ef (A.load wd), E6725d g c cl ep sl wd (.nilFunc) (A.ws.getD wd.toNat 0) 0 (fl + 1) ((A.load wd).steps) (.iface 61 (vI 22))]) (by kernel_rfl) ?_
  exact ret_ok (post := [E6725d g c cl ep sl wd (.nilFunc) (A.ws.getD wd.toNat 0) 0 (fl + 1) ((A.load wd).steps) (.iface 61 (vI 22)), E21626 ba (A.load wd), E671ef (A.load wd)]) [2, 0, 1] (by kernel_rfl) ⟨rfl, (by kernel_rfl)⟩


theorem gStep3P (c : Cfg) (g ba : Nat) (cl ep sl wd sn bk fl cm : Int) (er : Value) (A : Ar) (hn : A.ws.length = A.n) (hs : 0 ≤ A.steps ∧ A.steps ≤ 1000000000) (hwd : 0 ≤ wd ∧ wd < A.n) (hw : U64 (A.ws.getD wd.toNat 0)) (hf0 : 0 ≤ fl ∧ fl ≤ 1000) (hq : (A.ws.getD wd.toNat 0) ≠ sn) (hr : fl + 1 ≠ c.retry) (hl : ctlLive (A.ws.getD wd.toNat 0) = true) (he : ctlEpoch (A.ws.getD wd.toNat 0) ≠ ep) :
    Ctr Tryz.prog 16 #[vP g, vP ba] [E6725d g c cl ep sl wd (.func (.func 117) #[vP g] #[]) sn bk fl cm er, E21626 ba A, E671ef A] (Ret (.bool true) [E6725d g c cl ep sl wd (.nilFunc) (A.ws.getD wd.toNat 0) 0 (fl + 1) ((A.load wd).steps) (.iface 61 (vI 22)), E21626 ba (A.load wd), E671ef (A.load wd)]) := by
  refine ctr_of (args := [vP g, vP ba]) (fn := Tryz.f16) (body := B16) (nt := 16) Tryz.func16 (by kernel_rfl) (by kernel_rfl) ?_
  intro F
  refine go_exec (rs := [.tmp 4]) (by kernel_rfl) 4000 [.z [0, 0, 1] 1 [0, 1, 5]] (o := .stop [.o [0, 0, 1] 1, .c [1, 0, 1], .c [1, 1]] [(0, vP g), (1, vP ba), (5, vP g)] [E6725d g c cl ep sl wd (.func (.func 117) #[vP g] #[]) sn bk fl cm er, E21626 ba A, E671ef A]) (by kernel_rfl) ?_
  refine ok_stop ?_
  refine go_call (some 6) [0] Tryz.call19 (gDone3 c g cl ep sl wd sn bk fl cm er) (by kernel_rfl) ?_
  rintro v post ⟨rfl, rfl⟩
  refine go_exec (rs := [.tmp 4]) (by kernel_rfl) 4000 [.e 2, .z [0, 1, 0, 1] 5 [0, 11, 12]] (o := .obl (g = g) (.stop [.o [0, 1, 0, 1] 5, .c [1, 1]] [(0, vP g), (11, .func (.func 117) #[vP g] #[]), (12, vP ba)] [E21626 ba A, E671ef A, E6725d g c cl ep sl wd (.func (.func 117) #[vP g] #[]) sn bk fl cm er])) (by kernel_rfl) ?_
  refine ok_obl rfl ?_
  refine ok_stop ?_
  refine go_call (some 13) [2, 0, 1] Tryz.call117 (gThirdP c g ba cl ep sl wd sn bk fl cm (.func (.func 117) #[vP g] #[]) er A (by first | assumption | omega | (simp only [InK] at *; omega)) (by first | assumption | omega | (simp only [InK] at *; omega)) (by first | assumption | omega | (simp only [InK] at *; omega)) (by first | assumption | omega | (simp only [InK] at *; omega)) (by first | assumption | omega | (simp only [InK] at *; omega)) (by first | assumption | omega | (simp only [InK] at *; omega)) (by first | assumption | omega | (simp only [InK] at *; omega)) (by first | assumption | omega | (simp only [InK] at *; omega)) (by first | assumption | omega | (simp only [InK] at *; omega))) (by kernel_rfl) ?_
  rintro v post ⟨rfl, rfl⟩
  refine go_exec (rs := [.tmp 4]) (by kernel_rfl) 4000 [.z [0, 1, 1] 1 [14]] (o := .stop [.o [0, 1, 1] 1, .c [1, 1, 1]] [(14, vP g)] [E6725d g c cl ep sl wd (.nilFunc) (A.ws.getD wd.toNat 0) 0 (fl + 1) ((A.load wd).steps) (.iface 61 (vI 22)), E21626 ba (A.load wd), E671ef (A.load wd)]) (by kernel_rfl) ?_
  refine ok_stop ?_
  refine go_call (some 15) [0] Tryz.call19 (gDone0 c g cl ep sl wd (A.ws.getD wd.toNat 0) 0 (fl + 1) ((A.load wd).steps) (.iface 61 (vI 22))) (by kernel_rfl) ?_
  rintro v post ⟨rfl, rfl⟩
  refine go_exec (rs := [.tmp 4]) (by kernel_rfl) 4000 [] (o := .ret (.bool true) [E21626 ba (A.load wd), E671ef (A.load wd), E6725d g c cl ep sl wd (.nilFunc) (A.ws.getD wd.toNat 0) 0 (fl + 1) ((A.load wd).steps) (.iface 61 (vI 22))]) (by kernel_rfl) ?_
  exact ret_ok (post := [E6725d g c cl ep sl wd (.nilFunc) (A.ws.getD wd.toNat 0) 0 (fl + 1) ((A.load wd).steps) (.iface 61 (vI 22)), E21626 ba (A.load wd), E671ef (A.load wd)]) [2, 0, 1] (by kernel_rfl) ⟨rfl, (by kernel_rfl)⟩


theorem gStep3E (c : Cfg) (g ba : Nat) (cl ep sl wd sn bk fl cm : Int) (er : Value) (A : Ar) (hn : A.ws.length = A.n) (hs : 0 ≤ A.steps ∧ A.steps ≤ 1000000000) (hwd : 0 ≤ wd ∧ wd < A.n) (hw : U64 (A.ws.getD wd.toNat 0)) (hf0 : 0 ≤ fl ∧ fl ≤ 1000) (hq : (A.ws.getD wd.toNat 0) ≠ sn) (hr : fl + 1 ≠ c.retry) (hl : ctlLive (A.ws.getD wd.toNat 0) = true) (he : ctlEpoch (A.ws.getD wd.toNat 0) = ep) (hb : ctlBlock (A.ws.getD wd.toNat 0) = 0) :
    Ctr Tryz.prog 16 #[vP g, vP ba] [E6725d g c cl ep sl wd (.func (.func 117) #[vP g] #[]) sn bk fl cm er, E21626 ba A, E671ef A] (Ret (.bool true) [E6725d g c cl ep sl wd (.nilFunc) (A.ws.getD wd.toNat 0) 0 (fl + 1) ((A.load wd).steps) (.iface 61 (vI 20)), E21626 ba (A.load wd), E671ef (A.load wd)]) := by
  refine ctr_of (args := [vP g, vP ba]) (fn := Tryz.f16) (body := B16) (nt := 16) Tryz.func16 (by kernel_rfl) (by kernel_rfl) ?_
  intro F
  refine go_exec (rs := [.tmp 4]) (by kernel_rfl) 4000 [.z [0, 0, 1] 1 [0, 1, 5]] (o := .stop [.o [0, 0, 1] 1, .c [1, 0, 1], .c [1, 1]] [(0, vP g), (1, vP ba), (5, vP g)] [E6725d g c cl ep sl wd (.func (.func 117) #[vP g] #[]) sn bk fl cm er, E21626 ba A, E671ef A]) (by kernel_rfl) ?_
  refine ok_stop ?_
  refine go_call (some 6) [0] Tryz.call19 (gDone3 c g cl ep sl wd sn bk fl cm er) (by kernel_rfl) ?_
  rintro v post ⟨rfl, rfl⟩
  refine go_exec (rs := [.tmp 4]) (by kernel_rfl) 4000 [.e 2, .z [0, 1, 0, 1] 5 [0, 11, 12]] (o := .obl (g = g) (.stop [.o [0, 1, 0, 1] 5, .c [1, 1]] [(0, vP g), (11, .func (.func 117) #[vP g] #[]), (12, vP ba)] [E21626 ba A, E671ef A, E6725d g c cl ep sl wd (.func (.func 117) #[vP g] #[]) sn bk fl cm er])) (by kernel_rfl) ?_
  refine ok_obl rfl ?_
  refine ok_stop ?_
  refine go_call (some 13) [2, 0, 1] Tryz.call117 (gThirdE c g ba cl ep sl wd sn bk fl cm (.func (.func 117) #[vP g] #[]) er A (by first | assumption | omega | (simp only [InK] at *; omega)) (by first | assumption | omega | (simp only [InK] at *; omega)) (by first | assumption | omega | (simp only [InK] at *; omega)) (by first | assumption | omega | (simp only [InK] at *; omega)) (by first | assumption | omega | (simp only [InK] at *; omega)) (by first | assumption | omega | (simp only [InK] at *; omega)) (by first | assumption | omega | (simp only [InK] at *; omega)) (by first | assumption | omega | (simp only [InK] at *; omega)) (by first | assumption | omega | (simp only [InK] at *; omega)) (by first | assumption | omega | (simp only [InK] at *; omega))) (by kernel_rfl) ?_
  rintro v post ⟨rfl, rfl⟩
  refine go_exec (rs := [.tmp 4]) (by kernel_rfl) 4000 [.z [0, 1, 1] 1 [14]] (o := .stop [.o [0, 1, 1] 1, .c [1, 1, 1]] [(14, vP g)] [E6725d g c cl ep sl wd (.nilFunc) (A.ws.getD wd.toNat 0) 0 (fl + 1) ((A.load wd).steps) (.iface 61 (vI 20)), E21626 ba (A.load wd), E671ef (A.load wd)]) (by kernel_rfl) ?_
  refine ok_stop ?_
  refine go_call (some 15) [0] Tryz.call19 (gDone0 c g cl ep sl wd (A.ws.getD wd.toNat 0) 0 (fl + 1) ((A.load wd).steps) (.iface 61 (vI 20))) (by kernel_rfl) ?_
  rintro v post ⟨rfl, rfl⟩
  refine go_exec (rs := [.tmp 4]) (by kernel_rfl) 4000 [] (o := .ret (.bool true) [E21626 ba (A.load wd), E671ef (A.load wd), E6725d g c cl ep sl wd (.nilFunc) (A.ws.getD wd.toNat 0) 0 (fl + 1) ((A.load wd).steps) (.iface 61 (vI 20))]) (by kernel_rfl) ?_
  exact ret_ok (post := [E6725d g c cl ep sl wd (.nilFunc) (A.ws.getD wd.toNat 0) 0 (fl + 1) ((A.load wd).steps) (.iface 61 (vI 20)), E21626 ba (A.load wd), E671ef (A.load wd)]) [2, 0, 1] (by kernel_rfl) ⟨rfl, (by kernel_rfl)⟩


theorem gStep3N (c : Cfg) (g ba : Nat) (cl ep sl wd sn bk fl cm : Int) (er : Value) (A : Ar) (hn : A.ws.length = A.n) (hs : 0 ≤ A.steps ∧ A.steps ≤ 1000000000) (hwd : 0 ≤ wd ∧ wd < A.n) (hw : U64 (A.ws.getD wd.toNat 0)) (hf0 : 0 ≤ fl ∧ fl ≤ 1000) (hq : (A.ws.getD wd.toNat 0) ≠ sn) (hr : fl + 1 ≠ c.retry) (hl : ctlLive (A.ws.getD wd.toNat 0) = true) (he : ctlEpoch (A.ws.getD wd.toNat 0) = ep) (hb : ctlBlock (A.ws.getD wd.toNat 0) ≠ 0) :
    Ctr Tryz.prog 16 #[vP g, vP ba] [E6725d g c cl ep sl wd (.func (.func 117) #[vP g] #[]) sn bk fl cm er, E21626 ba A, E671ef A] (Ret (.bool false) [E6725d g c cl ep sl wd (.func (.func 107) #[vP g] #[]) (A.ws.getD wd.toNat 0) (ctlBlock (A.ws.getD wd.toNat 0)) (fl + 1) ((A.load wd).steps) er, E21626 ba (A.load wd), E671ef (A.load wd)]) := by
  refine ctr_of (args := [vP g, vP ba]) (fn := Tryz.f16) (body := B16) (nt := 16) Tryz.func16 (by kernel_rfl) (by kernel_rfl) ?_
  intro F
  refine go_exec (rs := [.tmp 4]) (by kernel_rfl) 4000 [.z [0, 0, 1] 1 [0, 1, 5]] (o := .stop [.o [0, 0, 1] 1, .c [1, 0, 1], .c [1, 1]] [(0, vP g), (1, vP ba), (5, vP g)] [E6725d g c cl ep sl wd (.func (.func 117) #[vP g] #[]) sn bk fl cm er, E21626 ba A, E671ef A]) (by kernel_rfl) ?_
  refine ok_stop ?_
  refine go_call (some 6) [0] Tryz.call19 (gDone3 c g cl ep sl wd sn bk fl cm er) (by kernel_rfl) ?_
  rintro v post ⟨rfl, rfl⟩
  refine go_exec (rs := [.tmp 4]) (by kernel_rfl) 4000 [.e 2, .z [0, 1, 0, 1] 5 [0, 11, 12]] (o := .obl (g = g) (.stop [.o [0, 1, 0, 1] 5, .c [1, 1]] [(0, vP g), (11, .func (.func 117) #[vP g] #[]), (12, vP ba)] [E21626 ba A, E671ef A, E6725d g c cl ep sl wd (.func (.func 117) #[vP g] #[]) sn bk fl cm er])) (by kernel_rfl) ?_
  refine ok_obl rfl ?_
  refine ok_stop ?_
  refine go_call (some 13) [2, 0, 1] Tryz.call117 (gThirdN c g ba cl ep sl wd sn bk fl cm (.func (.func 117) #[vP g] #[]) er A (by first | assumption | omega | (simp only [InK] at *; omega)) (by first | assumption | omega | (simp only [InK] at *; omega)) (by first | assumption | omega | (simp only [InK] at *; omega)) (by first | assumption | omega | (simp only [InK] at *; omega)) (by first | assumption | omega | (simp only [InK] at *; omega)) (by first | assumption | omega | (simp only [InK] at *; omega)) (by first | assumption | omega | (simp only [InK] at *; omega)) (by first | assumption | omega | (simp only [InK] at *; omega)) (by first | assumption | omega | (simp only [InK] at *; omega)) (by first | assumption | omega | (simp only [InK] at *; omega))) (by kernel_rfl) ?_
  rintro v post ⟨rfl, rfl⟩
  refine go_exec (rs := [.tmp 4]) (by kernel_rfl) 4000 [.z [0, 1, 1] 1 [14]] (o := .stop [.o [0, 1, 1] 1, .c [1, 1, 1]] [(14, vP g)] [E6725d g c cl ep sl wd (.func (.func 107) #[vP g] #[]) (A.ws.getD wd.toNat 0) (ctlBlock (A.ws.getD wd.toNat 0)) (fl + 1) ((A.load wd).steps) er, E21626 ba (A.load wd), E671ef (A.load wd)]) (by kernel_rfl) ?_
  refine ok_stop ?_
  refine go_call (some 15) [0] Tryz.call19 (gDone2 c g cl ep sl wd (A.ws.getD wd.toNat 0) (ctlBlock (A.ws.getD wd.toNat 0)) (fl + 1) ((A.load wd).steps) er) (by kernel_rfl) ?_
  rintro v post ⟨rfl, rfl⟩
  refine go_exec (rs := [.tmp 4]) (by kernel_rfl) 4000 [] (o := .ret (.bool false) [E21626 ba (A.load wd), E671ef (A.load wd), E6725d g c cl ep sl wd (.func (.func 107) #[vP g] #[]) (A.ws.getD wd.toNat 0) (ctlBlock (A.ws.getD wd.toNat 0)) (fl + 1) ((A.load wd).steps) er]) (by kernel_rfl) ?_
  exact ret_ok (post := [E6725d g c cl ep sl wd (.func (.func 107) #[vP g] #[]) (A.ws.getD wd.toNat 0) (ctlBlock (A.ws.getD wd.toNat 0)) (fl + 1) ((A.load wd).steps) er, E21626 ba (A.load wd), E671ef (A.load wd)]) [2, 0, 1] (by kernel_rfl) ⟨rfl, (by kernel_rfl)⟩

end Go.Proofs.YtilaihbbollcnaaGreatDoor


namespace Go.Proofs.YtilaihbbollcnaaGreatDoor
open Go.Sx
noncomputable abbrev E16cc4 (x0 : Nat) (c1 : Cfg) (g2 : Gu) (x3 : Nat) : Ent := .pts x0 [.int .i64 c1.topics, .int .i64 c1.small, .int .i64 c1.slots, .int .i64 c1.clients, .int .i64 c1.s0, .int .i64 c1.n0, .int .i64 c1.s1, .int .i64 c1.n1, .int .i64 c1.retry, .int .i64 g2.client, .int .i64 g2.epoch, .int .i64 g2.slot, .int .i64 g2.word, (nxG x3 g2.ph), .int .u64 g2.seen, .int .i64 g2.block, .int .i64 g2.failed, .int .i64 g2.commit, (errV g2.code)] 102
abbrev q32_0 : List Nat := [0, 0, 1, 1, 1, 0, 0, 1]
abbrev q32_1 : List Nat := [1, 0, 1, 1, 1, 0, 0, 1]

theorem guard_Step (c : Cfg) (g ba : Nat) (G : Gu) (A : Ar) (hc : c.Ok) (hn : A.ws.length = A.n) (hs : 0 ≤ A.steps ∧ A.steps ≤ 1000000000) (hR : RngW A.ws) (hG : Gu.Ok c A.n G) :
    Ctr Tryz.prog 16 #[vP g, vP ba] [E16cc4 g c G g, E21626 ba A, E671ef A] (Ret (.bool ((G.step c.retry A).1.ph == 0)) [E16cc4 g c ((G.step c.retry A).1) g, E21626 ba ((G.step c.retry A).2), E671ef ((G.step c.retry A).2)]) := by
  obtain ⟨cl, ep, sl, wd, sn, bk, fl, cm, cd, ph⟩ := G
  obtain ⟨hph, hsl, hwd, hcl, hbk, hf0, _⟩ := hG
  simp only at hph hsl hwd hcl hbk hf0
  have hc' := hc
  simp only [Cfg.Ok] at hc'
  have hw : U64 (A.ws.getD wd.toNat 0) := hR _
  match ph, hph with
  | 0, _ => exact gStep0 c g ba cl ep sl wd sn bk fl cm (errV cd) A
  | 1, _ =>
    by_cases hl : ctlLive (A.ws.getD wd.toNat 0) = true
    · by_cases he : ctlEpoch (A.ws.getD wd.toNat 0) = ep
      · by_cases hb : ctlBlock (A.ws.getD wd.toNat 0) = 0
        · have e : Gu.step c.retry (⟨cl, ep, sl, wd, sn, bk, fl, cm, cd, 1⟩ : Gu) A = ((⟨cl, ep, sl, wd, (A.ws.getD wd.toNat 0), 0, fl, (A.load wd).steps, 20, 0⟩ : Gu), A.load wd) := by
            show (Gu.look _ _, _) = _
            rw [Gu.look_E _ hl he hb]
          rw [e]; exact gStep1E c g ba cl ep sl wd sn bk fl cm (errV cd) A hn hs hwd hw hl he hb
        · have e : Gu.step c.retry (⟨cl, ep, sl, wd, sn, bk, fl, cm, cd, 1⟩ : Gu) A = ((⟨cl, ep, sl, wd, (A.ws.getD wd.toNat 0), (ctlBlock (A.ws.getD wd.toNat 0)), fl, (A.load wd).steps, cd, 2⟩ : Gu), A.load wd) := by
            show (Gu.look _ _, _) = _
            rw [Gu.look_N _ hl he hb]
          rw [e]; exact gStep1N c g ba cl ep sl wd sn bk fl cm (errV cd) A hn hs hwd hw hl he hb
      · have e : Gu.step c.retry (⟨cl, ep, sl, wd, sn, bk, fl, cm, cd, 1⟩ : Gu) A = ((⟨cl, ep, sl, wd, (A.ws.getD wd.toNat 0), 0, fl, (A.load wd).steps, 22, 0⟩ : Gu), A.load wd) := by
          show (Gu.look _ _, _) = _
          rw [Gu.look_P _ he]
        rw [e]; exact gStep1P c g ba cl ep sl wd sn bk fl cm (errV cd) A hn hs hwd hw hl he
    · have hl := (Bool.not_eq_true _).mp hl
      have e : Gu.step c.retry (⟨cl, ep, sl, wd, sn, bk, fl, cm, cd, 1⟩ : Gu) A = ((⟨cl, ep, sl, wd, (A.ws.getD wd.toNat 0), 0, fl, (A.load wd).steps, 22, 0⟩ : Gu), A.load wd) := by
        show (Gu.look _ _, _) = _
        rw [Gu.look_D _ hl]
      rw [e]; exact gStep1D c g ba cl ep sl wd sn bk fl cm (errV cd) A hn hs hwd hw hl
  | 2, _ => exact gStep2 c g ba cl ep sl wd sn bk fl cm (errV cd) A hn hs hsl (by omega) hbk
  | 3, _ =>
    by_cases hq : (A.ws.getD wd.toNat 0) = sn
    · have e : Gu.step c.retry (⟨cl, ep, sl, wd, sn, bk, fl, cm, cd, 3⟩ : Gu) A = ((⟨cl, ep, sl, wd, sn, bk, fl, (A.load wd).steps, 0, 0⟩ : Gu), A.load wd) := by
        show (if _ then _ else _) = _
        rw [if_pos hq]
      rw [e]; exact gStep3K c g ba cl ep sl wd sn bk fl cm (errV cd) A hn hs hwd hw hf0 hq
    · by_cases hr : fl + 1 = c.retry
      · have e : Gu.step c.retry (⟨cl, ep, sl, wd, sn, bk, fl, cm, cd, 3⟩ : Gu) A = ((⟨cl, ep, sl, wd, sn, 0, (fl + 1), (A.load wd).steps, 17, 0⟩ : Gu), A.load wd) := by
          show (if _ then _ else _) = _
          rw [if_neg hq, if_pos hr]
        rw [e]; exact gStep3R c g ba cl ep sl wd sn bk fl cm (errV cd) A hn hs hwd hw hf0 hq hr
      · by_cases hl : ctlLive (A.ws.getD wd.toNat 0) = true
        · by_cases he : ctlEpoch (A.ws.getD wd.toNat 0) = ep
          · by_cases hb : ctlBlock (A.ws.getD wd.toNat 0) = 0
            · have e : Gu.step c.retry (⟨cl, ep, sl, wd, sn, bk, fl, cm, cd, 3⟩ : Gu) A = ((⟨cl, ep, sl, wd, (A.ws.getD wd.toNat 0), 0, (fl + 1), (A.load wd).steps, 20, 0⟩ : Gu), A.load wd) := by
                show (if _ then _ else _) = _
                rw [if_neg hq, if_neg hr, Gu.look_E _ hl he hb]
              rw [e]; exact gStep3E c g ba cl ep sl wd sn bk fl cm (errV cd) A hn hs hwd hw hf0 hq hr hl he hb
            · have e : Gu.step c.retry (⟨cl, ep, sl, wd, sn, bk, fl, cm, cd, 3⟩ : Gu) A = ((⟨cl, ep, sl, wd, (A.ws.getD wd.toNat 0), (ctlBlock (A.ws.getD wd.toNat 0)), (fl + 1), (A.load wd).steps, cd, 2⟩ : Gu), A.load wd) := by
                show (if _ then _ else _) = _
                rw [if_neg hq, if_neg hr, Gu.look_N _ hl he hb]
              rw [e]; exact gStep3N c g ba cl ep sl wd sn bk fl cm (errV cd) A hn hs hwd hw hf0 hq hr hl he hb
          · have e : Gu.step c.retry (⟨cl, ep, sl, wd, sn, bk, fl, cm, cd, 3⟩ : Gu) A = ((⟨cl, ep, sl, wd, (A.ws.getD wd.toNat 0), 0, (fl + 1), (A.load wd).steps, 22, 0⟩ : Gu), A.load wd) := by
              show (if _ then _ else _) = _
              rw [if_neg hq, if_neg hr, Gu.look_P _ he]
            rw [e]; exact gStep3P c g ba cl ep sl wd sn bk fl cm (errV cd) A hn hs hwd hw hf0 hq hr hl he
        · have hl := (Bool.not_eq_true _).mp hl
          have e : Gu.step c.retry (⟨cl, ep, sl, wd, sn, bk, fl, cm, cd, 3⟩ : Gu) A = ((⟨cl, ep, sl, wd, (A.ws.getD wd.toNat 0), 0, (fl + 1), (A.load wd).steps, 22, 0⟩ : Gu), A.load wd) := by
            show (if _ then _ else _) = _
            rw [if_neg hq, if_neg hr, Gu.look_D _ hl]
          rw [e]; exact gStep3D c g ba cl ep sl wd sn bk fl cm (errV cd) A hn hs hwd hw hf0 hq hr hl
  | n + 4, h => omega


theorem guard_Done (c : Cfg) (g : Nat) (G : Gu) (hph : G.ph ≤ 3) :
    Ctr Tryz.prog 19 #[vP g] [E16cc4 g c G g] (Ret (.bool (G.ph == 0)) [E16cc4 g c G g]) := by
  obtain ⟨cl, ep, sl, wd, sn, bk, fl, cm, cd, ph⟩ := G
  simp only at hph
  match ph, hph with
  | 0, _ => exact gDone0 c g cl ep sl wd sn bk fl cm (errV cd)
  | 1, _ => exact gDone1 c g cl ep sl wd sn bk fl cm (errV cd)
  | 2, _ => exact gDone2 c g cl ep sl wd sn bk fl cm (errV cd)
  | 3, _ => exact gDone3 c g cl ep sl wd sn bk fl cm (errV cd)
  | n + 4, h => omega

noncomputable def B17 : Code := (Tryz.f17.body).getD .skip

theorem gTold0 (c : Cfg) (g : Nat) (cl ep sl wd sn bk fl cm : Int) (er : Value)  :
    Ctr Tryz.prog 17 #[vP g] [E6725d g c cl ep sl wd (.nilFunc) sn bk fl cm er] (Ret (.tuple #[vI bk, er]) [E6725d g c cl ep sl wd (.nilFunc) sn bk fl cm er]) := by
  refine ctr_of (args := [vP g]) (fn := Tryz.f17) (body := B17) (nt := 21) Tryz.func17 (by kernel_rfl) (by kernel_rfl) ?_
  intro F
  refine go_exec (rs := [.tmp 2, .tmp 3]) (by kernel_rfl) 4000 [.z [0, 1, 1, 0, 0, 1] 1 [0, 9]] (o := .stop [.o [0, 1, 1, 0, 0, 1] 1, .c [1, 1, 1, 0, 0, 1], .b 0, .c [1, 1]] [(0, vP g), (9, vP g)] [E6725d g c cl ep sl wd (.nilFunc) sn bk fl cm er]) (by kernel_rfl) ?_
  refine ok_stop ?_
  refine go_call (some 10) [0] Tryz.call19 (gDone0 c g cl ep sl wd sn bk fl cm er) (by kernel_rfl) ?_
  rintro v post ⟨rfl, rfl⟩
  refine go_exec (rs := [.tmp 2, .tmp 3]) (by kernel_rfl) 4000 [.z [0, 1, 1] 0 [0]] (o := .stop [.c [0, 1, 1], .c [1, 1, 1]] [(0, vP g)] [E6725d g c cl ep sl wd (.nilFunc) sn bk fl cm er]) (by kernel_rfl) ?_
  refine ok_stop ?_
  refine go_quiet (tm' := [(2, vI bk), (3, er)]) (ps := [g = g, g = g]) (cs := []) [(0, .h .w), (1, .h .w), (2, .h .w), (3, .h (.e 0)), (4, .h .w), (5, .h .w), (6, .h .w), (7, .h (.e 0)), (8, .h .w), (9, .h .w)] [2, 3] (by kernel_rfl) (by kernel_rfl) ⟨rfl, rfl, trivial⟩ trivial ?_
  refine go_exec (rs := [.tmp 2, .tmp 3]) (by kernel_rfl) 4000 [] (o := .ret (.tuple #[vI bk, er]) [E6725d g c cl ep sl wd (.nilFunc) sn bk fl cm er]) (by kernel_rfl) ?_
  exact ret_ok (post := [E6725d g c cl ep sl wd (.nilFunc) sn bk fl cm er]) [0] (by kernel_rfl) ⟨rfl, (by kernel_rfl)⟩


theorem gTold1 (c : Cfg) (g : Nat) (cl ep sl wd sn bk fl cm : Int) (er : Value)  :
    Ctr Tryz.prog 17 #[vP g] [E6725d g c cl ep sl wd (.func (.func 58) #[vP g] #[]) sn bk fl cm er] (Ret (.tuple #[vI 0, .iface 61 (vI 13)]) [E6725d g c cl ep sl wd (.func (.func 58) #[vP g] #[]) sn bk fl cm er]) := by
  refine ctr_of (args := [vP g]) (fn := Tryz.f17) (body := B17) (nt := 21) Tryz.func17 (by kernel_rfl) (by kernel_rfl) ?_
  intro F
  refine go_exec (rs := [.tmp 2, .tmp 3]) (by kernel_rfl) 4000 [.z [0, 1, 1, 0, 0, 1] 1 [0, 9]] (o := .stop [.o [0, 1, 1, 0, 0, 1] 1, .c [1, 1, 1, 0, 0, 1], .b 0, .c [1, 1]] [(0, vP g), (9, vP g)] [E6725d g c cl ep sl wd (.func (.func 58) #[vP g] #[]) sn bk fl cm er]) (by kernel_rfl) ?_
  refine ok_stop ?_
  refine go_call (some 10) [0] Tryz.call19 (gDone1 c g cl ep sl wd sn bk fl cm er) (by kernel_rfl) ?_
  rintro v post ⟨rfl, rfl⟩
  refine go_exec (rs := [.tmp 2, .tmp 3]) (by kernel_rfl) 4000 [.z q32_0 0 []] (o := .stop [.o q32_0 0, .c q32_1, .b 0, .c [1, 1]] [] [E6725d g c cl ep sl wd (.func (.func 58) #[vP g] #[]) sn bk fl cm er]) (by kernel_rfl) ?_
  refine ok_stop ?_
  refine go_call (some 12) [] Tryz.call60 (cause_NewE 13 (by decide)) (by kernel_rfl) ?_
  rintro v post ⟨rfl, rfl⟩
  refine go_exec (rs := [.tmp 2, .tmp 3]) (by kernel_rfl) 4000 [] (o := .ret (.tuple #[vI 0, .iface 61 (vI 13)]) [E6725d g c cl ep sl wd (.func (.func 58) #[vP g] #[]) sn bk fl cm er]) (by kernel_rfl) ?_
  exact ret_ok (post := [E6725d g c cl ep sl wd (.func (.func 58) #[vP g] #[]) sn bk fl cm er]) [0] (by kernel_rfl) ⟨rfl, (by kernel_rfl)⟩


theorem gTold2 (c : Cfg) (g : Nat) (cl ep sl wd sn bk fl cm : Int) (er : Value)  :
    Ctr Tryz.prog 17 #[vP g] [E6725d g c cl ep sl wd (.func (.func 107) #[vP g] #[]) sn bk fl cm er] (Ret (.tuple #[vI 0, .iface 61 (vI 13)]) [E6725d g c cl ep sl wd (.func (.func 107) #[vP g] #[]) sn bk fl cm er]) := by
  refine ctr_of (args := [vP g]) (fn := Tryz.f17) (body := B17) (nt := 21) Tryz.func17 (by kernel_rfl) (by kernel_rfl) ?_
  intro F
  refine go_exec (rs := [.tmp 2, .tmp 3]) (by kernel_rfl) 4000 [.z [0, 1, 1, 0, 0, 1] 1 [0, 9]] (o := .stop [.o [0, 1, 1, 0, 0, 1] 1, .c [1, 1, 1, 0, 0, 1], .b 0, .c [1, 1]] [(0, vP g), (9, vP g)] [E6725d g c cl ep sl wd (.func (.func 107) #[vP g] #[]) sn bk fl cm er]) (by kernel_rfl) ?_
  refine ok_stop ?_
  refine go_call (some 10) [0] Tryz.call19 (gDone2 c g cl ep sl wd sn bk fl cm er) (by kernel_rfl) ?_
  rintro v post ⟨rfl, rfl⟩
  refine go_exec (rs := [.tmp 2, .tmp 3]) (by kernel_rfl) 4000 [.z q32_0 0 []] (o := .stop [.o q32_0 0, .c q32_1, .b 0, .c [1, 1]] [] [E6725d g c cl ep sl wd (.func (.func 107) #[vP g] #[]) sn bk fl cm er]) (by kernel_rfl) ?_
  refine ok_stop ?_
  refine go_call (some 12) [] Tryz.call60 (cause_NewE 13 (by decide)) (by kernel_rfl) ?_
  rintro v post ⟨rfl, rfl⟩
  refine go_exec (rs := [.tmp 2, .tmp 3]) (by kernel_rfl) 4000 [] (o := .ret (.tuple #[vI 0, .iface 61 (vI 13)]) [E6725d g c cl ep sl wd (.func (.func 107) #[vP g] #[]) sn bk fl cm er]) (by kernel_rfl) ?_
  exact ret_ok (post := [E6725d g c cl ep sl wd (.func (.func 107) #[vP g] #[]) sn bk fl cm er]) [0] (by kernel_rfl) ⟨rfl, (by kernel_rfl)⟩


theorem gTold3 (c : Cfg) (g : Nat) (cl ep sl wd sn bk fl cm : Int) (er : Value)  :
    Ctr Tryz.prog 17 #[vP g] [E6725d g c cl ep sl wd (.func (.func 117) #[vP g] #[]) sn bk fl cm er] (Ret (.tuple #[vI 0, .iface 61 (vI 13)]) [E6725d g c cl ep sl wd (.func (.func 117) #[vP g] #[]) sn bk fl cm er]) := by
  refine ctr_of (args := [vP g]) (fn := Tryz.f17) (body := B17) (nt := 21) Tryz.func17 (by kernel_rfl) (by kernel_rfl) ?_
  intro F
  refine go_exec (rs := [.tmp 2, .tmp 3]) (by kernel_rfl) 4000 [.z [0, 1, 1, 0, 0, 1] 1 [0, 9]] (o := .stop [.o [0, 1, 1, 0, 0, 1] 1, .c [1, 1, 1, 0, 0, 1], .b 0, .c [1, 1]] [(0, vP g), (9, vP g)] [E6725d g c cl ep sl wd (.func (.func 117) #[vP g] #[]) sn bk fl cm er]) (by kernel_rfl) ?_
  refine ok_stop ?_
  refine go_call (some 10) [0] Tryz.call19 (gDone3 c g cl ep sl wd sn bk fl cm er) (by kernel_rfl) ?_
  rintro v post ⟨rfl, rfl⟩
  refine go_exec (rs := [.tmp 2, .tmp 3]) (by kernel_rfl) 4000 [.z q32_0 0 []] (o := .stop [.o q32_0 0, .c q32_1, .b 0, .c [1, 1]] [] [E6725d g c cl ep sl wd (.func (.func 117) #[vP g] #[]) sn bk fl cm er]) (by kernel_rfl) ?_
  refine ok_stop ?_
  refine go_call (some 12) [] Tryz.call60 (cause_NewE 13 (by decide)) (by kernel_rfl) ?_
  rintro v post ⟨rfl, rfl⟩
  refine go_exec (rs := [.tmp 2, .tmp 3]) (by kernel_rfl) 4000 [] (o := .ret (.tuple #[vI 0, .iface 61 (vI 13)]) [E6725d g c cl ep sl wd (.func (.func 117) #[vP g] #[]) sn bk fl cm er]) (by kernel_rfl) ?_
  exact ret_ok (post := [E6725d g c cl ep sl wd (.func (.func 117) #[vP g] #[]) sn bk fl cm er]) [0] (by kernel_rfl) ⟨rfl, (by kernel_rfl)⟩


theorem gTold_nil   :
    Ctr Tryz.prog 17 #[.pointer none] [] (Ret (.tuple #[vI 0, .iface 61 (vI 1)]) []) := by
  refine ctr_of (args := [.pointer none]) (fn := Tryz.f17) (body := B17) (nt := 21) Tryz.func17 (by kernel_rfl) (by kernel_rfl) ?_
  intro F
  refine go_exec (rs := [.tmp 2, .tmp 3]) (by kernel_rfl) 4000 [.z [0, 0, 1, 0, 0, 1] 0 []] (o := .stop [.o [0, 0, 1, 0, 0, 1] 0, .c [1, 0, 1, 0, 0, 1], .b 0, .c [1, 1]] [] []) (by kernel_rfl) ?_
  refine ok_stop ?_
  refine go_call (some 7) [] Tryz.call60 (cause_NewE 1 (by decide)) (by kernel_rfl) ?_
  rintro v post ⟨rfl, rfl⟩
  refine go_exec (rs := [.tmp 2, .tmp 3]) (by kernel_rfl) 4000 [] (o := .ret (.tuple #[vI 0, .iface 61 (vI 1)]) []) (by kernel_rfl) ?_
  exact ret_ok (post := []) [] (by kernel_rfl) ⟨rfl, (by kernel_rfl)⟩


theorem guard_Told (c : Cfg) (g : Nat) (G : Gu) (hph : G.ph ≤ 3) :
    Ctr Tryz.prog 17 #[vP g] [E16cc4 g c G g] (Ret (.tuple #[vI ((Gu.told G).1), (errV (Gu.told G).2)]) [E16cc4 g c G g]) := by
  obtain ⟨cl, ep, sl, wd, sn, bk, fl, cm, cd, ph⟩ := G
  simp only at hph
  match ph, hph with
  | 0, _ => exact gTold0 c g cl ep sl wd sn bk fl cm (errV cd)
  | 1, _ => exact gTold1 c g cl ep sl wd sn bk fl cm (errV cd)
  | 2, _ => exact gTold2 c g cl ep sl wd sn bk fl cm (errV cd)
  | 3, _ => exact gTold3 c g cl ep sl wd sn bk fl cm (errV cd)
  | n + 4, h => omega

noncomputable def B23 : Code := (Tryz.f23.body).getD .skip

theorem gCommit0 (c : Cfg) (g : Nat) (cl ep sl wd sn bk fl cm : Int) (er : Value)  :
    Ctr Tryz.prog 23 #[vP g] [E6725d g c cl ep sl wd (.nilFunc) sn bk fl cm er] (Ret (vI cm) [E6725d g c cl ep sl wd (.nilFunc) sn bk fl cm er]) := by
  refine ctr_of (args := [vP g]) (fn := Tryz.f23) (body := B23) (nt := 14) Tryz.func23 (by kernel_rfl) (by kernel_rfl) ?_
  intro F
  refine go_exec (rs := [.tmp 2]) (by kernel_rfl) 4000 [.z [0, 0, 1] 4 [0, 5, 6]] (o := .stop [.o [0, 0, 1] 4, .c [1, 0, 1], .c [1, 1]] [(0, vP g), (5, .bool false), (6, vP g)] [E6725d g c cl ep sl wd (.nilFunc) sn bk fl cm er]) (by kernel_rfl) ?_
  refine ok_stop ?_
  refine go_call (some 7) [0] Tryz.call19 (gDone0 c g cl ep sl wd sn bk fl cm er) (by kernel_rfl) ?_
  rintro v post ⟨rfl, rfl⟩
  refine go_exec (rs := [.tmp 2]) (by kernel_rfl) 4000 [.e 0] (o := .obl (g = g) (.ret (vI cm) [E6725d g c cl ep sl wd (.nilFunc) sn bk fl cm er])) (by kernel_rfl) ?_
  refine ok_obl rfl ?_
  exact ret_ok (post := [E6725d g c cl ep sl wd (.nilFunc) sn bk fl cm er]) [0] (by kernel_rfl) ⟨rfl, (by kernel_rfl)⟩


theorem gCommit1 (c : Cfg) (g : Nat) (cl ep sl wd sn bk fl cm : Int) (er : Value)  :
    Ctr Tryz.prog 23 #[vP g] [E6725d g c cl ep sl wd (.func (.func 58) #[vP g] #[]) sn bk fl cm er] (Ret (vI 0) [E6725d g c cl ep sl wd (.func (.func 58) #[vP g] #[]) sn bk fl cm er]) := by
  refine ctr_of (args := [vP g]) (fn := Tryz.f23) (body := B23) (nt := 14) Tryz.func23 (by kernel_rfl) (by kernel_rfl) ?_
  intro F
  refine go_exec (rs := [.tmp 2]) (by kernel_rfl) 4000 [.z [0, 0, 1] 4 [0, 5, 6]] (o := .stop [.o [0, 0, 1] 4, .c [1, 0, 1], .c [1, 1]] [(0, vP g), (5, .bool false), (6, vP g)] [E6725d g c cl ep sl wd (.func (.func 58) #[vP g] #[]) sn bk fl cm er]) (by kernel_rfl) ?_
  refine ok_stop ?_
  refine go_call (some 7) [0] Tryz.call19 (gDone1 c g cl ep sl wd sn bk fl cm er) (by kernel_rfl) ?_
  rintro v post ⟨rfl, rfl⟩
  refine go_exec (rs := [.tmp 2]) (by kernel_rfl) 4000 [] (o := .ret (vI 0) [E6725d g c cl ep sl wd (.func (.func 58) #[vP g] #[]) sn bk fl cm er]) (by kernel_rfl) ?_
  exact ret_ok (post := [E6725d g c cl ep sl wd (.func (.func 58) #[vP g] #[]) sn bk fl cm er]) [0] (by kernel_rfl) ⟨rfl, (by kernel_rfl)⟩


theorem gCommit2 (c : Cfg) (g : Nat) (cl ep sl wd sn bk fl cm : Int) (er : Value)  :
    Ctr Tryz.prog 23 #[vP g] [E6725d g c cl ep sl wd (.func (.func 107) #[vP g] #[]) sn bk fl cm er] (Ret (vI 0) [E6725d g c cl ep sl wd (.func (.func 107) #[vP g] #[]) sn bk fl cm er]) := by
  refine ctr_of (args := [vP g]) (fn := Tryz.f23) (body := B23) (nt := 14) Tryz.func23 (by kernel_rfl) (by kernel_rfl) ?_
  intro F
  refine go_exec (rs := [.tmp 2]) (by kernel_rfl) 4000 [.z [0, 0, 1] 4 [0, 5, 6]] (o := .stop [.o [0, 0, 1] 4, .c [1, 0, 1], .c [1, 1]] [(0, vP g), (5, .bool false), (6, vP g)] [E6725d g c cl ep sl wd (.func (.func 107) #[vP g] #[]) sn bk fl cm er]) (by kernel_rfl) ?_
  refine ok_stop ?_
  refine go_call (some 7) [0] Tryz.call19 (gDone2 c g cl ep sl wd sn bk fl cm er) (by kernel_rfl) ?_
  rintro v post ⟨rfl, rfl⟩
  refine go_exec (rs := [.tmp 2]) (by kernel_rfl) 4000 [] (o := .ret (vI 0) [E6725d g c cl ep sl wd (.func (.func 107) #[vP g] #[]) sn bk fl cm er]) (by kernel_rfl) ?_
  exact ret_ok (post := [E6725d g c cl ep sl wd (.func (.func 107) #[vP g] #[]) sn bk fl cm er]) [0] (by kernel_rfl) ⟨rfl, (by kernel_rfl)⟩


theorem gCommit3 (c : Cfg) (g : Nat) (cl ep sl wd sn bk fl cm : Int) (er : Value)  :
    Ctr Tryz.prog 23 #[vP g] [E6725d g c cl ep sl wd (.func (.func 117) #[vP g] #[]) sn bk fl cm er] (Ret (vI 0) [E6725d g c cl ep sl wd (.func (.func 117) #[vP g] #[]) sn bk fl cm er]) := by
  refine ctr_of (args := [vP g]) (fn := Tryz.f23) (body := B23) (nt := 14) Tryz.func23 (by kernel_rfl) (by kernel_rfl) ?_
  intro F
  refine go_exec (rs := [.tmp 2]) (by kernel_rfl) 4000 [.z [0, 0, 1] 4 [0, 5, 6]] (o := .stop [.o [0, 0, 1] 4, .c [1, 0, 1], .c [1, 1]] [(0, vP g), (5, .bool false), (6, vP g)] [E6725d g c cl ep sl wd (.func (.func 117) #[vP g] #[]) sn bk fl cm er]) (by kernel_rfl) ?_
  refine ok_stop ?_
  refine go_call (some 7) [0] Tryz.call19 (gDone3 c g cl ep sl wd sn bk fl cm er) (by kernel_rfl) ?_
  rintro v post ⟨rfl, rfl⟩
  refine go_exec (rs := [.tmp 2]) (by kernel_rfl) 4000 [] (o := .ret (vI 0) [E6725d g c cl ep sl wd (.func (.func 117) #[vP g] #[]) sn bk fl cm er]) (by kernel_rfl) ?_
  exact ret_ok (post := [E6725d g c cl ep sl wd (.func (.func 117) #[vP g] #[]) sn bk fl cm er]) [0] (by kernel_rfl) ⟨rfl, (by kernel_rfl)⟩


theorem gCommit_nil   :
    Ctr Tryz.prog 23 #[.pointer none] [] (Ret (vI 0) []) := by
  refine ctr_of (args := [.pointer none]) (fn := Tryz.f23) (body := B23) (nt := 14) Tryz.func23 (by kernel_rfl) (by kernel_rfl) ?_
  intro F
  refine go_exec (rs := [.tmp 2]) (by kernel_rfl) 4000 [] (o := .ret (vI 0) []) (by kernel_rfl) ?_
  exact ret_ok (post := []) [] (by kernel_rfl) ⟨rfl, (by kernel_rfl)⟩


theorem guard_Commit (c : Cfg) (g : Nat) (G : Gu) (hph : G.ph ≤ 3) :
    Ctr Tryz.prog 23 #[vP g] [E16cc4 g c G g] (Ret (vI (Gu.comm G)) [E16cc4 g c G g]) := by
  obtain ⟨cl, ep, sl, wd, sn, bk, fl, cm, cd, ph⟩ := G
  simp only at hph
  match ph, hph with
  | 0, _ => exact gCommit0 c g cl ep sl wd sn bk fl cm (errV cd)
  | 1, _ => exact gCommit1 c g cl ep sl wd sn bk fl cm (errV cd)
  | 2, _ => exact gCommit2 c g cl ep sl wd sn bk fl cm (errV cd)
  | 3, _ => exact gCommit3 c g cl ep sl wd sn bk fl cm (errV cd)
  | n + 4, h => omega

noncomputable def B14 : Code := (Tryz.f14.body).getD .skip

theorem guard_New (c : Cfg) (cl sl tp ep : Int) (hc : c.Ok) (hcl : 0 ≤ cl ∧ cl < c.clients) (hsl : 0 ≤ sl ∧ sl < c.slots) (htp : 0 ≤ tp ∧ tp < c.topics) :
    Ctr Tryz.prog 14 #[cfgV c, vI cl, vI sl, vI tp, vI ep] [] (fun v L => ∃ (g : Nat), v = vP g ∧ L = [E16cc4 g c (newGu c cl sl tp ep) g]) := by
  refine ctr_of (args := [cfgV c, vI cl, vI sl, vI tp, vI ep]) (fn := Tryz.f14) (body := B14) (nt := 46) Tryz.func14 (by kernel_rfl) (by kernel_rfl) ?_
  intro F
  refine go_exec (rs := [.tmp 10]) (by kernel_rfl) 4000 [.z [0, 1] 0 [1, 2, 3, 4, 5]] (o := .new fun b_1 => .stop [.c [0, 1], .c [1, 1]] [(1, vI cl), (2, vI sl), (3, vI tp), (4, vI ep), (5, vP b_1)] [Ee1539 b_1 c]) (by kernel_rfl) ?_
  refine ok_new fun b_1 => ?_
  refine ok_stop ?_
  refine go_tail_op (so := .new fun b_2 => .ok (.value (vP b_2)) [Ee1539 b_1 c, E0836a b_2 c cl ep (slotAt c sl) (ctlAt c tp) (.nilFunc) 0 0 0 0]) (dst := (some 22)) (ps := [b_1 = b_1, b_1 = b_1, b_1 = b_1]) (cs := [(31, #[cfgV c, vI sl], vI (slotAt c sl)), (10, #[cfgV c, vI tp], vI (ctlAt c tp))]) [(0, .h (.e 0)), (1, .h .w), (2, .h .w), (3, .h (.e 0)), (4, .h .w), (5, .q (vI (slotAt c sl))), (6, .h (.e 0)), (7, .h .w), (8, .q (vI (ctlAt c tp))), (9, .h .w)] 10 [(11, .h .w)] .w [1, 5, 11] (by kernel_rfl) (by kernel_rfl) ⟨rfl, rfl, rfl, trivial⟩ ⟨⟨Tryz.call31, quiet_of [] (plan_Slot c sl (by first | assumption | omega | (simp only [InK] at *; omega))) (by kernel_rfl) (by rintro v post ⟨rfl, rfl⟩; exact ⟨rfl, rfl⟩)⟩, ⟨Tryz.call10, quiet_of [] (plan_Control c tp (by first | assumption | omega | (simp only [InK] at *; omega))) (by kernel_rfl) (by rintro v post ⟨rfl, rfl⟩; exact ⟨rfl, rfl⟩)⟩, trivial⟩ ?_
  refine sat_new fun b_2 => ?_
  refine sat_value ?_
  refine tail_next (tm' := [(1, vI cl), (5, vP b_1), (11, vP b_2)]) (ps2 := []) (by kernel_rfl) trivial ?_
  refine go_exec (rs := [.tmp 10]) (by kernel_rfl) 4000 [.z [0, 0, 1, 1] 0 [1, 5, 11]] (o := .stop [.c [0, 0, 1, 1], .c [1, 0, 1, 1], .c [1, 1, 1]] [(1, vI cl), (5, vP b_1), (11, vP b_2)] [Ee1539 b_1 c, E0836a b_2 c cl ep (slotAt c sl) (ctlAt c tp) (.nilFunc) 0 0 0 0]) (by kernel_rfl) ?_
  refine ok_stop ?_
  refine go_quiet (tm' := [(11, vP b_2), (39, .bool false)]) (ps := [b_2 = b_2, b_2 = b_2, (decide ((bMin (bMin (slotAt c sl) (ctlAt c tp)) cl) < 0)) = false, b_1 = b_1, (decide (cl ≥ c.clients)) = false]) (cs := []) [(0, .h .w), (1, .h .w), (2, .h .w), (3, .h (.e 1)), (4, .h .w), (5, .h .w), (6, .h .w), (7, .h (.e 1)), (8, .h .w), (9, .h .w), (10, .h (.t false)), (11, .h .w), (12, .h .w), (13, .h .w), (14, .h (.e 0)), (15, .h (.t false)), (16, .h .w)] [11, 39] (by kernel_rfl) (by kernel_rfl) ⟨rfl, rfl, (decide_eq_false (by have h1 := ctlAt_pos hc htp; have h2 := slotAt_ok hc hsl; unfold bMin; (repeat' split) <;> omega)), rfl, (decide_eq_false (by omega)), trivial⟩ trivial ?_
  refine go_exec (rs := [.tmp 10]) (by kernel_rfl) 4000 [.e 1] (o := .obl (b_2 = b_2) (.ret (vP b_2) [Ee1539 b_1 c, E0836a b_2 c cl ep (slotAt c sl) (ctlAt c tp) (.func (.func 58) #[vP b_2] #[]) 0 0 0 0])) (by kernel_rfl) ?_
  refine ok_obl rfl ?_
  exact ret_ok (post := [E0836a b_2 c cl ep (slotAt c sl) (ctlAt c tp) (.func (.func 58) #[vP b_2] #[]) 0 0 0 0]) [1] (by kernel_rfl) ⟨b_2, rfl, (by kernel_rfl)⟩

end Go.Proofs.YtilaihbbollcnaaGreatDoor


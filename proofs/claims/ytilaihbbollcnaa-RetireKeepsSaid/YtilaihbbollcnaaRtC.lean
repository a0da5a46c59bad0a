/- Walks: what functions of the program and of the document compute, part 3 of those on which RetireKeeps rests. -/
import Derived.Test.YtilaihbbollcnaaRtB

set_option linter.unusedVariables false
set_option linter.unusedSimpArgs false

namespace Go.Proofs.Ytilaihbbollcnaa
open Go.Sx
noncomputable def B9 : Code := (Try.f9.body).getD .skip

theorem law_arena (q : Qs)  :
    Ctr Try.prog 9 #[.agg #[vI q.slots, vI q.bits, vI q.others, vI q.m0, vI q.m1, vI q.m2, vI q.m3]] [] (fun v L => ∃ (ra : Nat) (A : Ar), v = vP ra ∧ L = [Eeb923 ra A false 0, E4b293 A (beginW (cfgN q.slots) q A.ws)] ∧ (ArW (cfgN q.slots) A 5000)) := by
  refine ctr_of (args := [.agg #[vI q.slots, vI q.bits, vI q.others, vI q.m0, vI q.m1, vI q.m2, vI q.m3]]) (fn := Try.f9) (body := B9) (nt := 81) Try.func9 (by kernel_rfl) (by kernel_rfl) ?_
  intro F
  have hc := cfgN_ok q.slots
  refine go_exec (rs := [.tmp 2]) (by kernel_rfl) 4000 [.e 0, .z [0, 1] 2 [1, 10]] (o := .new fun b_1 => .obl (b_1 = b_1) (.stop [.o [0, 1] 2, .c [1, 1]] [(1, vP b_1), (10, vI q.slots)] [Ea5c30 b_1 q.slots q.bits q.others q.m0 q.m1 q.m2 q.m3])) (by kernel_rfl) ?_
  refine ok_new fun b_1 => ?_
  refine ok_obl rfl ?_
  refine ok_stop ?_
  refine go_call (some 11) [] Try.call8 (law_config q.slots) (by kernel_rfl) ?_
  rintro v post ⟨rfl, rfl⟩
  refine go_exec (rs := [.tmp 2]) (by kernel_rfl) 4000 [.e 1, .e 1, .z [0, 1, 1] 1 [1, 3, 12]] (o := .new fun b_3 => .obl (b_3 = b_3) (.obl (b_3 = b_3) (.stop [.o [0, 1, 1] 1, .c [1, 1, 1]] [(1, vP b_1), (3, vP b_3), (12, cfgV (cfgN q.slots))] [Ea5c30 b_1 q.slots q.bits q.others q.m0 q.m1 q.m2 q.m3, Ee1539 b_3 (cfgN q.slots)]))) (by kernel_rfl) ?_
  refine ok_new fun b_3 => ?_
  refine ok_obl rfl ?_
  refine ok_obl rfl ?_
  refine ok_stop ?_
  refine go_call (some 13) [] Try.call35 (ref_Make (cfgN q.slots) hc) (by kernel_rfl) ?_
  rintro v post ⟨ra_4, A_5, rfl, rfl, hf_6⟩
  refine go_exec (rs := [.tmp 2]) (by kernel_rfl) 4000 [.z [0, 1, 0, 1, 1, 1] 0 [1, 3, 4, 5]] (o := .stop [.c [0, 1, 0, 1, 1, 1], .b 0, .c [1, 1, 1, 1]] [(1, vP b_1), (3, vP b_3), (4, vP ra_4), (5, vI 0)] [Ea5c30 b_1 q.slots q.bits q.others q.m0 q.m1 q.m2 q.m3, Ee1539 b_3 (cfgN q.slots), Eeb923 ra_4 A_5 false 0, E671ef A_5]) (by kernel_rfl) ?_
  refine ok_stop ?_
  have hA := hf_6
  have hA1 : A_5.ws.length = A_5.n := hA.1
  have hA2 : (A_5.n : Int) = sizeOfC (cfgN q.slots) := hA.2.1
  have hcs : (cfgN q.slots).slots = 1 + bAnd .i64 q.slots 3 := rfl
  have h3 := and3 q.slots
  have hsz := sizeOfC_ok hc
  refine go_loop (ι := Int × List Int) (fun j => [(1, vP b_1), (3, vP b_3), (4, vP ra_4), (5, vI j.1)]) (fun j => [Ea5c30 b_1 q.slots q.bits q.others q.m0 q.m1 q.m2 q.m3, Ee1539 b_3 (cfgN q.slots), Eeb923 ra_4 A_5 false 0, E4b293 A_5 j.2]) (fun j => slotsW (cfgN q.slots) q ((cfgN q.slots).slots - j.1).toNat j.1 j.2 = slotsW (cfgN q.slots) q (cfgN q.slots).slots.toNat 0 A_5.ws ∧ (0 ≤ j.1 ∧ j.1 ≤ (cfgN q.slots).slots) ∧ RngW j.2 ∧ j.2.length = A_5.n) (fun j => ((cfgN q.slots).slots - j.1).toNat) (0, A_5.ws) [1, 3, 4, 5] [0, 1, 2, 3] (by kernel_rfl) (by kernel_rfl) (by kernel_rfl) (by kernel_rfl) ⟨(by dsimp only; congr 1; omega), (by dsimp only; omega), hA.2.2.1, hA.1⟩ ?_
  intro j J_7 hIJ_7 hJ_7
  have hx := hIJ_7
  have hlen := hx.2.2.2
  refine go_exec (rs := [.tmp 2]) (by kernel_rfl) 4000 [.e 1, .sp [17] [.z [0, 0, 1, 0, 0, 1, 0, 1, 1, 1] 0 [1, 3, 4, 5]] [.u, .w, .e 2, .s 3, .j 3 3, .w, .z [0, 1, 1, 1, 0, 0, 1, 0, 0, 1, 0, 1, 1, 1, 1] 0 [1, 3, 4, 6, 7, 8]]] (o := .obl (b_3 = b_3) (.br (decide (j.1 < ((cfgN q.slots).slots))) (.stop [.c [0, 0, 1, 0, 0, 1, 0, 1, 1, 1], .b 1, .c [1, 1, 0, 0, 1, 0, 1, 1, 1], .j J_7, .b 0, .c [1, 1, 1, 1]] [(1, vP b_1), (3, vP b_3), (4, vP ra_4), (5, vI j.1)] [Ea5c30 b_1 q.slots q.bits q.others q.m0 q.m1 q.m2 q.m3, Ee1539 b_3 (cfgN q.slots), Eeb923 ra_4 A_5 false 0, E4b293 A_5 j.2]) (.obl (ra_4 = ra_4) (.obl (A_5.aw = A_5.aw ∧ A_5.n = j.2.length) (.obl ((0 : Int) ≤ 3 ∧ 3 < ((j.2.length : Nat) : Int)) (.obl (slAt A_5.aw 3 1 = slAt A_5.aw 3 1) (.obl (3 < j.2.length) (.ex fun x_8 : Int => .obl ([vU 0] = (encI .u64) x_8) (.stop [.c [0, 1, 1, 1, 0, 0, 1, 0, 0, 1, 0, 1, 1, 1, 1], .b 4, .b 3, .c [1, 1, 0, 0, 1, 0, 1, 1, 1, 1], .r [0, 1, 0, 1, 1, 1, 1], .b 2, .c [1, 1, 1, 1, 1]] [(1, vP b_1), (3, vP b_3), (4, vP ra_4), (6, vI 0), (7, vI 3), (8, vI 0)] [Ea5c30 b_1 q.slots q.bits q.others q.m0 q.m1 q.m2 q.m3, Ee1539 b_3 (cfgN q.slots), Eeb923 ra_4 A_5 false 0, E4b293 A_5 (j.2.set 3 x_8)]))))))))) (by kernel_rfl) ?_
  refine ok_obl rfl ?_
  refine ok_br (fun h_9 => ?_) (fun h_9 => ?_)
  · replace h_9 := decT h_9
    refine ok_stop ?_
    rcases (show j.1 = 0 ∨ j.1 = 1 ∨ j.1 = 2 ∨ j.1 = 3 from (by omega)) with hk|hk|hk|hk
    · refine go_cast (tm' := [(1, vP b_1), (3, vP b_3), (4, vP ra_4), (5, vI 0)]) (L' := [Ea5c30 b_1 q.slots q.bits q.others q.m0 q.m1 q.m2 q.m3, Ee1539 b_3 (cfgN q.slots), Eeb923 ra_4 A_5 false 0, E4b293 A_5 j.2]) (by rw [hk]) ?_
      refine go_tail_op (so := .obl (slAt A_5.aw ((slotAt (cfgN q.slots) 0).toNat) 1 = slAt A_5.aw ((slotAt (cfgN q.slots) 0).toNat) 1) (.obl ((slotAt (cfgN q.slots) 0).toNat < j.2.length) (.ex fun x_10 : Int => .obl ([vU (nameW q.m0)] = (encI .u64) x_10) (.ok .skip [Ea5c30 b_1 q.slots q.bits q.others q.m0 q.m1 q.m2 q.m3, Ee1539 b_3 (cfgN q.slots), Eeb923 ra_4 A_5 false 0, E4b293 A_5 (j.2.set ((slotAt (cfgN q.slots) 0).toNat) x_10)])))) (dst := none) (ps := [ra_4 = ra_4, b_3 = b_3, b_1 = b_1, A_5.aw = A_5.aw ∧ A_5.n = j.2.length, (0 : Int) ≤ (slotAt (cfgN q.slots) 0) ∧ (slotAt (cfgN q.slots) 0) < ((j.2.length : Nat) : Int)]) (cs := [(30, #[cfgV (cfgN q.slots), vI 0], vI (slotAt (cfgN q.slots) 0)), (18, #[vI q.m0], vU (nameW q.m0))]) [(0, .h .w), (1, .h .w), (2, .h .w), (3, .h (.e 2)), (4, .h (.e 1)), (5, .h .w), (6, .q (vI (slotAt (cfgN q.slots) 0))), (7, .h .w), (8, .h .w), (9, .h (.w)), (10, .h (.e 0)), (11, .q (vU (nameW q.m0))), (12, .h (.s 3))] 13 [] (.j 3 ((slotAt (cfgN q.slots) 0).toNat)) [1, 3, 4, 5] (by kernel_rfl) (by kernel_rfl) ⟨rfl, rfl, rfl, ⟨rfl, (by first | rfl | omega | (simp; done) | (simp; omega))⟩, (by first | omega | (have hq := slotAt_ok hc (i := j.1) (by omega); rw [hk] at hq; first | omega | (simp; omega)) | (simp; done) | (simp; omega)), trivial⟩ ⟨⟨Try.call30, quiet_of [] (ref_Slot (cfgN q.slots) 0 (by first | assumption | omega | (simp only [InK] at *; omega)) (by simp only [InK]; omega)) (by kernel_rfl) (by rintro v post ⟨rfl, rfl⟩; exact ⟨rfl, rfl⟩)⟩, ⟨Try.call18, quiet_of [] (law_name q.m0) (by kernel_rfl) (by rintro v post ⟨rfl, rfl⟩; exact ⟨rfl, rfl⟩)⟩, trivial⟩ ?_
      refine sat_obl rfl ?_
      refine sat_obl (by first | omega | (have hq := slotAt_ok hc (i := j.1) (by omega); rw [hk] at hq; first | omega | (simp; omega)) | (simp; done) | (simp; omega)) ?_
      refine sat_ex ((nameW q.m0) : Int) ?_
      refine sat_obl rfl ?_
      refine sat_skip ?_
      refine tail_next (tm' := [(1, vP b_1), (3, vP b_3), (4, vP ra_4), (5, vI 0)]) (ps2 := []) (by kernel_rfl) trivial ?_
      refine go_exec (rs := [.tmp 2]) (by kernel_rfl) 4000 [.w, .z [] 0 [1, 3, 4, 5]] (o := .stop [.j J_7, .b 0, .c [1, 1, 1, 1]] [(1, vP b_1), (3, vP b_3), (4, vP ra_4), (5, vI 1)] [Ea5c30 b_1 q.slots q.bits q.others q.m0 q.m1 q.m2 q.m3, Ee1539 b_3 (cfgN q.slots), Eeb923 ra_4 A_5 false 0, E4b293 A_5 (j.2.set ((slotAt (cfgN q.slots) 0).toNat) (nameW q.m0))]) (by kernel_rfl) ?_
      refine ok_stop ?_
      exact go_back hJ_7 (1, j.2.set ((slotAt (cfgN q.slots) 0).toNat) (nameW q.m0)) [0, 1, 2, 3] (by kernel_rfl) (by kernel_rfl) (by kernel_rfl) ⟨(by dsimp only; rw [← hx.1, slotsW_next (c := cfgN q.slots) (q := q) (i := j.1) (W := j.2) (by omega), hk]; rfl), (by dsimp only; omega), (by dsimp only; exact rngW_set hx.2.2.1 _ (nameW_rng _)), (by dsimp only; rw [List.length_set]; exact hx.2.2.2)⟩ (by dsimp only; omega)
    · refine go_cast (tm' := [(1, vP b_1), (3, vP b_3), (4, vP ra_4), (5, vI 1)]) (L' := [Ea5c30 b_1 q.slots q.bits q.others q.m0 q.m1 q.m2 q.m3, Ee1539 b_3 (cfgN q.slots), Eeb923 ra_4 A_5 false 0, E4b293 A_5 j.2]) (by rw [hk]) ?_
      refine go_tail_op (so := .obl (slAt A_5.aw ((slotAt (cfgN q.slots) 1).toNat) 1 = slAt A_5.aw ((slotAt (cfgN q.slots) 1).toNat) 1) (.obl ((slotAt (cfgN q.slots) 1).toNat < j.2.length) (.ex fun x_11 : Int => .obl ([vU (nameW q.m1)] = (encI .u64) x_11) (.ok .skip [Ea5c30 b_1 q.slots q.bits q.others q.m0 q.m1 q.m2 q.m3, Ee1539 b_3 (cfgN q.slots), Eeb923 ra_4 A_5 false 0, E4b293 A_5 (j.2.set ((slotAt (cfgN q.slots) 1).toNat) x_11)])))) (dst := none) (ps := [ra_4 = ra_4, b_3 = b_3, b_1 = b_1, A_5.aw = A_5.aw ∧ A_5.n = j.2.length, (0 : Int) ≤ (slotAt (cfgN q.slots) 1) ∧ (slotAt (cfgN q.slots) 1) < ((j.2.length : Nat) : Int)]) (cs := [(30, #[cfgV (cfgN q.slots), vI 1], vI (slotAt (cfgN q.slots) 1)), (18, #[vI q.m1], vU (nameW q.m1))]) [(0, .h .w), (1, .h .w), (2, .h .w), (3, .h (.e 2)), (4, .h (.e 1)), (5, .h .w), (6, .q (vI (slotAt (cfgN q.slots) 1))), (7, .h .w), (8, .h .w), (9, .h (.w)), (10, .h (.e 0)), (11, .q (vU (nameW q.m1))), (12, .h (.s 3))] 13 [] (.j 3 ((slotAt (cfgN q.slots) 1).toNat)) [1, 3, 4, 5] (by kernel_rfl) (by kernel_rfl) ⟨rfl, rfl, rfl, ⟨rfl, (by first | rfl | omega | (simp; done) | (simp; omega))⟩, (by first | omega | (have hq := slotAt_ok hc (i := j.1) (by omega); rw [hk] at hq; first | omega | (simp; omega)) | (simp; done) | (simp; omega)), trivial⟩ ⟨⟨Try.call30, quiet_of [] (ref_Slot (cfgN q.slots) 1 (by first | assumption | omega | (simp only [InK] at *; omega)) (by simp only [InK]; omega)) (by kernel_rfl) (by rintro v post ⟨rfl, rfl⟩; exact ⟨rfl, rfl⟩)⟩, ⟨Try.call18, quiet_of [] (law_name q.m1) (by kernel_rfl) (by rintro v post ⟨rfl, rfl⟩; exact ⟨rfl, rfl⟩)⟩, trivial⟩ ?_
      refine sat_obl rfl ?_
      refine sat_obl (by first | omega | (have hq := slotAt_ok hc (i := j.1) (by omega); rw [hk] at hq; first | omega | (simp; omega)) | (simp; done) | (simp; omega)) ?_
      refine sat_ex ((nameW q.m1) : Int) ?_
      refine sat_obl rfl ?_
      refine sat_skip ?_
      refine tail_next (tm' := [(1, vP b_1), (3, vP b_3), (4, vP ra_4), (5, vI 1)]) (ps2 := []) (by kernel_rfl) trivial ?_
      refine go_exec (rs := [.tmp 2]) (by kernel_rfl) 4000 [.w, .z [] 0 [1, 3, 4, 5]] (o := .stop [.j J_7, .b 0, .c [1, 1, 1, 1]] [(1, vP b_1), (3, vP b_3), (4, vP ra_4), (5, vI 2)] [Ea5c30 b_1 q.slots q.bits q.others q.m0 q.m1 q.m2 q.m3, Ee1539 b_3 (cfgN q.slots), Eeb923 ra_4 A_5 false 0, E4b293 A_5 (j.2.set ((slotAt (cfgN q.slots) 1).toNat) (nameW q.m1))]) (by kernel_rfl) ?_
      refine ok_stop ?_
      exact go_back hJ_7 (2, j.2.set ((slotAt (cfgN q.slots) 1).toNat) (nameW q.m1)) [0, 1, 2, 3] (by kernel_rfl) (by kernel_rfl) (by kernel_rfl) ⟨(by dsimp only; rw [← hx.1, slotsW_next (c := cfgN q.slots) (q := q) (i := j.1) (W := j.2) (by omega), hk]; rfl), (by dsimp only; omega), (by dsimp only; exact rngW_set hx.2.2.1 _ (nameW_rng _)), (by dsimp only; rw [List.length_set]; exact hx.2.2.2)⟩ (by dsimp only; omega)
    · refine go_cast (tm' := [(1, vP b_1), (3, vP b_3), (4, vP ra_4), (5, vI 2)]) (L' := [Ea5c30 b_1 q.slots q.bits q.others q.m0 q.m1 q.m2 q.m3, Ee1539 b_3 (cfgN q.slots), Eeb923 ra_4 A_5 false 0, E4b293 A_5 j.2]) (by rw [hk]) ?_
      refine go_tail_op (so := .obl (slAt A_5.aw ((slotAt (cfgN q.slots) 2).toNat) 1 = slAt A_5.aw ((slotAt (cfgN q.slots) 2).toNat) 1) (.obl ((slotAt (cfgN q.slots) 2).toNat < j.2.length) (.ex fun x_12 : Int => .obl ([vU (nameW q.m2)] = (encI .u64) x_12) (.ok .skip [Ea5c30 b_1 q.slots q.bits q.others q.m0 q.m1 q.m2 q.m3, Ee1539 b_3 (cfgN q.slots), Eeb923 ra_4 A_5 false 0, E4b293 A_5 (j.2.set ((slotAt (cfgN q.slots) 2).toNat) x_12)])))) (dst := none) (ps := [ra_4 = ra_4, b_3 = b_3, b_1 = b_1, A_5.aw = A_5.aw ∧ A_5.n = j.2.length, (0 : Int) ≤ (slotAt (cfgN q.slots) 2) ∧ (slotAt (cfgN q.slots) 2) < ((j.2.length : Nat) : Int)]) (cs := [(30, #[cfgV (cfgN q.slots), vI 2], vI (slotAt (cfgN q.slots) 2)), (18, #[vI q.m2], vU (nameW q.m2))]) [(0, .h .w), (1, .h .w), (2, .h .w), (3, .h (.e 2)), (4, .h (.e 1)), (5, .h .w), (6, .q (vI (slotAt (cfgN q.slots) 2))), (7, .h .w), (8, .h .w), (9, .h (.w)), (10, .h (.e 0)), (11, .q (vU (nameW q.m2))), (12, .h (.s 3))] 13 [] (.j 3 ((slotAt (cfgN q.slots) 2).toNat)) [1, 3, 4, 5] (by kernel_rfl) (by kernel_rfl) ⟨rfl, rfl, rfl, ⟨rfl, (by first | rfl | omega | (simp; done) | (simp; omega))⟩, (by first | omega | (have hq := slotAt_ok hc (i := j.1) (by omega); rw [hk] at hq; first | omega | (simp; omega)) | (simp; done) | (simp; omega)), trivial⟩ ⟨⟨Try.call30, quiet_of [] (ref_Slot (cfgN q.slots) 2 (by first | assumption | omega | (simp only [InK] at *; omega)) (by simp only [InK]; omega)) (by kernel_rfl) (by rintro v post ⟨rfl, rfl⟩; exact ⟨rfl, rfl⟩)⟩, ⟨Try.call18, quiet_of [] (law_name q.m2) (by kernel_rfl) (by rintro v post ⟨rfl, rfl⟩; exact ⟨rfl, rfl⟩)⟩, trivial⟩ ?_
      refine sat_obl rfl ?_
      refine sat_obl (by first | omega | (have hq := slotAt_ok hc (i := j.1) (by omega); rw [hk] at hq; first | omega | (simp; omega)) | (simp; done) | (simp; omega)) ?_
      refine sat_ex ((nameW q.m2) : Int) ?_
      refine sat_obl rfl ?_
      refine sat_skip ?_
      refine tail_next (tm' := [(1, vP b_1), (3, vP b_3), (4, vP ra_4), (5, vI 2)]) (ps2 := []) (by kernel_rfl) trivial ?_
      refine go_exec (rs := [.tmp 2]) (by kernel_rfl) 4000 [.w, .z [] 0 [1, 3, 4, 5]] (o := .stop [.j J_7, .b 0, .c [1, 1, 1, 1]] [(1, vP b_1), (3, vP b_3), (4, vP ra_4), (5, vI 3)] [Ea5c30 b_1 q.slots q.bits q.others q.m0 q.m1 q.m2 q.m3, Ee1539 b_3 (cfgN q.slots), Eeb923 ra_4 A_5 false 0, E4b293 A_5 (j.2.set ((slotAt (cfgN q.slots) 2).toNat) (nameW q.m2))]) (by kernel_rfl) ?_
      refine ok_stop ?_
      exact go_back hJ_7 (3, j.2.set ((slotAt (cfgN q.slots) 2).toNat) (nameW q.m2)) [0, 1, 2, 3] (by kernel_rfl) (by kernel_rfl) (by kernel_rfl) ⟨(by dsimp only; rw [← hx.1, slotsW_next (c := cfgN q.slots) (q := q) (i := j.1) (W := j.2) (by omega), hk]; rfl), (by dsimp only; omega), (by dsimp only; exact rngW_set hx.2.2.1 _ (nameW_rng _)), (by dsimp only; rw [List.length_set]; exact hx.2.2.2)⟩ (by dsimp only; omega)
    · refine go_cast (tm' := [(1, vP b_1), (3, vP b_3), (4, vP ra_4), (5, vI 3)]) (L' := [Ea5c30 b_1 q.slots q.bits q.others q.m0 q.m1 q.m2 q.m3, Ee1539 b_3 (cfgN q.slots), Eeb923 ra_4 A_5 false 0, E4b293 A_5 j.2]) (by rw [hk]) ?_
      refine go_tail_op (so := .obl (slAt A_5.aw ((slotAt (cfgN q.slots) 3).toNat) 1 = slAt A_5.aw ((slotAt (cfgN q.slots) 3).toNat) 1) (.obl ((slotAt (cfgN q.slots) 3).toNat < j.2.length) (.ex fun x_13 : Int => .obl ([vU (nameW q.m3)] = (encI .u64) x_13) (.ok .skip [Ea5c30 b_1 q.slots q.bits q.others q.m0 q.m1 q.m2 q.m3, Ee1539 b_3 (cfgN q.slots), Eeb923 ra_4 A_5 false 0, E4b293 A_5 (j.2.set ((slotAt (cfgN q.slots) 3).toNat) x_13)])))) (dst := none) (ps := [ra_4 = ra_4, b_3 = b_3, b_1 = b_1, A_5.aw = A_5.aw ∧ A_5.n = j.2.length, (0 : Int) ≤ (slotAt (cfgN q.slots) 3) ∧ (slotAt (cfgN q.slots) 3) < ((j.2.length : Nat) : Int)]) (cs := [(30, #[cfgV (cfgN q.slots), vI 3], vI (slotAt (cfgN q.slots) 3)), (18, #[vI q.m3], vU (nameW q.m3))]) [(0, .h .w), (1, .h .w), (2, .h .w), (3, .h (.e 2)), (4, .h (.e 1)), (5, .h .w), (6, .q (vI (slotAt (cfgN q.slots) 3))), (7, .h .w), (8, .h .w), (9, .h (.w)), (10, .h (.e 0)), (11, .q (vU (nameW q.m3))), (12, .h (.s 3))] 13 [] (.j 3 ((slotAt (cfgN q.slots) 3).toNat)) [1, 3, 4, 5] (by kernel_rfl) (by kernel_rfl) ⟨rfl, rfl, rfl, ⟨rfl, (by first | rfl | omega | (simp; done) | (simp; omega))⟩, (by first | omega | (have hq := slotAt_ok hc (i := j.1) (by omega); rw [hk] at hq; first | omega | (simp; omega)) | (simp; done) | (simp; omega)), trivial⟩ ⟨⟨Try.call30, quiet_of [] (ref_Slot (cfgN q.slots) 3 (by first | assumption | omega | (simp only [InK] at *; omega)) (by simp only [InK]; omega)) (by kernel_rfl) (by rintro v post ⟨rfl, rfl⟩; exact ⟨rfl, rfl⟩)⟩, ⟨Try.call18, quiet_of [] (law_name q.m3) (by kernel_rfl) (by rintro v post ⟨rfl, rfl⟩; exact ⟨rfl, rfl⟩)⟩, trivial⟩ ?_
      refine sat_obl rfl ?_
      refine sat_obl (by first | omega | (have hq := slotAt_ok hc (i := j.1) (by omega); rw [hk] at hq; first | omega | (simp; omega)) | (simp; done) | (simp; omega)) ?_
      refine sat_ex ((nameW q.m3) : Int) ?_
      refine sat_obl rfl ?_
      refine sat_skip ?_
      refine tail_next (tm' := [(1, vP b_1), (3, vP b_3), (4, vP ra_4), (5, vI 3)]) (ps2 := []) (by kernel_rfl) trivial ?_
      refine go_exec (rs := [.tmp 2]) (by kernel_rfl) 4000 [.w, .z [] 0 [1, 3, 4, 5]] (o := .stop [.j J_7, .b 0, .c [1, 1, 1, 1]] [(1, vP b_1), (3, vP b_3), (4, vP ra_4), (5, vI 4)] [Ea5c30 b_1 q.slots q.bits q.others q.m0 q.m1 q.m2 q.m3, Ee1539 b_3 (cfgN q.slots), Eeb923 ra_4 A_5 false 0, E4b293 A_5 (j.2.set ((slotAt (cfgN q.slots) 3).toNat) (nameW q.m3))]) (by kernel_rfl) ?_
      refine ok_stop ?_
      exact go_back hJ_7 (4, j.2.set ((slotAt (cfgN q.slots) 3).toNat) (nameW q.m3)) [0, 1, 2, 3] (by kernel_rfl) (by kernel_rfl) (by kernel_rfl) ⟨(by dsimp only; rw [← hx.1, slotsW_next (c := cfgN q.slots) (q := q) (i := j.1) (W := j.2) (by omega), hk]; rfl), (by dsimp only; omega), (by dsimp only; exact rngW_set hx.2.2.1 _ (nameW_rng _)), (by dsimp only; rw [List.length_set]; exact hx.2.2.2)⟩ (by dsimp only; omega)
  · replace h_9 := decF h_9
    refine ok_obl rfl ?_
    refine ok_obl ⟨rfl, (by first | rfl | omega | (simp; done) | (simp; omega))⟩ ?_
    refine ok_obl (by first | omega | (have hq := slotAt_ok hc (i := j.1) (by omega); rw [hk] at hq; first | omega | (simp; omega)) | (simp; done) | (simp; omega)) ?_
    refine ok_obl rfl ?_
    refine ok_obl (by first | omega | (have hq := slotAt_ok hc (i := j.1) (by omega); rw [hk] at hq; first | omega | (simp; omega)) | (simp; done) | (simp; omega)) ?_
    refine ok_ex (0 : Int) ?_
    refine ok_obl rfl ?_
    refine ok_stop ?_
    refine go_loop (ι := LkI) (fun l0 => [(1, vP b_1), (3, vP b_3), (4, vP ra_4), (6, vI 0), (7, vI l0.at_), (8, vI l0.i)]) (fun l0 => [Ea5c30 b_1 q.slots q.bits q.others q.m0 q.m1 q.m2 q.m3, Ee1539 b_3 (cfgN q.slots), Eeb923 ra_4 A_5 false 0, E4b293 A_5 l0.W]) (fun l0 => linkW (cfgN q.slots) q.bits (3 - l0.i).toNat l0.i l0.at_ l0.W = linkW (cfgN q.slots) q.bits 3 0 3 ((slotsW (cfgN q.slots) q (cfgN q.slots).slots.toNat 0 A_5.ws).set 3 0) ∧ (0 ≤ l0.i ∧ l0.i ≤ 3) ∧ (0 ≤ l0.at_ ∧ l0.at_ < (A_5.n : Int)) ∧ RngW l0.W ∧ l0.W.length = A_5.n) (fun l0 => (3 - l0.i).toNat) ⟨0, 3, j.2.set 3 0⟩ [1, 3, 4, 6, 7, 8] [0, 1, 2, 3] (by kernel_rfl) (by kernel_rfl) (by kernel_rfl) (by kernel_rfl) ⟨(by dsimp only; rw [← hx.1, slotsW_end (c := cfgN q.slots) (q := q) (i := j.1) (W := j.2) (by omega)]; rfl), (by dsimp only; omega), (by dsimp only; omega), (rngW_set hx.2.2.1 _ (by omega)), (by dsimp only; simp; omega)⟩ ?_
    intro l0 J_14 hIJ_14 hJ_14
    have hy0 := hIJ_14
    have hlen0 := hy0.2.2.2.2
    refine go_exec (rs := [.tmp 2]) (by kernel_rfl) 4000 [.w, .w, .sp [51] [.e 0, .n, .n, .sp [60] [.e 2, .n, .n, .s 3, .j 3 l0.at_.toNat, .e 1, .n, .z [0, 1, 0, 1, 0, 0, 1, 0, 0, 1, 1, 1, 0, 0, 1, 0, 0, 1, 0, 1, 1, 1, 1] 3 [1, 3, 4, 6, 8, 70, 72]] [.n, .z [] 0 [1, 3, 4, 6, 7, 8]]] [.w, .u, .w, .e 2, .s 3, .j 3 4, .w, .z [0, 1, 1, 1, 0, 0, 1, 0, 0, 1, 0, 1, 1, 1, 1] 0 [1, 3, 4, 6, 7, 8]]] (o := .br (decide (l0.i < 3)) (.obl (b_1 = b_1) (.obl (InK .u64 l0.i) (.obl ((0 : Int) ≤ l0.i) (.br ((bAnd .i64 (bShr .i64 q.bits l0.i) 1) == 0) (.obl (ra_4 = ra_4) (.obl (InK .i64 (l0.i + 1)) (.obl (InK .u64 (l0.i + 1)) (.obl (A_5.aw = A_5.aw ∧ A_5.n = l0.W.length) (.obl ((0 : Int) ≤ l0.at_ ∧ l0.at_ < ((l0.W.length : Nat) : Int)) (.obl (slAt A_5.aw l0.at_.toNat 1 = slAt A_5.aw l0.at_.toNat 1) (.obl (l0.at_.toNat < l0.W.length) (.ex fun x_15 : Int => .obl ([vU (l0.i + 1)] = (encI .u64) x_15) (.obl (b_3 = b_3) (.obl (InK .i64 (l0.i + 1)) (.stop [.o [0, 1, 0, 1, 0, 0, 1, 0, 0, 1, 1, 1, 0, 0, 1, 0, 0, 1, 0, 1, 1, 1, 1] 3, .c [1, 1, 0, 1, 0, 0, 1, 0, 0, 1, 1, 1, 0, 0, 1, 0, 0, 1, 0, 1, 1, 1, 1], .b 5, .c [1, 1, 0, 0, 1, 1, 1, 0, 0, 1, 0, 0, 1, 0, 1, 1, 1, 1], .j J_14, .b 4, .b 3, .c [1, 1, 0, 0, 1, 0, 1, 1, 1, 1], .r [0, 1, 0, 1, 1, 1, 1], .b 2, .c [1, 1, 1, 1, 1]] [(1, vP b_1), (3, vP b_3), (4, vP ra_4), (6, vI 0), (8, vI l0.i), (70, cfgV (cfgN q.slots)), (72, vI (l0.i + 1))] [Ea5c30 b_1 q.slots q.bits q.others q.m0 q.m1 q.m2 q.m3, Ee1539 b_3 (cfgN q.slots), Eeb923 ra_4 A_5 false 0, E4b293 A_5 (l0.W.set l0.at_.toNat x_15)]))))))))))) (.obl (InK .i64 (l0.i + 1)) (.stop [.j J_14, .b 4, .b 3, .c [1, 1, 0, 0, 1, 0, 1, 1, 1, 1], .r [0, 1, 0, 1, 1, 1, 1], .b 2, .c [1, 1, 1, 1, 1]] [(1, vP b_1), (3, vP b_3), (4, vP ra_4), (6, vI 0), (7, vI l0.at_), (8, vI (l0.i + 1))] [Ea5c30 b_1 q.slots q.bits q.others q.m0 q.m1 q.m2 q.m3, Ee1539 b_3 (cfgN q.slots), Eeb923 ra_4 A_5 false 0, E4b293 A_5 l0.W])))))) (.obl (ra_4 = ra_4) (.obl (A_5.aw = A_5.aw ∧ A_5.n = l0.W.length) (.obl ((0 : Int) ≤ 4 ∧ 4 < ((l0.W.length : Nat) : Int)) (.obl (slAt A_5.aw 4 1 = slAt A_5.aw 4 1) (.obl (4 < l0.W.length) (.ex fun x_16 : Int => .obl ([vU 0] = (encI .u64) x_16) (.stop [.c [0, 1, 1, 1, 0, 0, 1, 0, 0, 1, 0, 1, 1, 1, 1], .b 4, .b 3, .c [1, 1, 0, 0, 1, 0, 1, 1, 1, 1], .r [0, 1, 0, 1, 1, 1, 1], .b 2, .c [1, 1, 1, 1, 1]] [(1, vP b_1), (3, vP b_3), (4, vP ra_4), (6, vI 1), (7, vI 4), (8, vI 3)] [Ea5c30 b_1 q.slots q.bits q.others q.m0 q.m1 q.m2 q.m3, Ee1539 b_3 (cfgN q.slots), Eeb923 ra_4 A_5 false 0, E4b293 A_5 (l0.W.set 4 x_16)])))))))) (by kernel_rfl) ?_
    refine ok_br (fun h_17 => ?_) (fun h_17 => ?_)
    · replace h_17 := decT h_17
      refine ok_obl rfl ?_
      refine ok_obl (by simp only [InK]; omega) ?_
      refine ok_obl (by first | omega | (simp; done) | (simp; omega)) ?_
      refine ok_br (fun h_18 => ?_) (fun h_18 => ?_)
      · replace h_18 := beqT h_18
        refine ok_obl rfl ?_
        refine ok_obl (by simp only [InK]; omega) ?_
        refine ok_obl (by simp only [InK]; omega) ?_
        refine ok_obl ⟨rfl, (by first | rfl | omega | (simp; done) | (simp; omega))⟩ ?_
        refine ok_obl (by first | omega | (have hq := slotAt_ok hc (i := j.1) (by omega); rw [hk] at hq; first | omega | (simp; omega)) | (simp; done) | (simp; omega)) ?_
        refine ok_obl rfl ?_
        refine ok_obl (by first | omega | (have hq := slotAt_ok hc (i := j.1) (by omega); rw [hk] at hq; first | omega | (simp; omega)) | (simp; done) | (simp; omega)) ?_
        refine ok_ex ((l0.i + 1) : Int) ?_
        refine ok_obl rfl ?_
        refine ok_obl rfl ?_
        refine ok_obl (by simp only [InK]; omega) ?_
        refine ok_stop ?_
        refine go_call (some 73) [] Try.call36 (ref_Block (cfgN q.slots) (l0.i + 1) (by first | assumption | omega | (simp only [InK] at *; omega)) (by show 1 ≤ _ ∧ _ ≤ 3 + 3; omega)) (by kernel_rfl) ?_
        rintro v post ⟨rfl, rfl⟩
        refine go_exec (rs := [.tmp 2]) (by kernel_rfl) 4000 [.e 2, .s 3, .j 3 ((blockAt (cfgN q.slots) (l0.i + 1)).toNat), .n, .z [] 0 [1, 3, 4, 6, 7, 8]] (o := .obl (ra_4 = ra_4) (.obl (A_5.aw = A_5.aw ∧ A_5.n = (l0.W.set l0.at_.toNat (l0.i + 1)).length) (.obl ((0 : Int) ≤ (blockAt (cfgN q.slots) (l0.i + 1)) ∧ (blockAt (cfgN q.slots) (l0.i + 1)) < (((l0.W.set l0.at_.toNat (l0.i + 1)).length : Nat) : Int)) (.obl (slAt A_5.aw ((blockAt (cfgN q.slots) (l0.i + 1)).toNat) 1 = slAt A_5.aw ((blockAt (cfgN q.slots) (l0.i + 1)).toNat) 1) (.obl ((blockAt (cfgN q.slots) (l0.i + 1)).toNat < (l0.W.set l0.at_.toNat (l0.i + 1)).length) (.ex fun x_19 : Int => .obl ([vU 0] = (encI .u64) x_19) (.obl (InK .i64 (l0.i + 1)) (.stop [.j J_14, .b 4, .b 3, .c [1, 1, 0, 0, 1, 0, 1, 1, 1, 1], .r [0, 1, 0, 1, 1, 1, 1], .b 2, .c [1, 1, 1, 1, 1]] [(1, vP b_1), (3, vP b_3), (4, vP ra_4), (6, vI 0), (7, vI (blockAt (cfgN q.slots) (l0.i + 1))), (8, vI (l0.i + 1))] [Ea5c30 b_1 q.slots q.bits q.others q.m0 q.m1 q.m2 q.m3, Ee1539 b_3 (cfgN q.slots), Eeb923 ra_4 A_5 false 0, E4b293 A_5 ((l0.W.set l0.at_.toNat (l0.i + 1)).set ((blockAt (cfgN q.slots) (l0.i + 1)).toNat) x_19)])))))))) (by kernel_rfl) ?_
        refine ok_obl rfl ?_
        refine ok_obl ⟨rfl, (by first | rfl | omega | (simp; done) | (simp; omega))⟩ ?_
        refine ok_obl (by have hq := blockAt_ok hc (clsOf_pos (c := cfgN q.slots) (b := l0.i + 1) (by show 1 ≤ _ ∧ _ ≤ 3 + 3; omega)); first | omega | (simp; omega)) ?_
        refine ok_obl rfl ?_
        refine ok_obl (by have hq := blockAt_ok hc (clsOf_pos (c := cfgN q.slots) (b := l0.i + 1) (by show 1 ≤ _ ∧ _ ≤ 3 + 3; omega)); first | omega | (simp; omega)) ?_
        refine ok_ex (0 : Int) ?_
        refine ok_obl rfl ?_
        refine ok_obl (by simp only [InK]; omega) ?_
        refine ok_stop ?_
        exact go_back hJ_14 (⟨(l0.i + 1), blockAt (cfgN q.slots) (l0.i + 1), (l0.W.set l0.at_.toNat (l0.i + 1)).set ((blockAt (cfgN q.slots) (l0.i + 1)).toNat) 0⟩ : LkI) [0, 1, 2, 3] (by kernel_rfl) (by kernel_rfl) (by kernel_rfl) (by first | exact ⟨(by dsimp only; rw [← hy0.1, linkW_yes (c := cfgN q.slots) (bits := q.bits) (e := 3) (i := l0.i) (at_ := l0.at_) (W := l0.W) (by omega) (by assumption)]), (by dsimp only; omega), (by dsimp only; have := blockAt_ok hc (clsOf_pos (c := cfgN q.slots) (b := l0.i + 1) (by show 1 ≤ l0.i + 1 ∧ l0.i + 1 ≤ 3 + 3; omega)); omega), rngW_set (rngW_set hy0.2.2.2.1 _ (by omega)) _ (by omega), (by dsimp only; simp; omega)⟩ | exact ⟨(by dsimp only; rw [← hy0.1, linkW_no (c := cfgN q.slots) (bits := q.bits) (e := 3) (i := l0.i) (at_ := l0.at_) (W := l0.W) (by omega) (by assumption)]), (by dsimp only; omega), hy0.2.2.1, hy0.2.2.2.1, hy0.2.2.2.2⟩) (by dsimp only; omega)
      · replace h_18 := beqF h_18
        refine ok_obl (by simp only [InK]; omega) ?_
        refine ok_stop ?_
        exact go_back hJ_14 (⟨(l0.i + 1), l0.at_, l0.W⟩ : LkI) [0, 1, 2, 3] (by kernel_rfl) (by kernel_rfl) (by kernel_rfl) (by first | exact ⟨(by dsimp only; rw [← hy0.1, linkW_yes (c := cfgN q.slots) (bits := q.bits) (e := 3) (i := l0.i) (at_ := l0.at_) (W := l0.W) (by omega) (by assumption)]), (by dsimp only; omega), (by dsimp only; have := blockAt_ok hc (clsOf_pos (c := cfgN q.slots) (b := l0.i + 1) (by show 1 ≤ l0.i + 1 ∧ l0.i + 1 ≤ 3 + 3; omega)); omega), rngW_set (rngW_set hy0.2.2.2.1 _ (by omega)) _ (by omega), (by dsimp only; simp; omega)⟩ | exact ⟨(by dsimp only; rw [← hy0.1, linkW_no (c := cfgN q.slots) (bits := q.bits) (e := 3) (i := l0.i) (at_ := l0.at_) (W := l0.W) (by omega) (by assumption)]), (by dsimp only; omega), hy0.2.2.1, hy0.2.2.2.1, hy0.2.2.2.2⟩) (by dsimp only; omega)
    · replace h_17 := decF h_17
      refine ok_obl rfl ?_
      refine ok_obl ⟨rfl, (by first | rfl | omega | (simp; done) | (simp; omega))⟩ ?_
      refine ok_obl (by first | omega | (have hq := slotAt_ok hc (i := j.1) (by omega); rw [hk] at hq; first | omega | (simp; omega)) | (simp; done) | (simp; omega)) ?_
      refine ok_obl rfl ?_
      refine ok_obl (by first | omega | (have hq := slotAt_ok hc (i := j.1) (by omega); rw [hk] at hq; first | omega | (simp; omega)) | (simp; done) | (simp; omega)) ?_
      refine ok_ex (0 : Int) ?_
      refine ok_obl rfl ?_
      refine ok_stop ?_
      refine go_loop (ι := LkI) (fun l1 => [(1, vP b_1), (3, vP b_3), (4, vP ra_4), (6, vI 1), (7, vI l1.at_), (8, vI l1.i)]) (fun l1 => [Ea5c30 b_1 q.slots q.bits q.others q.m0 q.m1 q.m2 q.m3, Ee1539 b_3 (cfgN q.slots), Eeb923 ra_4 A_5 false 0, E4b293 A_5 l1.W]) (fun l1 => linkW (cfgN q.slots) q.bits (6 - l1.i).toNat l1.i l1.at_ l1.W = linkW (cfgN q.slots) q.bits 3 3 4 ((linkW (cfgN q.slots) q.bits 3 0 3 ((slotsW (cfgN q.slots) q (cfgN q.slots).slots.toNat 0 A_5.ws).set 3 0)).set 4 0) ∧ (3 ≤ l1.i ∧ l1.i ≤ 6) ∧ (0 ≤ l1.at_ ∧ l1.at_ < (A_5.n : Int)) ∧ RngW l1.W ∧ l1.W.length = A_5.n) (fun l1 => (6 - l1.i).toNat) ⟨3, 4, l0.W.set 4 0⟩ [1, 3, 4, 6, 7, 8] [0, 1, 2, 3] (by kernel_rfl) (by kernel_rfl) (by kernel_rfl) (by kernel_rfl) ⟨(by dsimp only; rw [← hy0.1, linkW_end (c := cfgN q.slots) (bits := q.bits) (e := 3) (i := l0.i) (at_ := l0.at_) (W := l0.W) (by omega)]; rfl), (by dsimp only; omega), (by dsimp only; omega), (rngW_set hy0.2.2.2.1 _ (by omega)), (by dsimp only; simp; omega)⟩ ?_
      intro l1 J_20 hIJ_20 hJ_20
      have hy1 := hIJ_20
      have hlen1 := hy1.2.2.2.2
      refine go_exec (rs := [.tmp 2]) (by kernel_rfl) 4000 [.w, .w, .sp [51] [.e 0, .n, .n, .sp [60] [.e 2, .n, .n, .s 3, .j 3 l1.at_.toNat, .e 1, .n, .z [0, 1, 0, 1, 0, 0, 1, 0, 0, 1, 1, 1, 0, 0, 1, 0, 0, 1, 0, 1, 1, 1, 1] 3 [1, 3, 4, 6, 8, 70, 72]] [.n, .z [] 0 [1, 3, 4, 6, 7, 8]]] [.w, .u]] (o := .br (decide (l1.i < 6)) (.obl (b_1 = b_1) (.obl (InK .u64 l1.i) (.obl ((0 : Int) ≤ l1.i) (.br ((bAnd .i64 (bShr .i64 q.bits l1.i) 1) == 0) (.obl (ra_4 = ra_4) (.obl (InK .i64 (l1.i + 1)) (.obl (InK .u64 (l1.i + 1)) (.obl (A_5.aw = A_5.aw ∧ A_5.n = l1.W.length) (.obl ((0 : Int) ≤ l1.at_ ∧ l1.at_ < ((l1.W.length : Nat) : Int)) (.obl (slAt A_5.aw l1.at_.toNat 1 = slAt A_5.aw l1.at_.toNat 1) (.obl (l1.at_.toNat < l1.W.length) (.ex fun x_21 : Int => .obl ([vU (l1.i + 1)] = (encI .u64) x_21) (.obl (b_3 = b_3) (.obl (InK .i64 (l1.i + 1)) (.stop [.o [0, 1, 0, 1, 0, 0, 1, 0, 0, 1, 1, 1, 0, 0, 1, 0, 0, 1, 0, 1, 1, 1, 1] 3, .c [1, 1, 0, 1, 0, 0, 1, 0, 0, 1, 1, 1, 0, 0, 1, 0, 0, 1, 0, 1, 1, 1, 1], .b 5, .c [1, 1, 0, 0, 1, 1, 1, 0, 0, 1, 0, 0, 1, 0, 1, 1, 1, 1], .j J_20, .b 4, .b 3, .c [1, 1, 0, 0, 1, 0, 1, 1, 1, 1], .r [0, 1, 0, 1, 1, 1, 1], .b 2, .c [1, 1, 1, 1, 1]] [(1, vP b_1), (3, vP b_3), (4, vP ra_4), (6, vI 1), (8, vI l1.i), (70, cfgV (cfgN q.slots)), (72, vI (l1.i + 1))] [Ea5c30 b_1 q.slots q.bits q.others q.m0 q.m1 q.m2 q.m3, Ee1539 b_3 (cfgN q.slots), Eeb923 ra_4 A_5 false 0, E4b293 A_5 (l1.W.set l1.at_.toNat x_21)]))))))))))) (.obl (InK .i64 (l1.i + 1)) (.stop [.j J_20, .b 4, .b 3, .c [1, 1, 0, 0, 1, 0, 1, 1, 1, 1], .r [0, 1, 0, 1, 1, 1, 1], .b 2, .c [1, 1, 1, 1, 1]] [(1, vP b_1), (3, vP b_3), (4, vP ra_4), (6, vI 1), (7, vI l1.at_), (8, vI (l1.i + 1))] [Ea5c30 b_1 q.slots q.bits q.others q.m0 q.m1 q.m2 q.m3, Ee1539 b_3 (cfgN q.slots), Eeb923 ra_4 A_5 false 0, E4b293 A_5 l1.W])))))) (.ret (vP ra_4) [Ea5c30 b_1 q.slots q.bits q.others q.m0 q.m1 q.m2 q.m3, Ee1539 b_3 (cfgN q.slots), Eeb923 ra_4 A_5 false 0, E4b293 A_5 l1.W])) (by kernel_rfl) ?_
      refine ok_br (fun h_22 => ?_) (fun h_22 => ?_)
      · replace h_22 := decT h_22
        refine ok_obl rfl ?_
        refine ok_obl (by simp only [InK]; omega) ?_
        refine ok_obl (by first | omega | (simp; done) | (simp; omega)) ?_
        refine ok_br (fun h_23 => ?_) (fun h_23 => ?_)
        · replace h_23 := beqT h_23
          refine ok_obl rfl ?_
          refine ok_obl (by simp only [InK]; omega) ?_
          refine ok_obl (by simp only [InK]; omega) ?_
          refine ok_obl ⟨rfl, (by first | rfl | omega | (simp; done) | (simp; omega))⟩ ?_
          refine ok_obl (by first | omega | (have hq := slotAt_ok hc (i := j.1) (by omega); rw [hk] at hq; first | omega | (simp; omega)) | (simp; done) | (simp; omega)) ?_
          refine ok_obl rfl ?_
          refine ok_obl (by first | omega | (have hq := slotAt_ok hc (i := j.1) (by omega); rw [hk] at hq; first | omega | (simp; omega)) | (simp; done) | (simp; omega)) ?_
          refine ok_ex ((l1.i + 1) : Int) ?_
          refine ok_obl rfl ?_
          refine ok_obl rfl ?_
          refine ok_obl (by simp only [InK]; omega) ?_
          refine ok_stop ?_
          refine go_call (some 73) [] Try.call36 (ref_Block (cfgN q.slots) (l1.i + 1) (by first | assumption | omega | (simp only [InK] at *; omega)) (by show 1 ≤ _ ∧ _ ≤ 3 + 3; omega)) (by kernel_rfl) ?_
          rintro v post ⟨rfl, rfl⟩
          refine go_exec (rs := [.tmp 2]) (by kernel_rfl) 4000 [.e 2, .s 3, .j 3 ((blockAt (cfgN q.slots) (l1.i + 1)).toNat), .n, .z [] 0 [1, 3, 4, 6, 7, 8]] (o := .obl (ra_4 = ra_4) (.obl (A_5.aw = A_5.aw ∧ A_5.n = (l1.W.set l1.at_.toNat (l1.i + 1)).length) (.obl ((0 : Int) ≤ (blockAt (cfgN q.slots) (l1.i + 1)) ∧ (blockAt (cfgN q.slots) (l1.i + 1)) < (((l1.W.set l1.at_.toNat (l1.i + 1)).length : Nat) : Int)) (.obl (slAt A_5.aw ((blockAt (cfgN q.slots) (l1.i + 1)).toNat) 1 = slAt A_5.aw ((blockAt (cfgN q.slots) (l1.i + 1)).toNat) 1) (.obl ((blockAt (cfgN q.slots) (l1.i + 1)).toNat < (l1.W.set l1.at_.toNat (l1.i + 1)).length) (.ex fun x_24 : Int => .obl ([vU 0] = (encI .u64) x_24) (.obl (InK .i64 (l1.i + 1)) (.stop [.j J_20, .b 4, .b 3, .c [1, 1, 0, 0, 1, 0, 1, 1, 1, 1], .r [0, 1, 0, 1, 1, 1, 1], .b 2, .c [1, 1, 1, 1, 1]] [(1, vP b_1), (3, vP b_3), (4, vP ra_4), (6, vI 1), (7, vI (blockAt (cfgN q.slots) (l1.i + 1))), (8, vI (l1.i + 1))] [Ea5c30 b_1 q.slots q.bits q.others q.m0 q.m1 q.m2 q.m3, Ee1539 b_3 (cfgN q.slots), Eeb923 ra_4 A_5 false 0, E4b293 A_5 ((l1.W.set l1.at_.toNat (l1.i + 1)).set ((blockAt (cfgN q.slots) (l1.i + 1)).toNat) x_24)])))))))) (by kernel_rfl) ?_
          refine ok_obl rfl ?_
          refine ok_obl ⟨rfl, (by first | rfl | omega | (simp; done) | (simp; omega))⟩ ?_
          refine ok_obl (by have hq := blockAt_ok hc (clsOf_pos (c := cfgN q.slots) (b := l1.i + 1) (by show 1 ≤ _ ∧ _ ≤ 3 + 3; omega)); first | omega | (simp; omega)) ?_
          refine ok_obl rfl ?_
          refine ok_obl (by have hq := blockAt_ok hc (clsOf_pos (c := cfgN q.slots) (b := l1.i + 1) (by show 1 ≤ _ ∧ _ ≤ 3 + 3; omega)); first | omega | (simp; omega)) ?_
          refine ok_ex (0 : Int) ?_
          refine ok_obl rfl ?_
          refine ok_obl (by simp only [InK]; omega) ?_
          refine ok_stop ?_
          exact go_back hJ_20 (⟨(l1.i + 1), blockAt (cfgN q.slots) (l1.i + 1), (l1.W.set l1.at_.toNat (l1.i + 1)).set ((blockAt (cfgN q.slots) (l1.i + 1)).toNat) 0⟩ : LkI) [0, 1, 2, 3] (by kernel_rfl) (by kernel_rfl) (by kernel_rfl) (by first | exact ⟨(by dsimp only; rw [← hy1.1, linkW_yes (c := cfgN q.slots) (bits := q.bits) (e := 6) (i := l1.i) (at_ := l1.at_) (W := l1.W) (by omega) (by assumption)]), (by dsimp only; omega), (by dsimp only; have := blockAt_ok hc (clsOf_pos (c := cfgN q.slots) (b := l1.i + 1) (by show 1 ≤ l1.i + 1 ∧ l1.i + 1 ≤ 3 + 3; omega)); omega), rngW_set (rngW_set hy1.2.2.2.1 _ (by omega)) _ (by omega), (by dsimp only; simp; omega)⟩ | exact ⟨(by dsimp only; rw [← hy1.1, linkW_no (c := cfgN q.slots) (bits := q.bits) (e := 6) (i := l1.i) (at_ := l1.at_) (W := l1.W) (by omega) (by assumption)]), (by dsimp only; omega), hy1.2.2.1, hy1.2.2.2.1, hy1.2.2.2.2⟩) (by dsimp only; omega)
        · replace h_23 := beqF h_23
          refine ok_obl (by simp only [InK]; omega) ?_
          refine ok_stop ?_
          exact go_back hJ_20 (⟨(l1.i + 1), l1.at_, l1.W⟩ : LkI) [0, 1, 2, 3] (by kernel_rfl) (by kernel_rfl) (by kernel_rfl) (by first | exact ⟨(by dsimp only; rw [← hy1.1, linkW_yes (c := cfgN q.slots) (bits := q.bits) (e := 6) (i := l1.i) (at_ := l1.at_) (W := l1.W) (by omega) (by assumption)]), (by dsimp only; omega), (by dsimp only; have := blockAt_ok hc (clsOf_pos (c := cfgN q.slots) (b := l1.i + 1) (by show 1 ≤ l1.i + 1 ∧ l1.i + 1 ≤ 3 + 3; omega)); omega), rngW_set (rngW_set hy1.2.2.2.1 _ (by omega)) _ (by omega), (by dsimp only; simp; omega)⟩ | exact ⟨(by dsimp only; rw [← hy1.1, linkW_no (c := cfgN q.slots) (bits := q.bits) (e := 6) (i := l1.i) (at_ := l1.at_) (W := l1.W) (by omega) (by assumption)]), (by dsimp only; omega), hy1.2.2.1, hy1.2.2.2.1, hy1.2.2.2.2⟩) (by dsimp only; omega)
      · replace h_22 := decF h_22
        have eW : beginW (cfgN q.slots) q A_5.ws = l1.W := by
          unfold beginW; rw [← linkW_end (c := cfgN q.slots) (bits := q.bits) (e := 6) (i := l1.i) (at_ := l1.at_) (W := l1.W) (by omega)]; exact hy1.1.symm
        exact ret_ok (post := [Eeb923 ra_4 A_5 false 0, E4b293 A_5 l1.W]) [2, 3] (by kernel_rfl) ⟨ra_4, A_5, rfl, (by rw [eW]), hA⟩

end Go.Proofs.Ytilaihbbollcnaa


namespace Go.Proofs.Ytilaihbbollcnaa
open Go.Sx
noncomputable def B22 : Code := (Try.f22.body).getD .skip

theorem ref_Has (a : Option Addr) (c c0 n : Nat) (xs : List Int) (v_ : Int) (hn : n ≤ xs.length) (hl : n ≤ 1000000) :
    Ctr Try.prog 22 #[.slice a n c, vI v_] [Ee1326 a c0 xs] (Ret (.bool (hasN xs n v_)) [Ee1326 a c0 xs]) := by
  refine ctr_of (args := [.slice a n c, vI v_]) (fn := Try.f22) (body := B22) (nt := 18) Try.func22 (by kernel_rfl) (by kernel_rfl) ?_
  intro F
  refine go_exec (rs := [.tmp 4]) (by kernel_rfl) 4000 [.z [0, 1, 0, 1] 0 [0, 1, 5]] (o := .stop [.c [0, 1, 0, 1], .b 0, .c [1, 1]] [(0, .slice a n c), (1, vI v_), (5, vI 0)] [Ee1326 a c0 xs]) (by kernel_rfl) ?_
  refine ok_stop ?_
  refine go_loop (ι := Int) (fun i => [(0, .slice a n c), (1, vI v_), (5, vI i)]) (fun i => [Ee1326 a c0 xs]) (fun i => (0 ≤ i ∧ i ≤ (n : Int)) ∧ ∀ j : Nat, (j : Int) < i → xs.getD j 0 ≠ v_) (fun i => ((n : Int) - i).toNat) 0 [0, 1, 5] [0] (by kernel_rfl) (by kernel_rfl) (by kernel_rfl) (by kernel_rfl) ⟨(by omega), fun j h => (by omega)⟩ ?_
  intro i J_1 hIJ_1 hJ_1
  have hx := hIJ_1
  refine go_exec (rs := [.tmp 4]) (by kernel_rfl) 4000 [.sp [9] [.z [0, 0, 0, 1, 0, 0, 1, 0, 1] 2 [0, 1, 5, 12, 13]] []] (o := .br (decide (i < ((n : Nat) : Int))) (.stop [.o [0, 0, 0, 1, 0, 0, 1, 0, 1] 2, .c [1, 0, 0, 1, 0, 0, 1, 0, 1], .b 1, .c [1, 1, 0, 0, 1, 0, 1], .j J_1, .b 0, .c [1, 1]] [(0, .slice a n c), (1, vI v_), (5, vI i), (12, .slice a n c), (13, vI i)] [Ee1326 a c0 xs]) (.ret (.bool false) [Ee1326 a c0 xs])) (by kernel_rfl) ?_
  refine ok_br (fun h_2 => ?_) (fun h_2 => ?_)
  · replace h_2 := decT h_2
    refine ok_stop ?_
    refine go_by (some 14) (ipO Try.prog _) (some (.slice a n c, vI i, 1)) (R_ixP 0 (a := a) (c := c0) (enc := encI .i64) (d := 0) (sz := 1) (xs := xs) (te := 3)  (by kernel_rfl) n c .i64 i (by omega) (by omega)) (by kernel_rfl) ?_
    rintro v L2 ⟨rfl, rfl⟩
    refine go_exec (rs := [.tmp 4]) (by kernel_rfl) 4000 [.j 0 i.toNat, .sp [17] [] [.n, .z [] 0 [0, 1, 5]]] (o := .obl (slAt a i.toNat 1 = slAt a i.toNat 1) (.obl (i.toNat < xs.length) (.br ((xs.getD i.toNat 0) == v_) (.ret (.bool true) [Ee1326 a c0 xs]) (.obl (InK .i64 (i + 1)) (.stop [.j J_1, .b 0, .c [1, 1]] [(0, .slice a n c), (1, vI v_), (5, vI (i + 1))] [Ee1326 a c0 xs]))))) (by kernel_rfl) ?_
    refine ok_obl rfl ?_
    refine ok_obl (by first | omega | (simp; done) | (simp; omega)) ?_
    refine ok_br (fun h_3 => ?_) (fun h_3 => ?_)
    · replace h_3 := beqT h_3
      exact ret_ok (post := [Ee1326 a c0 xs]) [0] (by kernel_rfl) ⟨(congrArg Value.bool (hasN_yes (i := i) (by omega) hn (by assumption)).symm), (by kernel_rfl)⟩
    · replace h_3 := beqF h_3
      refine ok_obl (by simp only [InK]; omega) ?_
      refine ok_stop ?_
      exact go_back hJ_1 (i + 1) [0] (by kernel_rfl) (by kernel_rfl) (by kernel_rfl) ⟨(by omega), has_step hx.2 hx.1.1 (by assumption)⟩ (by omega)
  · replace h_2 := decF h_2
    exact ret_ok (post := [Ee1326 a c0 xs]) [0] (by kernel_rfl) ⟨(congrArg Value.bool (hasN_no hx.2 (by omega)).symm), (by kernel_rfl)⟩

noncomputable def B27 : Code := (Try.f27.body).getD .skip

theorem same_i64 (a b : Option Addr) (c d : Nat) (xs ys : List Int) (hl : xs.length ≤ 1000000) :
    Ctr Try.prog 27 #[.slice a xs.length c, .slice b ys.length d] [Ee1326 a c xs, Ee1326 b d ys] (Ret (.bool (xs == ys)) [Ee1326 a c xs, Ee1326 b d ys]) := by
  refine ctr_of (args := [.slice a xs.length c, .slice b ys.length d]) (fn := Try.f27) (body := B27) (nt := 26) Try.func27 (by kernel_rfl) (by kernel_rfl) ?_
  intro F
  refine go_exec (rs := [.tmp 4]) (by kernel_rfl) 4000 [.sp [10] [] [.z [0, 1, 0, 1, 1] 0 [0, 1, 5]]] (o := .br (((xs.length : Nat) : Int) != ((ys.length : Nat) : Int)) (.ret (.bool false) [Ee1326 a c xs, Ee1326 b d ys]) (.stop [.c [0, 1, 0, 1, 1], .b 0, .c [1, 1, 1]] [(0, .slice a xs.length c), (1, .slice b ys.length d), (5, vI 0)] [Ee1326 a c xs, Ee1326 b d ys])) (by kernel_rfl) ?_
  refine ok_br (fun h_1 => ?_) (fun h_1 => ?_)
  · replace h_1 := bneT h_1
    exact ret_ok (post := [Ee1326 a c xs, Ee1326 b d ys]) [0, 1] (by kernel_rfl) ⟨(congrArg Value.bool (by first | exact (same_len (by assumption)).symm | exact (same_no (by assumption)).symm)), (by kernel_rfl)⟩
  · replace h_1 := bneF h_1
    refine ok_stop ?_
    refine go_loop (ι := Int) (fun i => [(0, .slice a xs.length c), (1, .slice b ys.length d), (5, vI i)]) (fun i => [Ee1326 a c xs, Ee1326 b d ys]) (fun i => (0 ≤ i ∧ i ≤ (xs.length : Int)) ∧ ∀ j : Nat, (j : Int) < i → xs.getD j 0 = ys.getD j 0) (fun i => ((xs.length : Int) - i).toNat) 0 [0, 1, 5] [0, 1] (by kernel_rfl) (by kernel_rfl) (by kernel_rfl) (by kernel_rfl) ⟨(by omega), fun j h => (by omega)⟩ ?_
    intro i J_2 hIJ_2 hJ_2
    have hx := hIJ_2
    refine go_exec (rs := [.tmp 4]) (by kernel_rfl) 4000 [.sp [14] [.z [0, 0, 0, 1, 0, 0, 1, 0, 1, 1] 0 [0, 1, 5]] []] (o := .br (decide (i < ((xs.length : Nat) : Int))) (.stop [.c [0, 0, 0, 1, 0, 0, 1, 0, 1, 1], .c [1, 0, 0, 1, 0, 0, 1, 0, 1, 1], .b 1, .c [1, 1, 0, 0, 1, 0, 1, 1], .j J_2, .b 0, .c [1, 1, 1]] [(0, .slice a xs.length c), (1, .slice b ys.length d), (5, vI i)] [Ee1326 a c xs, Ee1326 b d ys]) (.ret (.bool true) [Ee1326 a c xs, Ee1326 b d ys])) (by kernel_rfl) ?_
    refine ok_br (fun h_3 => ?_) (fun h_3 => ?_)
    · replace h_3 := decT h_3
      refine ok_stop ?_
      refine go_quiet (tm' := [(0, .slice a xs.length c), (1, .slice b ys.length d), (5, vI i), (25, .bool ((xs.getD i.toNat 0) != (ys.getD i.toNat 0)))]) (ps := [a = a ∧ xs.length = xs.length, (0 : Int) ≤ i ∧ i < ((xs.length : Nat) : Int), slAt a i.toNat 1 = slAt a i.toNat 1, i.toNat < xs.length, b = b ∧ ys.length = ys.length, (0 : Int) ≤ i ∧ i < ((ys.length : Nat) : Int), slAt b i.toNat 1 = slAt b i.toNat 1, i.toNat < ys.length]) (cs := []) [(0, .h .w), (1, .h .w), (2, .h (.s 0)), (3, .h (.j 0 i.toNat)), (4, .h .w), (5, .h .w), (6, .h (.s 1)), (7, .h (.j 1 i.toNat)), (8, .h .w)] [0, 1, 5, 25] (by kernel_rfl) (by kernel_rfl) ⟨⟨rfl, (by first | rfl | omega | (simp; done) | (simp; omega))⟩, (by first | omega | (simp; done) | (simp; omega)), rfl, (by first | omega | (simp; done) | (simp; omega)), ⟨rfl, (by first | rfl | omega | (simp; done) | (simp; omega))⟩, (by first | omega | (simp; done) | (simp; omega)), rfl, (by first | omega | (simp; done) | (simp; omega)), trivial⟩ trivial ?_
      refine go_exec (rs := [.tmp 4]) (by kernel_rfl) 4000 [.sp [25] [] [.n, .z [] 0 [0, 1, 5]]] (o := .br ((xs.getD i.toNat 0) != (ys.getD i.toNat 0)) (.ret (.bool false) [Ee1326 a c xs, Ee1326 b d ys]) (.obl (InK .i64 (i + 1)) (.stop [.j J_2, .b 0, .c [1, 1, 1]] [(0, .slice a xs.length c), (1, .slice b ys.length d), (5, vI (i + 1))] [Ee1326 a c xs, Ee1326 b d ys]))) (by kernel_rfl) ?_
      refine ok_br (fun h_4 => ?_) (fun h_4 => ?_)
      · replace h_4 := bneT h_4
        exact ret_ok (post := [Ee1326 a c xs, Ee1326 b d ys]) [0, 1] (by kernel_rfl) ⟨(congrArg Value.bool (by first | exact (same_len (by assumption)).symm | exact (same_no (by assumption)).symm)), (by kernel_rfl)⟩
      · replace h_4 := bneF h_4
        refine ok_obl (by simp only [InK]; omega) ?_
        refine ok_stop ?_
        exact go_back hJ_2 (i + 1) [0, 1] (by kernel_rfl) (by kernel_rfl) (by kernel_rfl) ⟨(by omega), same_step hx.2 hx.1.1 (by assumption)⟩ (by omega)
    · replace h_3 := decF h_3
      exact ret_ok (post := [Ee1326 a c xs, Ee1326 b d ys]) [0, 1] (by kernel_rfl) ⟨(congrArg Value.bool (same_yes hx.2 (by omega) (by omega)).symm), (by kernel_rfl)⟩

noncomputable def B33 : Code := (Try.f33.body).getD .skip

theorem same_u64 (a b : Option Addr) (c d : Nat) (xs ys : List Int) (hl : xs.length ≤ 1000000) :
    Ctr Try.prog 33 #[.slice a xs.length c, .slice b ys.length d] [E7a681 a c xs, E7a681 b d ys] (Ret (.bool (xs == ys)) [E7a681 a c xs, E7a681 b d ys]) := by
  refine ctr_of (args := [.slice a xs.length c, .slice b ys.length d]) (fn := Try.f33) (body := B33) (nt := 26) Try.func33 (by kernel_rfl) (by kernel_rfl) ?_
  intro F
  refine go_exec (rs := [.tmp 4]) (by kernel_rfl) 4000 [.sp [10] [] [.z [0, 1, 0, 1, 1] 0 [0, 1, 5]]] (o := .br (((xs.length : Nat) : Int) != ((ys.length : Nat) : Int)) (.ret (.bool false) [E7a681 a c xs, E7a681 b d ys]) (.stop [.c [0, 1, 0, 1, 1], .b 0, .c [1, 1, 1]] [(0, .slice a xs.length c), (1, .slice b ys.length d), (5, vI 0)] [E7a681 a c xs, E7a681 b d ys])) (by kernel_rfl) ?_
  refine ok_br (fun h_1 => ?_) (fun h_1 => ?_)
  · replace h_1 := bneT h_1
    exact ret_ok (post := [E7a681 a c xs, E7a681 b d ys]) [0, 1] (by kernel_rfl) ⟨(congrArg Value.bool (by first | exact (same_len (by assumption)).symm | exact (same_no (by assumption)).symm)), (by kernel_rfl)⟩
  · replace h_1 := bneF h_1
    refine ok_stop ?_
    refine go_loop (ι := Int) (fun i => [(0, .slice a xs.length c), (1, .slice b ys.length d), (5, vI i)]) (fun i => [E7a681 a c xs, E7a681 b d ys]) (fun i => (0 ≤ i ∧ i ≤ (xs.length : Int)) ∧ ∀ j : Nat, (j : Int) < i → xs.getD j 0 = ys.getD j 0) (fun i => ((xs.length : Int) - i).toNat) 0 [0, 1, 5] [0, 1] (by kernel_rfl) (by kernel_rfl) (by kernel_rfl) (by kernel_rfl) ⟨(by omega), fun j h => (by omega)⟩ ?_
    intro i J_2 hIJ_2 hJ_2
    have hx := hIJ_2
    refine go_exec (rs := [.tmp 4]) (by kernel_rfl) 4000 [.sp [14] [.z [0, 0, 0, 1, 0, 0, 1, 0, 1, 1] 0 [0, 1, 5]] []] (o := .br (decide (i < ((xs.length : Nat) : Int))) (.stop [.c [0, 0, 0, 1, 0, 0, 1, 0, 1, 1], .c [1, 0, 0, 1, 0, 0, 1, 0, 1, 1], .b 1, .c [1, 1, 0, 0, 1, 0, 1, 1], .j J_2, .b 0, .c [1, 1, 1]] [(0, .slice a xs.length c), (1, .slice b ys.length d), (5, vI i)] [E7a681 a c xs, E7a681 b d ys]) (.ret (.bool true) [E7a681 a c xs, E7a681 b d ys])) (by kernel_rfl) ?_
    refine ok_br (fun h_3 => ?_) (fun h_3 => ?_)
    · replace h_3 := decT h_3
      refine ok_stop ?_
      refine go_quiet (tm' := [(0, .slice a xs.length c), (1, .slice b ys.length d), (5, vI i), (25, .bool ((xs.getD i.toNat 0) != (ys.getD i.toNat 0)))]) (ps := [a = a ∧ xs.length = xs.length, (0 : Int) ≤ i ∧ i < ((xs.length : Nat) : Int), slAt a i.toNat 1 = slAt a i.toNat 1, i.toNat < xs.length, b = b ∧ ys.length = ys.length, (0 : Int) ≤ i ∧ i < ((ys.length : Nat) : Int), slAt b i.toNat 1 = slAt b i.toNat 1, i.toNat < ys.length]) (cs := []) [(0, .h .w), (1, .h .w), (2, .h (.s 0)), (3, .h (.j 0 i.toNat)), (4, .h .w), (5, .h .w), (6, .h (.s 1)), (7, .h (.j 1 i.toNat)), (8, .h .w)] [0, 1, 5, 25] (by kernel_rfl) (by kernel_rfl) ⟨⟨rfl, (by first | rfl | omega | (simp; done) | (simp; omega))⟩, (by first | omega | (simp; done) | (simp; omega)), rfl, (by first | omega | (simp; done) | (simp; omega)), ⟨rfl, (by first | rfl | omega | (simp; done) | (simp; omega))⟩, (by first | omega | (simp; done) | (simp; omega)), rfl, (by first | omega | (simp; done) | (simp; omega)), trivial⟩ trivial ?_
      refine go_exec (rs := [.tmp 4]) (by kernel_rfl) 4000 [.sp [25] [] [.n, .z [] 0 [0, 1, 5]]] (o := .br ((xs.getD i.toNat 0) != (ys.getD i.toNat 0)) (.ret (.bool false) [E7a681 a c xs, E7a681 b d ys]) (.obl (InK .i64 (i + 1)) (.stop [.j J_2, .b 0, .c [1, 1, 1]] [(0, .slice a xs.length c), (1, .slice b ys.length d), (5, vI (i + 1))] [E7a681 a c xs, E7a681 b d ys]))) (by kernel_rfl) ?_
      refine ok_br (fun h_4 => ?_) (fun h_4 => ?_)
      · replace h_4 := bneT h_4
        exact ret_ok (post := [E7a681 a c xs, E7a681 b d ys]) [0, 1] (by kernel_rfl) ⟨(congrArg Value.bool (by first | exact (same_len (by assumption)).symm | exact (same_no (by assumption)).symm)), (by kernel_rfl)⟩
      · replace h_4 := bneF h_4
        refine ok_obl (by simp only [InK]; omega) ?_
        refine ok_stop ?_
        exact go_back hJ_2 (i + 1) [0, 1] (by kernel_rfl) (by kernel_rfl) (by kernel_rfl) ⟨(by omega), same_step hx.2 hx.1.1 (by assumption)⟩ (by omega)
    · replace h_3 := decF h_3
      exact ret_ok (post := [E7a681 a c xs, E7a681 b d ys]) [0, 1] (by kernel_rfl) ⟨(congrArg Value.bool (same_yes hx.2 (by omega) (by omega)).symm), (by kernel_rfl)⟩


theorem same_un (a b : Option Addr) (c d n : Nat) (xs ys : List Int) (hl : xs.length ≤ 1000000) (hn : ys.length = n) :
    Ctr Try.prog 33 #[.slice a xs.length c, .slice b n d] [E7a681 a c xs, E7a681 b d ys] (Ret (.bool (xs == ys)) [E7a681 a c xs, E7a681 b d ys]) := by
  subst hn; exact same_u64 a b c d xs ys hl

end Go.Proofs.Ytilaihbbollcnaa


namespace Go.Proofs.Ytilaihbbollcnaa
open Go.Sx
abbrev E607a7 (x0 : Nat) (c1 : Cfg) (x2 : Int) (x3 : Int) (x4 : Int) : Ent := .pts x0 [.int .i64 c1.topics, .int .i64 c1.small, .int .i64 c1.slots, .int .i64 c1.clients, .int .i64 c1.s0, .int .i64 c1.n0, .int .i64 c1.s1, .int .i64 c1.n1, .int .i64 c1.retry, .int .i64 x2, .int .i64 x3, .int .u64 x4] 134
noncomputable def B86 : Code := (Try.f86.body).getD .skip

theorem ref_NewGive (c : Cfg) (bk : Int) (hc : c.Ok) (h0 : 0 ≤ clsOf c bk) :
    Ctr Try.prog 86 #[cfgV c, vI bk] [] (fun v L => ∃ (gv : Nat), v = vP gv ∧ L = [E607a7 gv c bk 1 0]) := by
  refine ctr_of (args := [cfgV c, vI bk]) (fn := Try.f86) (body := B86) (nt := 18) Try.func86 (by kernel_rfl) (by kernel_rfl) ?_
  intro F
  refine go_exec (rs := [.tmp 4]) (by kernel_rfl) 4000 [.e 0, .z [0, 1] 1 [1, 2, 6]] (o := .new fun b_1 => .obl (b_1 = b_1) (.stop [.o [0, 1] 1, .c [1, 1]] [(1, vI bk), (2, vP b_1), (6, cfgV c)] [Ee1539 b_1 c])) (by kernel_rfl) ?_
  refine ok_new fun b_1 => ?_
  refine ok_obl rfl ?_
  refine ok_stop ?_
  refine go_call (some 7) [] Try.call61 (ref_right c (by first | assumption | omega | (simp only [InK] at *; omega))) (by kernel_rfl) ?_
  rintro v post ⟨rfl, rfl⟩
  refine go_exec (rs := [.tmp 4]) (by kernel_rfl) 4000 [.e 0, .z [0, 0, 1, 1, 1] 2 [1, 2, 10, 11]] (o := .obl (b_1 = b_1) (.stop [.o [0, 0, 1, 1, 1] 2, .c [1, 0, 1, 1, 1], .c [1, 1, 1, 1]] [(1, vI bk), (2, vP b_1), (10, cfgV c), (11, vI bk)] [Ee1539 b_1 c])) (by kernel_rfl) ?_
  refine ok_obl rfl ?_
  refine ok_stop ?_
  refine go_call (some 12) [] Try.call62 (ref_Class c bk (by first | assumption | omega | (simp only [InK] at *; omega))) (by kernel_rfl) ?_
  rintro v post ⟨rfl, rfl⟩
  refine go_exec (rs := [.tmp 4]) (by kernel_rfl) 4000 [.sp [13] [.dead] [.e 0]] (o := .br (decide ((clsOf c bk) < 0)) (.bad) (.obl (b_1 = b_1) (.new fun b_2 => .ret (vP b_2) [Ee1539 b_1 c, E607a7 b_2 c bk 1 0]))) (by kernel_rfl) ?_
  refine ok_br (fun h => absurd (show (decide ((clsOf c bk) < 0)) = false from (by first | (simp; done) | (simp; omega))) (by rw [h]; simp)) (fun _ => ?_)
  refine ok_obl rfl ?_
  refine ok_new fun b_2 => ?_
  exact ret_ok (post := [E607a7 b_2 c bk 1 0]) [1] (by kernel_rfl) ⟨b_2, rfl, (by kernel_rfl)⟩

noncomputable def B66 : Code := (Try.f66.body).getD .skip

theorem rgstep1 (c : Cfg) (rg ra : Nat) (bk sn : Int) (A : Ar) (hc : c.Ok) (hn : A.ws.length = A.n) (hs : -1000000000 ≤ A.steps ∧ A.steps ≤ 1000000000) (hsz : (A.n : Int) = sizeOfC c) (hk : 0 ≤ clsOf c bk) (hw : 0 ≤ sn ∧ sn ≤ 18446744073709551615) :
    Ctr Try.prog 66 #[vP rg, vP ra] [E607a7 rg c bk 1 sn, Eeb923 ra A false 0, E671ef A] (Ret (.bool false) [E607a7 rg c bk 2 (A.ws.getD (3 + clsOf c bk).toNat 0), Eeb923 ra (A.load (3 + clsOf c bk)) false 0, E671ef (A.load (3 + clsOf c bk))]) := by
  refine ctr_of (args := [vP rg, vP ra]) (fn := Try.f66) (body := B66) (nt := 83) Try.func66 (by kernel_rfl) (by kernel_rfl) ?_
  intro F
  refine go_exec (rs := [.tmp 4]) (by kernel_rfl) 4000 [.z [0, 1] 0 [0, 1]] (o := .stop [.c [0, 1], .c [1, 1]] [(0, vP rg), (1, vP ra)] [E607a7 rg c bk 1 sn, Eeb923 ra A false 0, E671ef A]) (by kernel_rfl) ?_
  refine ok_stop ?_
  refine go_quiet (tm' := [(0, vP rg), (1, vP ra), (5, vI (3 + (clsOf c bk)))]) (ps := [rg = rg, rg = rg, InK .i64 (3 + (clsOf c bk))]) (cs := [(62, #[cfgV c, vI bk], vI (clsOf c bk))]) [(0, .h .w), (1, .h .w), (2, .h .w), (3, .h (.e 0)), (4, .h .w), (5, .h .w), (6, .h .w), (7, .h (.e 0)), (8, .q (vI (clsOf c bk))), (9, .h (.n)), (10, .h .w)] [0, 1, 5] (by kernel_rfl) (by kernel_rfl) ⟨rfl, rfl, (by have := clsOf_le c bk; simp only [InK]; omega), trivial⟩ ⟨⟨Try.call62, quiet_of [] (ref_Class c bk (by first | assumption | omega | (simp only [InK] at *; omega))) (by kernel_rfl) (by rintro v post ⟨rfl, rfl⟩; exact ⟨rfl, rfl⟩)⟩, trivial⟩ ?_
  refine go_exec (rs := [.tmp 4]) (by kernel_rfl) 4000 [.e 0, .z [0, 0, 1, 0, 1, 0, 1, 1] 3 [0, 23, 24, 25]] (o := .obl (rg = rg) (.stop [.o [0, 0, 1, 0, 1, 0, 1, 1] 3, .c [1, 0, 1, 0, 1, 0, 1, 1], .b 0, .c [1, 1, 1]] [(0, vP rg), (23, vP rg), (24, vP ra), (25, vI (3 + (clsOf c bk)))] [E607a7 rg c bk 1 sn, Eeb923 ra A false 0, E671ef A])) (by kernel_rfl) ?_
  refine ok_obl rfl ?_
  refine ok_stop ?_
  refine go_call (some 26) [1, 2] Try.call64 (ref_Load ra A (3 + (clsOf c bk)) (by first | assumption | omega | (simp only [InK] at *; omega)) (by have := clsOf_le c bk; have := sizeOfC_ok hc; omega) (by first | assumption | omega | (simp only [InK] at *; omega))) (by kernel_rfl) ?_
  rintro v post ⟨rfl, rfl⟩
  refine go_exec (rs := [.tmp 4]) (by kernel_rfl) 4000 [.e 0, .e 0, .e 0] (o := .obl (rg = rg) (.obl (rg = rg) (.obl (rg = rg) (.ret (.bool false) [E607a7 rg c bk 2 (A.ws.getD (3 + (clsOf c bk)).toNat 0), Eeb923 ra (A.load (3 + (clsOf c bk))) false 0, E671ef (A.load (3 + (clsOf c bk)))])))) (by kernel_rfl) ?_
  refine ok_obl rfl ?_
  refine ok_obl rfl ?_
  refine ok_obl rfl ?_
  exact ret_ok (post := [E607a7 rg c bk 2 (A.ws.getD (3 + (clsOf c bk)).toNat 0), Eeb923 ra (A.load (3 + (clsOf c bk))) false 0, E671ef (A.load (3 + (clsOf c bk)))]) [0, 1, 2] (by kernel_rfl) ⟨rfl, (by kernel_rfl)⟩


theorem rgstep2 (c : Cfg) (rg ra : Nat) (bk sn : Int) (A : Ar) (hc : c.Ok) (hn : A.ws.length = A.n) (hs : -1000000000 ≤ A.steps ∧ A.steps ≤ 1000000000) (hsz : (A.n : Int) = sizeOfC c) (hk : 0 ≤ clsOf c bk) (hw : 0 ≤ sn ∧ sn ≤ 18446744073709551615) :
    Ctr Try.prog 66 #[vP rg, vP ra] [E607a7 rg c bk 2 sn, Eeb923 ra A false 0, E671ef A] (Ret (.bool false) [E607a7 rg c bk 3 sn, Eeb923 ra (A.store (blockAt c bk) (bAnd .u64 sn 4294967295)) false 0, E671ef (A.store (blockAt c bk) (bAnd .u64 sn 4294967295))]) := by
  refine ctr_of (args := [vP rg, vP ra]) (fn := Try.f66) (body := B66) (nt := 83) Try.func66 (by kernel_rfl) (by kernel_rfl) ?_
  intro F
  refine go_exec (rs := [.tmp 4]) (by kernel_rfl) 4000 [.z [0, 1] 0 [0, 1]] (o := .stop [.c [0, 1], .c [1, 1]] [(0, vP rg), (1, vP ra)] [E607a7 rg c bk 2 sn, Eeb923 ra A false 0, E671ef A]) (by kernel_rfl) ?_
  refine ok_stop ?_
  refine go_quiet (tm' := [(0, vP rg), (1, vP ra), (5, vI (3 + (clsOf c bk)))]) (ps := [rg = rg, rg = rg, InK .i64 (3 + (clsOf c bk))]) (cs := [(62, #[cfgV c, vI bk], vI (clsOf c bk))]) [(0, .h .w), (1, .h .w), (2, .h .w), (3, .h (.e 0)), (4, .h .w), (5, .h .w), (6, .h .w), (7, .h (.e 0)), (8, .q (vI (clsOf c bk))), (9, .h (.n)), (10, .h .w)] [0, 1, 5] (by kernel_rfl) (by kernel_rfl) ⟨rfl, rfl, (by have := clsOf_le c bk; simp only [InK]; omega), trivial⟩ ⟨⟨Try.call62, quiet_of [] (ref_Class c bk (by first | assumption | omega | (simp only [InK] at *; omega))) (by kernel_rfl) (by rintro v post ⟨rfl, rfl⟩; exact ⟨rfl, rfl⟩)⟩, trivial⟩ ?_
  refine go_exec (rs := [.tmp 4]) (by kernel_rfl) 4000 [.e 0, .z [0, 0, 1, 1, 1, 0, 1, 0, 1, 1] 0 [0, 1]] (o := .obl (rg = rg) (.stop [.c [0, 0, 1, 1, 1, 0, 1, 0, 1, 1], .c [1, 0, 1, 1, 1, 0, 1, 0, 1, 1], .b 0, .c [1, 1, 1]] [(0, vP rg), (1, vP ra)] [E607a7 rg c bk 2 sn, Eeb923 ra A false 0, E671ef A])) (by kernel_rfl) ?_
  refine ok_obl rfl ?_
  refine ok_stop ?_
  refine go_tail_call (dst := (some 49)) (ps := [rg = rg, rg = rg, rg = rg]) (cs := [(36, #[cfgV c, vI bk], vI (blockAt c bk))]) [(0, .h .w), (1, .h .w), (2, .h .w), (3, .h .w), (4, .h (.e 0)), (5, .h .w), (6, .h .w), (7, .h .w), (8, .h (.e 0)), (9, .q (vI (blockAt c bk))), (10, .h .w), (11, .h .w), (12, .h .w), (13, .h (.e 0)), (14, .h .w)] 15 [] [1, 2] [0] (by kernel_rfl) Try.call28 (ref_Store ra A (blockAt c bk) (bAnd .u64 sn 4294967295) (by first | assumption | omega | (simp only [InK] at *; omega)) (by have := blockAt_ok hc hk; omega) (by first | assumption | omega | (simp only [InK] at *; omega))) (by kernel_rfl) ⟨rfl, rfl, rfl, trivial⟩ ⟨⟨Try.call36, quiet_of [] (ref_Block c bk (by first | assumption | omega | (simp only [InK] at *; omega)) (clsOf_ok hk)) (by kernel_rfl) (by rintro v post ⟨rfl, rfl⟩; exact ⟨rfl, rfl⟩)⟩, trivial⟩ ?_
  rintro v post ⟨rfl, rfl⟩
  refine tail_next (tm' := [(0, vP rg)]) (ps2 := []) (by kernel_rfl) trivial ?_
  refine go_exec (rs := [.tmp 4]) (by kernel_rfl) 4000 [.e 0, .e 0] (o := .obl (rg = rg) (.obl (rg = rg) (.ret (.bool false) [E607a7 rg c bk 3 sn, Eeb923 ra (A.store (blockAt c bk) (bAnd .u64 sn 4294967295)) false 0, E671ef (A.store (blockAt c bk) (bAnd .u64 sn 4294967295))]))) (by kernel_rfl) ?_
  refine ok_obl rfl ?_
  refine ok_obl rfl ?_
  exact ret_ok (post := [E607a7 rg c bk 3 sn, Eeb923 ra (A.store (blockAt c bk) (bAnd .u64 sn 4294967295)) false 0, E671ef (A.store (blockAt c bk) (bAnd .u64 sn 4294967295))]) [0, 1, 2] (by kernel_rfl) ⟨rfl, (by kernel_rfl)⟩


theorem rgstep3T (c : Cfg) (rg ra : Nat) (bk sn : Int) (A : Ar) (hc : c.Ok) (hn : A.ws.length = A.n) (hs : -1000000000 ≤ A.steps ∧ A.steps ≤ 1000000000) (hsz : (A.n : Int) = sizeOfC c) (hk : 0 ≤ clsOf c bk) (hw : 0 ≤ sn ∧ sn ≤ 18446744073709551615) (hq : (A.ws.getD (3 + clsOf c bk).toNat 0) = sn) :
    Ctr Try.prog 66 #[vP rg, vP ra] [E607a7 rg c bk 3 sn, Eeb923 ra A false 0, E671ef A] (Ret (.bool true) [E607a7 rg c bk 0 sn, Eeb923 ra (A.swapT (3 + clsOf c bk) (turnW sn bk)) false 0, E671ef (A.swapT (3 + clsOf c bk) (turnW sn bk))]) := by
  refine ctr_of (args := [vP rg, vP ra]) (fn := Try.f66) (body := B66) (nt := 83) Try.func66 (by kernel_rfl) (by kernel_rfl) ?_
  intro F
  refine go_exec (rs := [.tmp 4]) (by kernel_rfl) 4000 [.z [0, 1] 0 [0, 1]] (o := .stop [.c [0, 1], .c [1, 1]] [(0, vP rg), (1, vP ra)] [E607a7 rg c bk 3 sn, Eeb923 ra A false 0, E671ef A]) (by kernel_rfl) ?_
  refine ok_stop ?_
  refine go_quiet (tm' := [(0, vP rg), (1, vP ra), (5, vI (3 + (clsOf c bk)))]) (ps := [rg = rg, rg = rg, InK .i64 (3 + (clsOf c bk))]) (cs := [(62, #[cfgV c, vI bk], vI (clsOf c bk))]) [(0, .h .w), (1, .h .w), (2, .h .w), (3, .h (.e 0)), (4, .h .w), (5, .h .w), (6, .h .w), (7, .h (.e 0)), (8, .q (vI (clsOf c bk))), (9, .h (.n)), (10, .h .w)] [0, 1, 5] (by kernel_rfl) (by kernel_rfl) ⟨rfl, rfl, (by have := clsOf_le c bk; simp only [InK]; omega), trivial⟩ ⟨⟨Try.call62, quiet_of [] (ref_Class c bk (by first | assumption | omega | (simp only [InK] at *; omega))) (by kernel_rfl) (by rintro v post ⟨rfl, rfl⟩; exact ⟨rfl, rfl⟩)⟩, trivial⟩ ?_
  refine go_exec (rs := [.tmp 4]) (by kernel_rfl) 4000 [.e 0, .z [0, 0, 1, 1, 1, 1, 1, 0, 1, 0, 1, 1] 0 [0, 1, 5]] (o := .obl (rg = rg) (.stop [.c [0, 0, 1, 1, 1, 1, 1, 0, 1, 0, 1, 1], .c [1, 0, 1, 1, 1, 1, 1, 0, 1, 0, 1, 1], .b 0, .c [1, 1, 1]] [(0, vP rg), (1, vP ra), (5, vI (3 + (clsOf c bk)))] [E607a7 rg c bk 3 sn, Eeb923 ra A false 0, E671ef A])) (by kernel_rfl) ?_
  refine ok_obl rfl ?_
  refine ok_stop ?_
  refine go_tail_call (dst := (some 70)) (ps := [rg = rg, rg = rg, rg = rg]) (cs := [(88, #[vU sn, vI bk], vU (turnW sn bk))]) [(0, .h .w), (1, .h .w), (2, .h .w), (3, .h .w), (4, .h .w), (5, .h (.e 0)), (6, .h .w), (7, .h .w), (8, .h .w), (9, .h (.e 0)), (10, .h .w), (11, .h .w), (12, .h .w), (13, .h (.e 0)), (14, .q (vU (turnW sn bk)))] 15 [(16, .h .w)] [1, 2] [0, 6] (by kernel_rfl) Try.call87 (ref_SwapT ra A (3 + (clsOf c bk)) sn (turnW sn bk) (by first | assumption | omega | (simp only [InK] at *; omega)) (by have := clsOf_le c bk; have := sizeOfC_ok hc; omega) (by first | assumption | omega | (simp only [InK] at *; omega)) (by first | assumption | omega | (simp only [InK] at *; omega))) (by kernel_rfl) ⟨rfl, rfl, rfl, trivial⟩ ⟨⟨Try.call88, quiet_of [] (ref10_Turn sn bk (by first | assumption | omega | (simp only [InK] at *; omega)) (by have := clsOf_ok hk; simp only [Cfg.Ok] at hc; omega)) (by kernel_rfl) (by rintro v post ⟨rfl, rfl⟩; exact ⟨rfl, rfl⟩)⟩, trivial⟩ ?_
  rintro v post ⟨rfl, rfl⟩
  refine tail_next (tm' := [(0, vP rg), (6, .bool true)]) (ps2 := []) (by kernel_rfl) trivial ?_
  refine go_exec (rs := [.tmp 4]) (by kernel_rfl) 4000 [.e 0, .e 0, .e 0] (o := .obl (rg = rg) (.obl (rg = rg) (.obl (rg = rg) (.ret (.bool true) [E607a7 rg c bk 0 sn, Eeb923 ra (A.swapT (3 + (clsOf c bk)) (turnW sn bk)) false 0, E671ef (A.swapT (3 + (clsOf c bk)) (turnW sn bk))])))) (by kernel_rfl) ?_
  refine ok_obl rfl ?_
  refine ok_obl rfl ?_
  refine ok_obl rfl ?_
  exact ret_ok (post := [E607a7 rg c bk 0 sn, Eeb923 ra (A.swapT (3 + (clsOf c bk)) (turnW sn bk)) false 0, E671ef (A.swapT (3 + (clsOf c bk)) (turnW sn bk))]) [0, 1, 2] (by kernel_rfl) ⟨rfl, (by kernel_rfl)⟩


theorem rgstep3F (c : Cfg) (rg ra : Nat) (bk sn : Int) (A : Ar) (hc : c.Ok) (hn : A.ws.length = A.n) (hs : -1000000000 ≤ A.steps ∧ A.steps ≤ 1000000000) (hsz : (A.n : Int) = sizeOfC c) (hk : 0 ≤ clsOf c bk) (hw : 0 ≤ sn ∧ sn ≤ 18446744073709551615) (hq : (A.ws.getD (3 + clsOf c bk).toNat 0) ≠ sn) :
    Ctr Try.prog 66 #[vP rg, vP ra] [E607a7 rg c bk 3 sn, Eeb923 ra A false 0, E671ef A] (Ret (.bool false) [E607a7 rg c bk 1 sn, Eeb923 ra (A.swapF (3 + clsOf c bk)) false 0, E671ef (A.swapF (3 + clsOf c bk))]) := by
  refine ctr_of (args := [vP rg, vP ra]) (fn := Try.f66) (body := B66) (nt := 83) Try.func66 (by kernel_rfl) (by kernel_rfl) ?_
  intro F
  refine go_exec (rs := [.tmp 4]) (by kernel_rfl) 4000 [.z [0, 1] 0 [0, 1]] (o := .stop [.c [0, 1], .c [1, 1]] [(0, vP rg), (1, vP ra)] [E607a7 rg c bk 3 sn, Eeb923 ra A false 0, E671ef A]) (by kernel_rfl) ?_
  refine ok_stop ?_
  refine go_quiet (tm' := [(0, vP rg), (1, vP ra), (5, vI (3 + (clsOf c bk)))]) (ps := [rg = rg, rg = rg, InK .i64 (3 + (clsOf c bk))]) (cs := [(62, #[cfgV c, vI bk], vI (clsOf c bk))]) [(0, .h .w), (1, .h .w), (2, .h .w), (3, .h (.e 0)), (4, .h .w), (5, .h .w), (6, .h .w), (7, .h (.e 0)), (8, .q (vI (clsOf c bk))), (9, .h (.n)), (10, .h .w)] [0, 1, 5] (by kernel_rfl) (by kernel_rfl) ⟨rfl, rfl, (by have := clsOf_le c bk; simp only [InK]; omega), trivial⟩ ⟨⟨Try.call62, quiet_of [] (ref_Class c bk (by first | assumption | omega | (simp only [InK] at *; omega))) (by kernel_rfl) (by rintro v post ⟨rfl, rfl⟩; exact ⟨rfl, rfl⟩)⟩, trivial⟩ ?_
  refine go_exec (rs := [.tmp 4]) (by kernel_rfl) 4000 [.e 0, .z [0, 0, 1, 1, 1, 1, 1, 0, 1, 0, 1, 1] 0 [0, 1, 5]] (o := .obl (rg = rg) (.stop [.c [0, 0, 1, 1, 1, 1, 1, 0, 1, 0, 1, 1], .c [1, 0, 1, 1, 1, 1, 1, 0, 1, 0, 1, 1], .b 0, .c [1, 1, 1]] [(0, vP rg), (1, vP ra), (5, vI (3 + (clsOf c bk)))] [E607a7 rg c bk 3 sn, Eeb923 ra A false 0, E671ef A])) (by kernel_rfl) ?_
  refine ok_obl rfl ?_
  refine ok_stop ?_
  refine go_tail_call (dst := (some 70)) (ps := [rg = rg, rg = rg, rg = rg]) (cs := [(88, #[vU sn, vI bk], vU (turnW sn bk))]) [(0, .h .w), (1, .h .w), (2, .h .w), (3, .h .w), (4, .h .w), (5, .h (.e 0)), (6, .h .w), (7, .h .w), (8, .h .w), (9, .h (.e 0)), (10, .h .w), (11, .h .w), (12, .h .w), (13, .h (.e 0)), (14, .q (vU (turnW sn bk)))] 15 [(16, .h .w)] [1, 2] [0, 6] (by kernel_rfl) Try.call87 (ref_SwapF ra A (3 + (clsOf c bk)) sn (turnW sn bk) (by first | assumption | omega | (simp only [InK] at *; omega)) (by have := clsOf_le c bk; have := sizeOfC_ok hc; omega) (by first | assumption | omega | (simp only [InK] at *; omega)) (by first | assumption | omega | (simp only [InK] at *; omega))) (by kernel_rfl) ⟨rfl, rfl, rfl, trivial⟩ ⟨⟨Try.call88, quiet_of [] (ref10_Turn sn bk (by first | assumption | omega | (simp only [InK] at *; omega)) (by have := clsOf_ok hk; simp only [Cfg.Ok] at hc; omega)) (by kernel_rfl) (by rintro v post ⟨rfl, rfl⟩; exact ⟨rfl, rfl⟩)⟩, trivial⟩ ?_
  rintro v post ⟨rfl, rfl⟩
  refine tail_next (tm' := [(0, vP rg), (6, .bool false)]) (ps2 := []) (by kernel_rfl) trivial ?_
  refine go_exec (rs := [.tmp 4]) (by kernel_rfl) 4000 [.e 0, .e 0] (o := .obl (rg = rg) (.obl (rg = rg) (.ret (.bool false) [E607a7 rg c bk 1 sn, Eeb923 ra (A.swapF (3 + (clsOf c bk))) false 0, E671ef (A.swapF (3 + (clsOf c bk)))]))) (by kernel_rfl) ?_
  refine ok_obl rfl ?_
  refine ok_obl rfl ?_
  exact ret_ok (post := [E607a7 rg c bk 1 sn, Eeb923 ra (A.swapF (3 + (clsOf c bk))) false 0, E671ef (A.swapF (3 + (clsOf c bk)))]) [0, 1, 2] (by kernel_rfl) ⟨rfl, (by kernel_rfl)⟩


theorem ref_give_Step (c : Cfg) (rg ra : Nat) (G : Gv) (A : Ar) (hc : c.Ok) (hn : A.ws.length = A.n) (hs : -1000000000 ≤ A.steps ∧ A.steps ≤ 1000000000) (hsz : (A.n : Int) = sizeOfC c) (hG : GvR c G) :
    Ctr Try.prog 66 #[vP rg, vP ra] [E607a7 rg c G.block ((G.ph : Nat) : Int) G.seen, Eeb923 ra A false 0, E671ef A] (Ret (.bool ((G.step c A).1.ph == 0)) [E607a7 rg c ((G.step c A).1.block) (((G.step c A).1.ph : Nat) : Int) ((G.step c A).1.seen), Eeb923 ra ((G.step c A).2) false 0, E671ef ((G.step c A).2)]) := by
  obtain ⟨hd, sn, bk, ph⟩ := G
  obtain ⟨h1, h2, h3, h4⟩ := hG
  simp only at h1 h2 h3 h4
  subst h2
  match ph, h1 with
  | 1, _ => exact rgstep1 c rg ra bk sn A hc hn hs hsz h3 h4
  | 2, _ =>
    have e : Gv.step c ⟨3 + clsOf c bk, sn, bk, 2⟩ A = (⟨3 + clsOf c bk, sn, bk, 3⟩, A.store (blockAt c bk) (bAnd .u64 sn 4294967295)) := by
      rw [show bAnd .u64 sn 4294967295 = lo32 sn from and_mask sn 32 (by decide) h4]; rfl
    rw [e]; exact rgstep2 c rg ra bk sn A hc hn hs hsz h3 h4
  | 3, _ =>
    by_cases hq : A.ws.getD (3 + clsOf c bk).toNat 0 = sn
    · have e : Gv.step c ⟨3 + clsOf c bk, sn, bk, 3⟩ A = (⟨3 + clsOf c bk, sn, bk, 0⟩, A.swapT (3 + clsOf c bk) (turnW sn bk)) := by simp only [Gv.step, if_pos hq]
      rw [e]; exact rgstep3T c rg ra bk sn A hc hn hs hsz h3 h4 hq
    · have e : Gv.step c ⟨3 + clsOf c bk, sn, bk, 3⟩ A = (⟨3 + clsOf c bk, sn, bk, 1⟩, A.swapF (3 + clsOf c bk)) := by simp only [Gv.step, if_neg hq]
      rw [e]; exact rgstep3F c rg ra bk sn A hc hn hs hsz h3 h4 hq
  | 0, h => omega
  | n + 4, h => omega

end Go.Proofs.Ytilaihbbollcnaa


namespace Go.Proofs.Ytilaihbbollcnaa
open Go.Sx
abbrev Eb21b7 (x0 : Nat) (c1 : Cfg) (x2 : Int) (x3 : Bool) (x4 : Option Addr) (x5 : Nat) (x6 : Nat) (x7 : Option Addr) (x8 : Nat) (x9 : Nat) (x10 : Option Addr) (x11 : Nat) (x12 : Nat) (x13 : Option Addr) (x14 : Nat) (x15 : Nat) (x16 : Value) : Ent := .pts x0 [.int .i64 c1.topics, .int .i64 c1.small, .int .i64 c1.slots, .int .i64 c1.clients, .int .i64 c1.s0, .int .i64 c1.n0, .int .i64 c1.s1, .int .i64 c1.n1, .int .i64 c1.retry, .int .i64 x2, .bool x3, .slice x4 x5 x6, .slice x7 x8 x9, .slice x10 x11 x12, .slice x13 x14 x15, x16] 73

/-- where the rows of a scan of the document lie -/
structure RsH where
  al : Option Addr
  an : Option Addr
  ak : Option Addr
  ag : Option Addr
  cl : Nat
  cn : Nat
  ck : Nat
  cg : Nat
  gp : Nat
  gv : Value
noncomputable def rgivL (c : Cfg) (gp : Nat) : Option Gv → List Ent
  | none => []
  | some G => [E607a7 gp c G.block ((G.ph : Nat) : Int) G.seen]
noncomputable def rsL (rs : Nat) (c : Cfg) (S : Rs) (h : RsH) : List Ent := [Eb21b7 rs c S.slot S.over h.al S.left.length h.cl h.an S.named.length h.cn h.ak S.kept.length h.ck h.ag S.given.length h.cg h.gv, Ee1326 h.al h.cl S.left, Ee1326 h.an h.cn S.named, Ee1326 h.ak h.ck S.kept, Ee1326 h.ag h.cg S.given, .res (dens (rgivL c h.gp S.give))]
def rsI (S : Rs) (h : RsH) : Prop := ∀ G, S.give = some G → h.gv = .pointer (some ⟨h.gp, 0, none⟩)
noncomputable def RsR (rs : Nat) (c : Cfg) (S : Rs) : Res := Box (rsI S) (rsL rs c S)
structure RnI where
  kept : List Int
  left : List Int
  ak : Option Addr
  al : Option Addr
  ck : Nat
  cl : Nat
noncomputable def B65 : Code := (Try.f65.body).getD .skip

theorem rs_next (c : Cfg) (rs : Nat) (sl : Int) (left named kept given : List Int) (al an ak ag : Option Addr) (cl cn ck cg : Nat) (gp : Value) (hc : c.Ok) (hl : kept.length + left.length ≤ 100) (hb : ∀ b ∈ left, 0 ≤ clsOf c b) (hnl : named.length ≤ 100) :
    Ctr Try.prog 65 #[vP rs] [Eb21b7 rs c sl false al left.length cl an named.length cn ak kept.length ck ag given.length cg gp, Ee1326 al cl left, Ee1326 an cn named, Ee1326 ak ck kept, Ee1326 ag cg given] (Ret (undef) [.res (RsR rs c (Rs.next c (⟨sl, false, left, named, kept, given, none⟩ : Rs)))]) := by
  refine ctr_of (args := [vP rs]) (fn := Try.f65) (body := B65) (nt := 67) Try.func65 (by kernel_rfl) (by kernel_rfl) ?_
  intro F
  refine go_exec (rs := []) (by kernel_rfl) 4000 [.z [0, 0] 0 [0]] (o := .stop [.c [0, 0], .b 0, .c [1]] [(0, vP rs)] [Eb21b7 rs c sl false al left.length cl an named.length cn ak kept.length ck ag given.length cg gp, Ee1326 al cl left, Ee1326 an cn named, Ee1326 ak ck kept, Ee1326 ag cg given]) (by kernel_rfl) ?_
  refine ok_stop ?_
  refine go_loop (ι := RnI) (fun i => [(0, vP rs)]) (fun i => [Eb21b7 rs c sl false i.al i.left.length i.cl an named.length cn i.ak i.kept.length i.ck ag given.length cg gp, Ee1326 i.al i.cl i.left, Ee1326 an cn named, Ee1326 i.ak i.ck i.kept, Ee1326 ag cg given]) (fun i => nextR named i.kept i.left = nextR named kept left ∧ i.kept.length + i.left.length ≤ 100 ∧ ∀ b ∈ i.left, 0 ≤ clsOf c b) (fun i => i.left.length) ⟨kept, left, ak, al, ck, cl⟩ [0] [0, 1, 2, 3, 4] (by kernel_rfl) (by kernel_rfl) (by kernel_rfl) (by kernel_rfl) ⟨rfl, hl, hb⟩ ?_
  intro i J_1 hIJ_1 hJ_1
  have hx := hIJ_1
  have hq2 := hx.2.1
  refine go_exec (rs := []) (by kernel_rfl) 4000 [.z [0, 0, 0, 0, 0] 0 [0]] (o := .stop [.c [0, 0, 0, 0, 0], .c [1, 0, 0, 0, 0], .c [1, 0, 0, 0], .j J_1, .b 0, .c [1]] [(0, vP rs)] [Eb21b7 rs c sl false i.al i.left.length i.cl an named.length cn i.ak i.kept.length i.ck ag given.length cg gp, Ee1326 i.al i.cl i.left, Ee1326 an cn named, Ee1326 i.ak i.ck i.kept, Ee1326 ag cg given]) (by kernel_rfl) ?_
  refine ok_stop ?_
  by_cases hl0 : 0 < i.left.length
  · skip
    refine go_quiet (tm' := [(0, vP rs), (20, .bool (hasN named named.length (i.left.getD 0 0)))]) (ps := [rs = rs, (decide (((i.left.length : Nat) : Int) > 0)) = true, rs = rs, rs = rs, i.al = i.al ∧ i.left.length = i.left.length, (0 : Int) ≤ 0 ∧ 0 < ((i.left.length : Nat) : Int), slAt i.al 0 1 = slAt i.al 0 1, 0 < i.left.length]) (cs := [(22, #[.slice an named.length cn, vI (i.left.getD 0 0)], .bool (hasN named named.length (i.left.getD 0 0)))]) [(0, .h .w), (1, .h .w), (2, .h .w), (3, .h (.e 0)), (4, .h .w), (5, .h (.t true)), (6, .h .w), (7, .h .w), (8, .h .w), (9, .h .w), (10, .h (.e 0)), (11, .h .w), (12, .h .w), (13, .h .w), (14, .h (.e 0)), (15, .h (.s 1)), (16, .h (.j 1 0)), (17, .q (.bool (hasN named named.length (i.left.getD 0 0)))), (18, .h .w)] [0, 20] (by kernel_rfl) (by kernel_rfl) ⟨rfl, (by simp only [decide_eq_true_eq, decide_eq_false_iff_not]; omega), rfl, rfl, ⟨rfl, (by first | rfl | omega | (simp; done) | (simp; omega))⟩, (by first | omega | (simp; done) | (simp; omega)), rfl, (by first | omega | (simp; done) | (simp; omega)), trivial⟩ ⟨⟨Try.call22, quiet_of [2] (ref_Has an cn cn named.length named (i.left.getD 0 0) (Nat.le_refl _) (by omega)) (by kernel_rfl) (by rintro v post ⟨rfl, rfl⟩; exact ⟨rfl, rfl⟩)⟩, trivial⟩ ?_
    refine go_exec (rs := []) (by kernel_rfl) 4000 [.sp [20] [.z [0, 0, 1, 0, 0, 0] 0 [0]] [.e 0, .sp [49] [.dead] [.z [1, 1] 0 [0]]]] (o := .br (hasN named named.length (i.left.getD 0 0)) (.stop [.c [0, 0, 1, 0, 0, 0], .c [1, 0, 1, 0, 0, 0], .b 1, .j J_1, .b 0, .c [1]] [(0, vP rs)] [Eb21b7 rs c sl false i.al i.left.length i.cl an named.length cn i.ak i.kept.length i.ck ag given.length cg gp, Ee1326 i.al i.cl i.left, Ee1326 an cn named, Ee1326 i.ak i.ck i.kept, Ee1326 ag cg given]) (.obl (rs = rs) (.br (((i.left.length : Nat) : Int) == 0) (.bad) (.stop [.c [1, 1]] [(0, vP rs)] [Eb21b7 rs c sl false i.al i.left.length i.cl an named.length cn i.ak i.kept.length i.ck ag given.length cg gp, Ee1326 i.al i.cl i.left, Ee1326 an cn named, Ee1326 i.ak i.ck i.kept, Ee1326 ag cg given])))) (by kernel_rfl) ?_
    refine ok_br (fun h_2 => ?_) (fun h_2 => ?_)
    · skip
      refine ok_stop ?_
      refine go_lz (by kernel_rfl) (by kernel_rfl) ?_
      refine lz_node (l' := (mk 16 [0, 1, 2, 3, 4, 5, 6, 7, 8, 9, 10])) (V' := [0, 1, 2, 3, 4, 5, 6, 7, 8, 9, 10]) (T1 := [(0, vP rs), (21, vP rs), (22, vP rs), (23, vP rs), (24, .pointer (some ⟨rs, 13, none⟩)), (25, .slice i.ak i.kept.length i.ck), (26, vP rs), (27, vP rs), (28, .pointer (some ⟨rs, 11, none⟩)), (29, .slice i.al i.left.length i.cl), (30, slAt i.al 0 1), (31, vI (i.left.getD 0 0))]) (ps := [rs = rs, rs = rs, i.al = i.al ∧ i.left.length = i.left.length, (0 : Int) ≤ 0 ∧ 0 < ((i.left.length : Nat) : Int), slAt i.al 0 1 = slAt i.al 0 1, 0 < i.left.length]) [0, 1, 2, 3, 4, 5, 6, 7, 8, 9, 10] [(0, .h .w), (1, .h .w), (2, .h .w), (3, .h .w), (4, .h (.e 0)), (5, .h .w), (6, .h .w), (7, .h .w), (8, .h (.e 0)), (9, .h (.s 1)), (10, .h (.j 1 0))] [0, 21, 22, 23, 24, 25, 26, 27, 28, 29, 30, 31] [11] (by kernel_rfl) ⟨rfl, rfl, ⟨rfl, (by first | rfl | omega | (simp; done) | (simp; omega))⟩, (by first | omega | (simp; done) | (simp; omega)), rfl, (by first | omega | (simp; done) | (simp; omega)), trivial⟩ ⟨?_, trivial⟩
      refine lz_op (l' := (mk 16 [0, 1, 2, 3, 4, 5, 6, 7, 8, 9, 10, 11])) (V' := [0, 1, 2, 3, 4]) (so := .new fun b_11_1 => .ok (.value (.slice (some ⟨b_11_1, 0, none⟩) 1 1)) [Eb21b7 rs c sl false i.al i.left.length i.cl an named.length cn i.ak i.kept.length i.ck ag given.length cg gp, Ee1326 i.al i.cl i.left, Ee1326 an cn named, Ee1326 i.ak i.ck i.kept, Ee1326 ag cg given, .pts b_11_1 [vI (i.left.getD 0 0)] 3]) (dst := (some 32)) .w (by kernel_rfl) ?_
      refine sat_new fun b_11_1 => ?_
      refine sat_value ?_
      refine lz_node (l' := (mk 16 [0, 1, 2, 3, 4, 5, 6, 7, 8, 9, 10, 11])) (V' := [0, 1, 2, 3, 4]) (T1 := [(32, .slice (some ⟨b_11_1, 0, none⟩) 1 1), (0, vP rs), (21, vP rs), (22, vP rs), (23, vP rs), (24, .pointer (some ⟨rs, 13, none⟩)), (25, .slice i.ak i.kept.length i.ck)]) (ps := [rs = rs]) [] [(0, .h .w), (1, .h .w), (2, .h .w), (3, .h .w), (4, .h (.e 0))] [32, 0, 21, 22, 23, 24, 25] [12] (by kernel_rfl) ⟨rfl, trivial⟩ ⟨?_, trivial⟩
      refine lz_by (l' := (mk 16 [0, 1, 2, 3, 4, 5, 6, 7, 8, 9, 10, 11, 12])) (V' := [0]) (some 33) (appO Try.prog _) (some (.slice i.ak (i.kept).length i.ck, .slice (some ⟨b_11_1, 0, none⟩) 1 1, (3, 1, 8))) (R_append 3 (a := i.ak) (c := i.ck) (enc := encI .i64) (d := 0) (sz := 1) (xs := i.kept) (te := 3) (by kernel_rfl) (.slice (some ⟨b_11_1, 0, none⟩) 1 1) [(i.left.getD 0 0)] (src_pts (i := 5) (t := 3) (by kernel_rfl)) (oneI _) 8 (by first | omega | (simp; done) | (simp; omega)) (by first | omega | (simp; done) | (simp; omega))) (by kernel_rfl) ?_
      rintro v L2 ⟨a_12_1, c_12_1, rfl, rfl⟩
      refine lz_node (l' := (mk 16 [0, 1, 2, 3, 4, 5, 6, 7, 8, 9, 10, 11, 12, 13, 14])) (V' := [0, 13, 14]) (T1 := [(33, .slice a_12_1 ((i.kept ++ [(i.left.getD 0 0)]).length) c_12_1), (0, vP rs), (21, vP rs), (34, vP rs), (35, .pointer (some ⟨rs, 13, none⟩))]) (ps := []) [13, 14] [(0, .h .w), (13, .h .w), (14, .h .w)] [33, 0, 21, 34, 35] [15] (by kernel_rfl) trivial ⟨?_, trivial⟩
      refine lz_op (l' := (mk 16 [0, 1, 2, 3, 4, 5, 6, 7, 8, 9, 10, 11, 12, 13, 14, 15])) (V' := []) (so := .obl (rs = rs) (.ok .skip [Eb21b7 rs c sl false i.al i.left.length i.cl an named.length cn a_12_1 ((i.kept ++ [(i.left.getD 0 0)]).length) c_12_1 ag given.length cg gp, Ee1326 i.al i.cl i.left, Ee1326 an cn named, Ee1326 a_12_1 c_12_1 (i.kept ++ [(i.left.getD 0 0)]), Ee1326 ag cg given, .pts b_11_1 [vI (i.left.getD 0 0)] 3])) (dst := none) (.e 0) (by kernel_rfl) ?_
      refine sat_obl rfl ?_
      refine sat_skip ?_
      refine lz_end (T1 := [(0, vP rs)]) (ps := []) [] [] [0] (by kernel_rfl) trivial ?_
      refine go_exec (rs := []) (by kernel_rfl) 4000 [.e 0, .z [1, 0, 1, 0, 0, 0] 5 [0, 36, 40]] (o := .obl (rs = rs) (.stop [.o [1, 0, 1, 0, 0, 0] 5, .b 1, .j J_1, .b 0, .c [1]] [(0, vP rs), (36, vP rs), (40, .slice i.al i.left.length i.cl)] [Eb21b7 rs c sl false i.al i.left.length i.cl an named.length cn a_12_1 ((i.kept ++ [(i.left.getD 0 0)]).length) c_12_1 ag given.length cg gp, Ee1326 i.al i.cl i.left, Ee1326 an cn named, Ee1326 a_12_1 c_12_1 (i.kept ++ [(i.left.getD 0 0)]), Ee1326 ag cg given, .pts b_11_1 [vI (i.left.getD 0 0)] 3])) (by kernel_rfl) ?_
      refine ok_obl rfl ?_
      refine ok_stop ?_
      refine go_by (some 41) (cutO Try.prog _) (some (.slice i.al (i.left).length i.cl, some (vI 1), none, 1)) (R_cutL 1 (a := i.al) (c := i.cl) (enc := encI .i64) (d := 0) (sz := 1) (xs := i.left) (te := 3) (by kernel_rfl) .i64 1 ⟨(by first | omega | (simp; done) | (simp; omega)), (by first | omega | (simp; done) | (simp; omega))⟩) (by kernel_rfl) ?_
      rintro v L2 ⟨a_3, c_4, rfl, rfl⟩
      refine go_exec (rs := []) (by kernel_rfl) 4000 [.e 0, .z [] 0 [0]] (o := .obl (rs = rs) (.stop [.j J_1, .b 0, .c [1]] [(0, vP rs)] [Eb21b7 rs c sl false a_3 ((i.left.drop 1).length) c_4 an named.length cn a_12_1 ((i.kept ++ [(i.left.getD 0 0)]).length) c_12_1 ag given.length cg gp, Ee1326 a_3 c_4 (i.left.drop 1), Ee1326 an cn named, Ee1326 a_12_1 c_12_1 (i.kept ++ [(i.left.getD 0 0)]), Ee1326 ag cg given, .pts b_11_1 [vI (i.left.getD 0 0)] 3])) (by kernel_rfl) ?_
      refine ok_obl rfl ?_
      refine ok_stop ?_
      exact go_back hJ_1 (⟨(i.kept ++ [(i.left.getD 0 0)]), (i.left.drop 1), a_12_1, a_3, c_12_1, c_4⟩ : RnI) [0, 1, 2, 3, 4] (by kernel_rfl) (by kernel_rfl) (by kernel_rfl) ⟨(nextR_on (by omega) (by assumption)).trans hx.1, (by simp; omega), fun b hb => hx.2.2 b (List.mem_of_mem_drop hb)⟩ (by simp; omega)
    · skip
      refine ok_obl rfl ?_
      refine ok_br (fun h => absurd (show (((i.left.length : Nat) : Int) == 0) = false from (by simp only [beq_iff_eq, beq_eq_false_iff_ne, ne_eq]; omega)) (by rw [h]; simp)) (fun _ => ?_)
      refine ok_stop ?_
      refine go_lz (by kernel_rfl) (by kernel_rfl) ?_
      refine lz_node (l' := (mk 15 [0, 1, 2, 3, 4, 5, 6, 7, 8, 9, 10])) (V' := [0, 1, 2, 3, 4, 5, 6, 7, 8, 9, 10]) (T1 := [(0, vP rs), (53, vP rs), (54, vP rs), (55, vP rs), (56, vP rs), (57, cfgV c), (58, vP rs), (59, vP rs), (60, .pointer (some ⟨rs, 11, none⟩)), (61, .slice i.al i.left.length i.cl), (62, slAt i.al 0 1), (63, vI (i.left.getD 0 0))]) (ps := [rs = rs, rs = rs, i.al = i.al ∧ i.left.length = i.left.length, (0 : Int) ≤ 0 ∧ 0 < ((i.left.length : Nat) : Int), slAt i.al 0 1 = slAt i.al 0 1, 0 < i.left.length]) [0, 1, 2, 3, 4, 5, 6, 7, 8, 9, 10] [(0, .h .w), (1, .h .w), (2, .h .w), (3, .h .w), (4, .h (.e 0)), (5, .h .w), (6, .h .w), (7, .h .w), (8, .h (.e 0)), (9, .h (.s 1)), (10, .h (.j 1 0))] [0, 53, 54, 55, 56, 57, 58, 59, 60, 61, 62, 63] [11] (by kernel_rfl) ⟨rfl, rfl, ⟨rfl, (by first | rfl | omega | (simp; done) | (simp; omega))⟩, (by first | omega | (simp; done) | (simp; omega)), rfl, (by first | omega | (simp; done) | (simp; omega)), trivial⟩ ⟨?_, trivial⟩
      refine lz_call (l' := (mk 15 [0, 1, 2, 3, 4, 5, 6, 7, 8, 9, 10, 11])) (V' := [0]) (some 64) [] Try.call86 (ref_NewGive c (i.left.getD 0 0) (by first | assumption | omega | (simp only [InK] at *; omega)) (hx.2.2 _ (by rw [List.getD_eq_getElem?_getD, List.getElem?_eq_getElem (by omega)]; exact List.getElem_mem _))) (by kernel_rfl) ?_
      rintro v post ⟨gv_11_1, rfl, rfl⟩
      refine lz_node (l' := (mk 15 [0, 1, 2, 3, 4, 5, 6, 7, 8, 9, 10, 11, 12, 13])) (V' := [0, 12, 13]) (T1 := [(64, vP gv_11_1), (0, vP rs), (53, vP rs), (65, vP rs), (66, .pointer (some ⟨rs, 15, none⟩))]) (ps := []) [12, 13] [(0, .h .w), (12, .h .w), (13, .h .w)] [64, 0, 53, 65, 66] [14] (by kernel_rfl) trivial ⟨?_, trivial⟩
      refine lz_op (l' := (mk 15 [0, 1, 2, 3, 4, 5, 6, 7, 8, 9, 10, 11, 12, 13, 14])) (V' := []) (so := .obl (rs = rs) (.ok .skip [Eb21b7 rs c sl false i.al i.left.length i.cl an named.length cn i.ak i.kept.length i.ck ag given.length cg (vP gv_11_1), Ee1326 i.al i.cl i.left, Ee1326 an cn named, Ee1326 i.ak i.ck i.kept, Ee1326 ag cg given, E607a7 gv_11_1 c (i.left.getD 0 0) 1 0])) (dst := none) (.e 0) (by kernel_rfl) ?_
      refine sat_obl rfl ?_
      refine sat_skip ?_
      refine lz_end (T1 := []) (ps := []) [] [] [] (by kernel_rfl) trivial ?_
      refine go_exec (rs := []) (by kernel_rfl) 4000 [] (o := .ret (undef) [Eb21b7 rs c sl false i.al i.left.length i.cl an named.length cn i.ak i.kept.length i.ck ag given.length cg (vP gv_11_1), Ee1326 i.al i.cl i.left, Ee1326 an cn named, Ee1326 i.ak i.ck i.kept, Ee1326 ag cg given, E607a7 gv_11_1 c (i.left.getD 0 0) 1 0]) (by kernel_rfl) ?_
      refine ret_view (L' := [Eb21b7 rs c sl false i.al i.left.length i.cl an named.length cn i.ak i.kept.length i.ck ag given.length cg (vP gv_11_1), Ee1326 i.al i.cl i.left, Ee1326 an cn named, Ee1326 i.ak i.ck i.kept, Ee1326 ag cg given, .res (dens [E607a7 gv_11_1 c (i.left.getD 0 0) 1 0])]) (view_fold 5 (e := E607a7 gv_11_1 c (i.left.getD 0 0) 1 0) (by kernel_rfl)) ?_
      refine ret_view (L' := [.res (RsR rs c (⟨sl, false, i.left, named, i.kept, given, (some (newGv c (i.left.getD 0 0)))⟩ : Rs))]) (view_pack (rsI (⟨sl, false, i.left, named, i.kept, given, (some (newGv c (i.left.getD 0 0)))⟩ : Rs)) (rsL rs c (⟨sl, false, i.left, named, i.kept, given, (some (newGv c (i.left.getD 0 0)))⟩ : Rs)) (⟨i.al, an, i.ak, ag, i.cl, cn, i.ck, cg, gv_11_1, vP gv_11_1⟩ : RsH) (M := []) [0, 1, 2, 3, 4, 5] (by kernel_rfl) (fun G hG => rfl)) ?_
      exact ret_ok (post := [.res (RsR rs c (⟨sl, false, i.left, named, i.kept, given, (some (newGv c (i.left.getD 0 0)))⟩ : Rs))]) [0] (by kernel_rfl) ⟨rfl, (by rw [nextR_some hx.1 (by omega) (by first | assumption | (simp at *; assumption)) sl false given none c])⟩
  · skip
    refine go_quiet (tm' := [(0, vP rs), (20, .bool false)]) (ps := [rs = rs, (decide (((i.left.length : Nat) : Int) > 0)) = false]) (cs := []) [(0, .h .w), (1, .h .w), (2, .h .w), (3, .h (.e 0)), (4, .h .w), (5, .h (.t false)), (6, .h .w), (7, .h .w), (8, .h .w), (9, .h .w), (10, .h .w), (11, .h .w), (12, .h .w), (13, .h .w), (14, .h .w), (15, .h .w), (16, .h .w), (17, .h .w), (18, .h .w)] [0, 20] (by kernel_rfl) (by kernel_rfl) ⟨rfl, (by simp only [decide_eq_true_eq, decide_eq_false_iff_not]; omega), trivial⟩ trivial ?_
    refine go_exec (rs := []) (by kernel_rfl) 4000 [.e 0, .sp [49] [.e 0] [.dead]] (o := .obl (rs = rs) (.br (((i.left.length : Nat) : Int) == 0) (.obl (rs = rs) (.ret (undef) [Eb21b7 rs c sl true i.al i.left.length i.cl an named.length cn i.ak i.kept.length i.ck ag given.length cg gp, Ee1326 i.al i.cl i.left, Ee1326 an cn named, Ee1326 i.ak i.ck i.kept, Ee1326 ag cg given])) (.bad))) (by kernel_rfl) ?_
    refine ok_obl rfl ?_
    refine ok_br (fun _ => ?_) (fun h => absurd (show (((i.left.length : Nat) : Int) == 0) = true from (by simp only [beq_iff_eq, beq_eq_false_iff_ne, ne_eq]; omega)) (by rw [h]; simp))
    refine ok_obl rfl ?_
    refine ret_view (L' := [Eb21b7 rs c sl true i.al i.left.length i.cl an named.length cn i.ak i.kept.length i.ck ag given.length cg gp, Ee1326 i.al i.cl i.left, Ee1326 an cn named, Ee1326 i.ak i.ck i.kept, Ee1326 ag cg given, .res (dens [])]) view_unit ?_
    refine ret_view (L' := [.res (RsR rs c (⟨sl, true, i.left, named, i.kept, given, none⟩ : Rs))]) (view_pack (rsI (⟨sl, true, i.left, named, i.kept, given, none⟩ : Rs)) (rsL rs c (⟨sl, true, i.left, named, i.kept, given, none⟩ : Rs)) (⟨i.al, an, i.ak, ag, i.cl, cn, i.ck, cg, 0, gp⟩ : RsH) (M := []) [0, 1, 2, 3, 4, 5] (by kernel_rfl) (fun G hG => by cases hG)) ?_
    exact ret_ok (post := [.res (RsR rs c (⟨sl, true, i.left, named, i.kept, given, none⟩ : Rs))]) [0] (by kernel_rfl) ⟨rfl, (by rw [nextR_none hx.1 (List.eq_nil_of_length_eq_zero (by omega)) sl false given none c])⟩

end Go.Proofs.Ytilaihbbollcnaa


namespace Go.Proofs.Ytilaihbbollcnaa
open Go.Sx
noncomputable def B29 : Code := (Try.f29.body).getD .skip

theorem rs_StepA (c : Cfg) (rs ra : Nat) (sl : Int) (al an ak ag : Option Addr) (nl nn nk ng cl cn ck cg : Nat) (gp : Value)  :
    Ctr Try.prog 29 #[vP rs, vP ra] [Eb21b7 rs c sl true al nl cl an nn cn ak nk ck ag ng cg gp] (Ret (.bool true) [Eb21b7 rs c sl true al nl cl an nn cn ak nk ck ag ng cg gp]) := by
  refine ctr_of (args := [vP rs, vP ra]) (fn := Try.f29) (body := B29) (nt := 106) Try.func29 (by kernel_rfl) (by kernel_rfl) ?_
  intro F
  refine go_exec (rs := [.tmp 4]) (by kernel_rfl) 4000 [.e 0] (o := .obl (rs = rs) (.ret (.bool true) [Eb21b7 rs c sl true al nl cl an nn cn ak nk ck ag ng cg gp])) (by kernel_rfl) ?_
  refine ok_obl rfl ?_
  exact ret_ok (post := [Eb21b7 rs c sl true al nl cl an nn cn ak nk ck ag ng cg gp]) [0] (by kernel_rfl) ⟨rfl, (by kernel_rfl)⟩


theorem rs_StepB (c : Cfg) (rs ra : Nat) (sl : Int) (left named kept given : List Int) (al an ak ag : Option Addr) (cl cn ck cg : Nat) (A : Ar) (gp : Value) (hc : c.Ok) (hn : A.ws.length = A.n) (hs : -1000000000 ≤ A.steps ∧ A.steps ≤ 1000000000) (hsz : (A.n : Int) = sizeOfC c) (hd : 0 ≤ sl ∧ sl < c.slots) (hws : ∀ i, 0 ≤ A.ws.getD i 0 ∧ A.ws.getD i 0 ≤ 18446744073709551615) (hl : kept.length + left.length ≤ 100 ∧ given.length ≤ 100 ∧ named.length ≤ 90) (hb : ∀ b ∈ left, 0 ≤ clsOf c b) :
    Ctr Try.prog 29 #[vP rs, vP ra] [Eb21b7 rs c sl false al left.length cl an named.length cn ak kept.length ck ag given.length cg gp, Ee1326 al cl left, Ee1326 an cn named, Ee1326 ak ck kept, Ee1326 ag cg given, Eeb923 ra A false 0, E671ef A] (Ret (.bool ((Rs.step c (⟨sl, false, left, named, kept, given, none⟩ : Rs) A).1.over)) [.res (RsR rs c ((Rs.step c (⟨sl, false, left, named, kept, given, none⟩ : Rs) A).1)), Eeb923 ra ((Rs.step c (⟨sl, false, left, named, kept, given, none⟩ : Rs) A).2) false 0, E671ef ((Rs.step c (⟨sl, false, left, named, kept, given, none⟩ : Rs) A).2)]) := by
  refine ctr_of (args := [vP rs, vP ra]) (fn := Try.f29) (body := B29) (nt := 106) Try.func29 (by kernel_rfl) (by kernel_rfl) ?_
  intro F
  refine go_exec (rs := [.tmp 4]) (by kernel_rfl) 4000 [.e 0, .z [0, 0, 1, 1] 0 [0, 1]] (o := .obl (rs = rs) (.stop [.c [0, 0, 1, 1], .c [1, 0, 1, 1], .c [1, 1, 1]] [(0, vP rs), (1, vP ra)] [Eb21b7 rs c sl false al left.length cl an named.length cn ak kept.length ck ag given.length cg gp, Ee1326 al cl left, Ee1326 an cn named, Ee1326 ak ck kept, Ee1326 ag cg given, Eeb923 ra A false 0, E671ef A])) (by kernel_rfl) ?_
  refine ok_obl rfl ?_
  refine ok_stop ?_
  refine go_quiet (tm' := [(0, vP rs), (1, vP ra), (20, .bool true)]) (ps := [rs = rs, rs = rs, (decide (sl < c.slots)) = true]) (cs := []) [(0, .h .w), (1, .h .w), (2, .h .w), (3, .h (.e 0)), (4, .h .w), (5, .h .w), (6, .h .w), (7, .h .w), (8, .h (.e 0)), (9, .h (.t true))] [0, 1, 20] (by kernel_rfl) (by kernel_rfl) ⟨rfl, rfl, (by first | (simp; done) | (simp; omega)), trivial⟩ trivial ?_
  refine go_exec (rs := [.tmp 4]) (by kernel_rfl) 4000 [.z [0, 0, 1, 0, 1, 1] 0 [0, 1]] (o := .stop [.c [0, 0, 1, 0, 1, 1], .c [1, 0, 1, 0, 1, 1], .c [1, 1, 1]] [(0, vP rs), (1, vP ra)] [Eb21b7 rs c sl false al left.length cl an named.length cn ak kept.length ck ag given.length cg gp, Ee1326 al cl left, Ee1326 an cn named, Ee1326 ak ck kept, Ee1326 ag cg given, Eeb923 ra A false 0, E671ef A]) (by kernel_rfl) ?_
  refine ok_stop ?_
  refine go_tail_call (dst := (some 31)) (ps := [rs = rs, rs = rs]) (cs := [(30, #[cfgV c, vI sl], vI (slotAt c sl))]) [(0, .h .w), (1, .h .w), (2, .h .w), (3, .h .w), (4, .h (.e 0)), (5, .h .w), (6, .h .w), (7, .h .w), (8, .h (.e 0)), (9, .q (vI (slotAt c sl)))] 10 [(11, .h .w)] [5, 6] [0, 5] (by kernel_rfl) Try.call64 (ref_Load ra A (slotAt c sl) (by first | assumption | omega | (simp only [InK] at *; omega)) (by have := slotAt_ok hc hd; rw [hsz]; omega) (by first | assumption | omega | (simp only [InK] at *; omega))) (by kernel_rfl) ⟨rfl, rfl, trivial⟩ ⟨⟨Try.call30, quiet_of [] (ref_Slot c sl (by first | assumption | omega | (simp only [InK] at *; omega)) (by simp only [Cfg.Ok, InK] at *; omega)) (by kernel_rfl) (by rintro v post ⟨rfl, rfl⟩; exact ⟨rfl, rfl⟩)⟩, trivial⟩ ?_
  rintro v post ⟨rfl, rfl⟩
  refine tail_next (tm' := [(0, vP rs), (5, vU (A.ws.getD (slotAt c sl).toNat 0))]) (ps2 := []) (by kernel_rfl) trivial ?_
  refine go_exec (rs := [.tmp 4]) (by kernel_rfl) 4000 [.n, .sp [34] [.e 0, .n, .z [0, 1, 0, 1, 0, 1, 0, 1, 1] 9 [0, 35, 39, 43]] [.e 0, .n, .e 0, .z [0, 0, 1, 1, 1, 0, 1, 0, 1, 1] 0 [0]]] (o := .obl ((0 : Int) ≤ 32) (.br ((bShr .u64 (A.ws.getD (slotAt c sl).toNat 0) 32) != 0) (.obl (rs = rs) (.obl (InK .i64 (bAnd .u64 (A.ws.getD (slotAt c sl).toNat 0) 4294967295)) (.new fun b_1 => .stop [.o [0, 1, 0, 1, 0, 1, 0, 1, 1] 9, .c [1, 1, 0, 1, 0, 1, 1], .c [1, 1, 1]] [(0, vP rs), (35, vP rs), (39, .slice an named.length cn), (43, .slice (some ⟨b_1, 0, none⟩) 1 1)] [Eb21b7 rs c sl false al left.length cl an named.length cn ak kept.length ck ag given.length cg gp, Ee1326 al cl left, Ee1326 an cn named, Ee1326 ak ck kept, Ee1326 ag cg given, Eeb923 ra (A.load (slotAt c sl)) false 0, E671ef (A.load (slotAt c sl)), .pts b_1 [vI (bAnd .u64 (A.ws.getD (slotAt c sl).toNat 0) 4294967295)] 3]))) (.obl (rs = rs) (.obl (InK .i64 (sl + 1)) (.obl (rs = rs) (.stop [.c [0, 0, 1, 1, 1, 0, 1, 0, 1, 1], .c [1, 0, 1, 1, 1, 0, 1, 0, 1, 1], .c [1, 1, 1, 1, 0, 1, 0, 1, 1], .c [1, 1, 1]] [(0, vP rs)] [Eb21b7 rs c (sl + 1) false al left.length cl an named.length cn ak kept.length ck ag given.length cg gp, Ee1326 al cl left, Ee1326 an cn named, Ee1326 ak ck kept, Ee1326 ag cg given, Eeb923 ra (A.load (slotAt c sl)) false 0, E671ef (A.load (slotAt c sl))])))))) (by kernel_rfl) ?_
  refine ok_obl (by first | omega | (simp; done) | (simp; omega)) ?_
  refine ok_br (fun h_2 => ?_) (fun h_2 => ?_)
  · replace h_2 := bneT h_2
    refine ok_obl rfl ?_
    refine ok_obl (by have h1 := hws (slotAt c sl).toNat; have h2 := and_mask (A.ws.getD (slotAt c sl).toNat 0) 32 (by decide) h1; have h3 := lo32_lt (A.ws.getD (slotAt c sl).toNat 0); have h4 : bAnd .u64 (A.ws.getD (slotAt c sl).toNat 0) 4294967295 = lo32 (A.ws.getD (slotAt c sl).toNat 0) := h2; rw [h4]; simp only [InK]; omega) ?_
    refine ok_new fun b_1 => ?_
    refine ok_stop ?_
    refine go_by (some 44) (appO Try.prog _) (some (.slice an (named).length cn, .slice (some ⟨b_1, 0, none⟩) 1 1, (3, 1, 8))) (R_append 2 (a := an) (c := cn) (enc := encI .i64) (d := 0) (sz := 1) (xs := named) (te := 3) (by kernel_rfl) (.slice (some ⟨b_1, 0, none⟩) 1 1) [(bAnd .u64 (A.ws.getD (slotAt c sl).toNat 0) 4294967295)] (src_pts (i := 7) (t := 3) (by kernel_rfl)) (oneI _) 8 (by first | omega | (simp; done) | (simp; omega)) (by first | omega | (simp; done) | (simp; omega))) (by kernel_rfl) ?_
    rintro v L2 ⟨a_3, c_4, rfl, rfl⟩
    refine go_exec (rs := [.tmp 4]) (by kernel_rfl) 4000 [.e 0, .e 0, .n, .e 0, .z [0, 0, 1, 1, 1, 0, 1, 0, 1, 1] 0 [0]] (o := .obl (rs = rs) (.obl (rs = rs) (.obl (InK .i64 (sl + 1)) (.obl (rs = rs) (.stop [.c [0, 0, 1, 1, 1, 0, 1, 0, 1, 1], .c [1, 0, 1, 1, 1, 0, 1, 0, 1, 1], .c [1, 1, 1, 1, 0, 1, 0, 1, 1], .c [1, 1, 1]] [(0, vP rs)] [Eb21b7 rs c (sl + 1) false al left.length cl a_3 ((named ++ [(bAnd .u64 (A.ws.getD (slotAt c sl).toNat 0) 4294967295)]).length) c_4 ak kept.length ck ag given.length cg gp, Ee1326 al cl left, Ee1326 a_3 c_4 (named ++ [(bAnd .u64 (A.ws.getD (slotAt c sl).toNat 0) 4294967295)]), Ee1326 ak ck kept, Ee1326 ag cg given, Eeb923 ra (A.load (slotAt c sl)) false 0, E671ef (A.load (slotAt c sl)), .pts b_1 [vI (bAnd .u64 (A.ws.getD (slotAt c sl).toNat 0) 4294967295)] 3]))))) (by kernel_rfl) ?_
    refine ok_obl rfl ?_
    refine ok_obl rfl ?_
    refine ok_obl (by simp only [Cfg.Ok, InK] at *; omega) ?_
    refine ok_obl rfl ?_
    refine ok_stop ?_
    refine go_quiet (tm' := [(0, vP rs), (63, .bool ((sl + 1) == c.slots))]) (ps := [rs = rs, rs = rs]) (cs := []) [(0, .h .w), (1, .h .w), (2, .h .w), (3, .h (.e 0)), (4, .h .w), (5, .h .w), (6, .h .w), (7, .h .w), (8, .h (.e 0)), (9, .h .w)] [0, 63] (by kernel_rfl) (by kernel_rfl) ⟨rfl, rfl, trivial⟩ trivial ?_
    refine go_exec (rs := [.tmp 4]) (by kernel_rfl) 4000 [.sp [63] [.z [0, 1, 0, 1, 1, 1, 0, 1, 0, 1, 1] 1 [0, 64]] [.e 0]] (o := .br ((sl + 1) == c.slots) (.stop [.o [0, 1, 0, 1, 1, 1, 0, 1, 0, 1, 1] 1, .c [1, 1, 1, 1, 0, 1, 0, 1, 1], .c [1, 1, 1]] [(0, vP rs), (64, vP rs)] [Eb21b7 rs c (sl + 1) false al left.length cl a_3 ((named ++ [(bAnd .u64 (A.ws.getD (slotAt c sl).toNat 0) 4294967295)]).length) c_4 ak kept.length ck ag given.length cg gp, Ee1326 al cl left, Ee1326 a_3 c_4 (named ++ [(bAnd .u64 (A.ws.getD (slotAt c sl).toNat 0) 4294967295)]), Ee1326 ak ck kept, Ee1326 ag cg given, Eeb923 ra (A.load (slotAt c sl)) false 0, E671ef (A.load (slotAt c sl)), .pts b_1 [vI (bAnd .u64 (A.ws.getD (slotAt c sl).toNat 0) 4294967295)] 3]) (.obl (rs = rs) (.ret (.bool false) [Eb21b7 rs c (sl + 1) false al left.length cl a_3 ((named ++ [(bAnd .u64 (A.ws.getD (slotAt c sl).toNat 0) 4294967295)]).length) c_4 ak kept.length ck ag given.length cg gp, Ee1326 al cl left, Ee1326 a_3 c_4 (named ++ [(bAnd .u64 (A.ws.getD (slotAt c sl).toNat 0) 4294967295)]), Ee1326 ak ck kept, Ee1326 ag cg given, Eeb923 ra (A.load (slotAt c sl)) false 0, E671ef (A.load (slotAt c sl)), .pts b_1 [vI (bAnd .u64 (A.ws.getD (slotAt c sl).toNat 0) 4294967295)] 3]))) (by kernel_rfl) ?_
    refine ok_br (fun h_5 => ?_) (fun h_5 => ?_)
    · replace h_5 := beqT h_5
      refine ok_stop ?_
      refine go_call (some 65) [0, 1, 2, 3, 4] Try.call65 (rs_next c rs (sl + 1) left (named ++ [(bAnd .u64 (A.ws.getD (slotAt c sl).toNat 0) 4294967295)]) kept given al a_3 ak ag cl c_4 ck cg gp (by first | assumption | omega | (simp only [InK] at *; omega)) hl.1 (by first | assumption | omega | (simp only [InK] at *; omega)) (by first | omega | (simp; omega))) (by kernel_rfl) ?_
      rintro v post ⟨rfl, rfl⟩
      refine go_exec (rs := [.tmp 4]) (by kernel_rfl) 4000 [.z [0, 1, 1, 1, 1, 0, 1, 0, 1, 1] 3 [68]] (o := .stop [.o [0, 1, 1, 1, 1, 0, 1, 0, 1, 1] 3, .c [1, 1, 1, 1, 1, 0, 1, 0, 1, 1], .c [1, 1, 1]] [(68, .pointer (some ⟨rs, 10, none⟩))] [Eeb923 ra (A.load (slotAt c sl)) false 0, E671ef (A.load (slotAt c sl)), .pts b_1 [vI (bAnd .u64 (A.ws.getD (slotAt c sl).toNat 0) 4294967295)] 3, .res (RsR rs c (Rs.next c (⟨(sl + 1), false, left, (named ++ [(bAnd .u64 (A.ws.getD (slotAt c sl).toNat 0) 4294967295)]), kept, given, none⟩ : Rs)))]) (by kernel_rfl) ?_
      refine ok_stop ?_
      refine go_by (some 69) (ldO Try.prog _) (some (.pointer (some ⟨rs, 10, none⟩), false, 1)) (R_peek 3 (R := RsR rs c (Rs.next c (⟨(sl + 1), false, left, (named ++ [(bAnd .u64 (A.ws.getD (slotAt c sl).toNat 0) 4294967295)]), kept, given, none⟩ : Rs))) (by kernel_rfl) rs 10 (.bool ((Rs.next c (⟨(sl + 1), false, left, (named ++ [(bAnd .u64 (A.ws.getD (slotAt c sl).toNat 0) 4294967295)]), kept, given, none⟩ : Rs)).over)) (peek_box (fun h => ⟨_, _, _, rfl, rfl⟩))) (by kernel_rfl) ?_
      rintro v L2 ⟨rfl, rfl⟩
      refine go_exec (rs := [.tmp 4]) (by kernel_rfl) 4000 [] (o := .ret (.bool ((Rs.next c (⟨(sl + 1), false, left, (named ++ [(bAnd .u64 (A.ws.getD (slotAt c sl).toNat 0) 4294967295)]), kept, given, none⟩ : Rs)).over)) [Eeb923 ra (A.load (slotAt c sl)) false 0, E671ef (A.load (slotAt c sl)), .pts b_1 [vI (bAnd .u64 (A.ws.getD (slotAt c sl).toNat 0) 4294967295)] 3, .res (RsR rs c (Rs.next c (⟨(sl + 1), false, left, (named ++ [(bAnd .u64 (A.ws.getD (slotAt c sl).toNat 0) 4294967295)]), kept, given, none⟩ : Rs)))]) (by kernel_rfl) ?_
      have e : Rs.step c (⟨sl, false, left, named, kept, given, none⟩ : Rs) A = ((Rs.next c (⟨(sl + 1), false, left, (named ++ [(bAnd .u64 (A.ws.getD (slotAt c sl).toNat 0) 4294967295)]), kept, given, none⟩ : Rs)), (A.load (slotAt c sl))) := by
        have k1 := shr_hi (hws (slotAt c sl).toNat)
        have k2 : bAnd .u64 (A.ws.getD (slotAt c sl).toNat 0) 4294967295 = lo32 (A.ws.getD (slotAt c sl).toNat 0) := and_mask _ 32 (by decide) (hws _)
        unfold Rs.step; (try unfold Rs.look); dsimp only; (try rw [← k1]); (try rw [k2]); (repeat' (first | rw [if_pos (by first | omega | assumption)] | rw [if_neg (by first | omega | assumption | simp)])) <;> rfl
      exact ret_ok (post := [.res (RsR rs c (Rs.next c (⟨(sl + 1), false, left, (named ++ [(bAnd .u64 (A.ws.getD (slotAt c sl).toNat 0) 4294967295)]), kept, given, none⟩ : Rs))), Eeb923 ra (A.load (slotAt c sl)) false 0, E671ef (A.load (slotAt c sl))]) [3, 0, 1] (by kernel_rfl) ⟨(by first | (rw [e]; done) | (rw [e]; rfl)), (by first | (rw [e]; done) | (rw [e]; kernel_rfl))⟩
    · replace h_5 := beqF h_5
      refine ok_obl rfl ?_
      refine ret_view (L' := [Eb21b7 rs c (sl + 1) false al left.length cl a_3 ((named ++ [(bAnd .u64 (A.ws.getD (slotAt c sl).toNat 0) 4294967295)]).length) c_4 ak kept.length ck ag given.length cg gp, Ee1326 al cl left, Ee1326 a_3 c_4 (named ++ [(bAnd .u64 (A.ws.getD (slotAt c sl).toNat 0) 4294967295)]), Ee1326 ak ck kept, Ee1326 ag cg given, Eeb923 ra (A.load (slotAt c sl)) false 0, E671ef (A.load (slotAt c sl)), .pts b_1 [vI (bAnd .u64 (A.ws.getD (slotAt c sl).toNat 0) 4294967295)] 3, .res (dens [])]) view_unit ?_
      refine ret_view (L' := [Eeb923 ra (A.load (slotAt c sl)) false 0, E671ef (A.load (slotAt c sl)), .pts b_1 [vI (bAnd .u64 (A.ws.getD (slotAt c sl).toNat 0) 4294967295)] 3, .res (RsR rs c (⟨(sl + 1), false, left, (named ++ [(bAnd .u64 (A.ws.getD (slotAt c sl).toNat 0) 4294967295)]), kept, given, none⟩ : Rs))]) (view_pack (rsI (⟨(sl + 1), false, left, (named ++ [(bAnd .u64 (A.ws.getD (slotAt c sl).toNat 0) 4294967295)]), kept, given, none⟩ : Rs)) (rsL rs c (⟨(sl + 1), false, left, (named ++ [(bAnd .u64 (A.ws.getD (slotAt c sl).toNat 0) 4294967295)]), kept, given, none⟩ : Rs)) (⟨al, a_3, ak, ag, cl, c_4, ck, cg, 0, gp⟩ : RsH) (M := [Eeb923 ra (A.load (slotAt c sl)) false 0, E671ef (A.load (slotAt c sl)), .pts b_1 [vI (bAnd .u64 (A.ws.getD (slotAt c sl).toNat 0) 4294967295)] 3]) [0, 1, 2, 3, 4, 8] (by kernel_rfl) (fun G hG => by cases hG)) ?_
      have e : Rs.step c (⟨sl, false, left, named, kept, given, none⟩ : Rs) A = ((⟨(sl + 1), false, left, (named ++ [(bAnd .u64 (A.ws.getD (slotAt c sl).toNat 0) 4294967295)]), kept, given, none⟩ : Rs), (A.load (slotAt c sl))) := by
        have k1 := shr_hi (hws (slotAt c sl).toNat)
        have k2 : bAnd .u64 (A.ws.getD (slotAt c sl).toNat 0) 4294967295 = lo32 (A.ws.getD (slotAt c sl).toNat 0) := and_mask _ 32 (by decide) (hws _)
        unfold Rs.step; (try unfold Rs.look); dsimp only; (try rw [← k1]); (try rw [k2]); (repeat' (first | rw [if_pos (by first | omega | assumption)] | rw [if_neg (by first | omega | assumption | simp)])) <;> rfl
      exact ret_ok (post := [.res (RsR rs c (⟨(sl + 1), false, left, (named ++ [(bAnd .u64 (A.ws.getD (slotAt c sl).toNat 0) 4294967295)]), kept, given, none⟩ : Rs)), Eeb923 ra (A.load (slotAt c sl)) false 0, E671ef (A.load (slotAt c sl))]) [3, 0, 1] (by kernel_rfl) ⟨(by first | (rw [e]; done) | (rw [e]; rfl)), (by first | (rw [e]; done) | (rw [e]; kernel_rfl))⟩
  · replace h_2 := bneF h_2
    refine ok_obl rfl ?_
    refine ok_obl (by simp only [Cfg.Ok, InK] at *; omega) ?_
    refine ok_obl rfl ?_
    refine ok_stop ?_
    refine go_quiet (tm' := [(0, vP rs), (63, .bool ((sl + 1) == c.slots))]) (ps := [rs = rs, rs = rs]) (cs := []) [(0, .h .w), (1, .h .w), (2, .h .w), (3, .h (.e 0)), (4, .h .w), (5, .h .w), (6, .h .w), (7, .h .w), (8, .h (.e 0)), (9, .h .w)] [0, 63] (by kernel_rfl) (by kernel_rfl) ⟨rfl, rfl, trivial⟩ trivial ?_
    refine go_exec (rs := [.tmp 4]) (by kernel_rfl) 4000 [.sp [63] [.z [0, 1, 0, 1, 1, 1, 0, 1, 0, 1, 1] 1 [0, 64]] [.e 0]] (o := .br ((sl + 1) == c.slots) (.stop [.o [0, 1, 0, 1, 1, 1, 0, 1, 0, 1, 1] 1, .c [1, 1, 1, 1, 0, 1, 0, 1, 1], .c [1, 1, 1]] [(0, vP rs), (64, vP rs)] [Eb21b7 rs c (sl + 1) false al left.length cl an named.length cn ak kept.length ck ag given.length cg gp, Ee1326 al cl left, Ee1326 an cn named, Ee1326 ak ck kept, Ee1326 ag cg given, Eeb923 ra (A.load (slotAt c sl)) false 0, E671ef (A.load (slotAt c sl))]) (.obl (rs = rs) (.ret (.bool false) [Eb21b7 rs c (sl + 1) false al left.length cl an named.length cn ak kept.length ck ag given.length cg gp, Ee1326 al cl left, Ee1326 an cn named, Ee1326 ak ck kept, Ee1326 ag cg given, Eeb923 ra (A.load (slotAt c sl)) false 0, E671ef (A.load (slotAt c sl))]))) (by kernel_rfl) ?_
    refine ok_br (fun h_6 => ?_) (fun h_6 => ?_)
    · replace h_6 := beqT h_6
      refine ok_stop ?_
      refine go_call (some 65) [0, 1, 2, 3, 4] Try.call65 (rs_next c rs (sl + 1) left named kept given al an ak ag cl cn ck cg gp (by first | assumption | omega | (simp only [InK] at *; omega)) hl.1 (by first | assumption | omega | (simp only [InK] at *; omega)) (by first | omega | (simp; omega))) (by kernel_rfl) ?_
      rintro v post ⟨rfl, rfl⟩
      refine go_exec (rs := [.tmp 4]) (by kernel_rfl) 4000 [.z [0, 1, 1, 1, 1, 0, 1, 0, 1, 1] 3 [68]] (o := .stop [.o [0, 1, 1, 1, 1, 0, 1, 0, 1, 1] 3, .c [1, 1, 1, 1, 1, 0, 1, 0, 1, 1], .c [1, 1, 1]] [(68, .pointer (some ⟨rs, 10, none⟩))] [Eeb923 ra (A.load (slotAt c sl)) false 0, E671ef (A.load (slotAt c sl)), .res (RsR rs c (Rs.next c (⟨(sl + 1), false, left, named, kept, given, none⟩ : Rs)))]) (by kernel_rfl) ?_
      refine ok_stop ?_
      refine go_by (some 69) (ldO Try.prog _) (some (.pointer (some ⟨rs, 10, none⟩), false, 1)) (R_peek 2 (R := RsR rs c (Rs.next c (⟨(sl + 1), false, left, named, kept, given, none⟩ : Rs))) (by kernel_rfl) rs 10 (.bool ((Rs.next c (⟨(sl + 1), false, left, named, kept, given, none⟩ : Rs)).over)) (peek_box (fun h => ⟨_, _, _, rfl, rfl⟩))) (by kernel_rfl) ?_
      rintro v L2 ⟨rfl, rfl⟩
      refine go_exec (rs := [.tmp 4]) (by kernel_rfl) 4000 [] (o := .ret (.bool ((Rs.next c (⟨(sl + 1), false, left, named, kept, given, none⟩ : Rs)).over)) [Eeb923 ra (A.load (slotAt c sl)) false 0, E671ef (A.load (slotAt c sl)), .res (RsR rs c (Rs.next c (⟨(sl + 1), false, left, named, kept, given, none⟩ : Rs)))]) (by kernel_rfl) ?_
      have e : Rs.step c (⟨sl, false, left, named, kept, given, none⟩ : Rs) A = ((Rs.next c (⟨(sl + 1), false, left, named, kept, given, none⟩ : Rs)), (A.load (slotAt c sl))) := by
        have k1 := shr_hi (hws (slotAt c sl).toNat)
        have k2 : bAnd .u64 (A.ws.getD (slotAt c sl).toNat 0) 4294967295 = lo32 (A.ws.getD (slotAt c sl).toNat 0) := and_mask _ 32 (by decide) (hws _)
        unfold Rs.step; (try unfold Rs.look); dsimp only; (try rw [← k1]); (try rw [k2]); (repeat' (first | rw [if_pos (by first | omega | assumption)] | rw [if_neg (by first | omega | assumption | simp)])) <;> rfl
      exact ret_ok (post := [.res (RsR rs c (Rs.next c (⟨(sl + 1), false, left, named, kept, given, none⟩ : Rs))), Eeb923 ra (A.load (slotAt c sl)) false 0, E671ef (A.load (slotAt c sl))]) [2, 0, 1] (by kernel_rfl) ⟨(by first | (rw [e]; done) | (rw [e]; rfl)), (by first | (rw [e]; done) | (rw [e]; kernel_rfl))⟩
    · replace h_6 := beqF h_6
      refine ok_obl rfl ?_
      refine ret_view (L' := [Eb21b7 rs c (sl + 1) false al left.length cl an named.length cn ak kept.length ck ag given.length cg gp, Ee1326 al cl left, Ee1326 an cn named, Ee1326 ak ck kept, Ee1326 ag cg given, Eeb923 ra (A.load (slotAt c sl)) false 0, E671ef (A.load (slotAt c sl)), .res (dens [])]) view_unit ?_
      refine ret_view (L' := [Eeb923 ra (A.load (slotAt c sl)) false 0, E671ef (A.load (slotAt c sl)), .res (RsR rs c (⟨(sl + 1), false, left, named, kept, given, none⟩ : Rs))]) (view_pack (rsI (⟨(sl + 1), false, left, named, kept, given, none⟩ : Rs)) (rsL rs c (⟨(sl + 1), false, left, named, kept, given, none⟩ : Rs)) (⟨al, an, ak, ag, cl, cn, ck, cg, 0, gp⟩ : RsH) (M := [Eeb923 ra (A.load (slotAt c sl)) false 0, E671ef (A.load (slotAt c sl))]) [0, 1, 2, 3, 4, 7] (by kernel_rfl) (fun G hG => by cases hG)) ?_
      have e : Rs.step c (⟨sl, false, left, named, kept, given, none⟩ : Rs) A = ((⟨(sl + 1), false, left, named, kept, given, none⟩ : Rs), (A.load (slotAt c sl))) := by
        have k1 := shr_hi (hws (slotAt c sl).toNat)
        have k2 : bAnd .u64 (A.ws.getD (slotAt c sl).toNat 0) 4294967295 = lo32 (A.ws.getD (slotAt c sl).toNat 0) := and_mask _ 32 (by decide) (hws _)
        unfold Rs.step; (try unfold Rs.look); dsimp only; (try rw [← k1]); (try rw [k2]); (repeat' (first | rw [if_pos (by first | omega | assumption)] | rw [if_neg (by first | omega | assumption | simp)])) <;> rfl
      exact ret_ok (post := [.res (RsR rs c (⟨(sl + 1), false, left, named, kept, given, none⟩ : Rs)), Eeb923 ra (A.load (slotAt c sl)) false 0, E671ef (A.load (slotAt c sl))]) [2, 0, 1] (by kernel_rfl) ⟨(by first | (rw [e]; done) | (rw [e]; rfl)), (by first | (rw [e]; done) | (rw [e]; kernel_rfl))⟩


theorem rs_StepC (c : Cfg) (rs ra : Nat) (sl : Int) (left named kept given : List Int) (al an ak ag : Option Addr) (cl cn ck cg : Nat) (A : Ar) (gv : Nat) (G : Gv) (hc : c.Ok) (hn : A.ws.length = A.n) (hs : -1000000000 ≤ A.steps ∧ A.steps ≤ 1000000000) (hsz : (A.n : Int) = sizeOfC c) (hd : sl = c.slots) (hG : GvR c G) (hll : 0 < left.length) (hl : kept.length + left.length ≤ 100 ∧ given.length ≤ 100 ∧ named.length ≤ 90) (hb : ∀ b ∈ left, 0 ≤ clsOf c b) :
    Ctr Try.prog 29 #[vP rs, vP ra] [Eb21b7 rs c sl false al left.length cl an named.length cn ak kept.length ck ag given.length cg (vP gv), Ee1326 al cl left, Ee1326 an cn named, Ee1326 ak ck kept, Ee1326 ag cg given, E607a7 gv c G.block ((G.ph : Nat) : Int) G.seen, Eeb923 ra A false 0, E671ef A] (Ret (.bool ((Rs.step c (⟨sl, false, left, named, kept, given, some G⟩ : Rs) A).1.over)) [.res (RsR rs c ((Rs.step c (⟨sl, false, left, named, kept, given, some G⟩ : Rs) A).1)), Eeb923 ra ((Rs.step c (⟨sl, false, left, named, kept, given, some G⟩ : Rs) A).2) false 0, E671ef ((Rs.step c (⟨sl, false, left, named, kept, given, some G⟩ : Rs) A).2)]) := by
  refine ctr_of (args := [vP rs, vP ra]) (fn := Try.f29) (body := B29) (nt := 106) Try.func29 (by kernel_rfl) (by kernel_rfl) ?_
  intro F
  refine go_exec (rs := [.tmp 4]) (by kernel_rfl) 4000 [.e 0, .z [0, 0, 1, 1] 0 [0, 1]] (o := .obl (rs = rs) (.stop [.c [0, 0, 1, 1], .c [1, 0, 1, 1], .c [1, 1, 1]] [(0, vP rs), (1, vP ra)] [Eb21b7 rs c sl false al left.length cl an named.length cn ak kept.length ck ag given.length cg (vP gv), Ee1326 al cl left, Ee1326 an cn named, Ee1326 ak ck kept, Ee1326 ag cg given, E607a7 gv c G.block ((G.ph : Nat) : Int) G.seen, Eeb923 ra A false 0, E671ef A])) (by kernel_rfl) ?_
  refine ok_obl rfl ?_
  refine ok_stop ?_
  refine go_quiet (tm' := [(0, vP rs), (1, vP ra), (20, .bool false)]) (ps := [rs = rs, rs = rs, (decide (sl < c.slots)) = false]) (cs := []) [(0, .h .w), (1, .h .w), (2, .h .w), (3, .h (.e 0)), (4, .h .w), (5, .h .w), (6, .h .w), (7, .h .w), (8, .h (.e 0)), (9, .h (.t false))] [0, 1, 20] (by kernel_rfl) (by kernel_rfl) ⟨rfl, rfl, (by first | (simp; done) | (simp; omega)), trivial⟩ trivial ?_
  refine go_exec (rs := [.tmp 4]) (by kernel_rfl) 4000 [.e 0, .z [0, 1, 1, 1] 5 [0, 73, 74]] (o := .obl (rs = rs) (.stop [.o [0, 1, 1, 1] 5, .c [1, 1, 1, 1]] [(0, vP rs), (73, vP gv), (74, vP ra)] [Eb21b7 rs c sl false al left.length cl an named.length cn ak kept.length ck ag given.length cg (vP gv), Ee1326 al cl left, Ee1326 an cn named, Ee1326 ak ck kept, Ee1326 ag cg given, E607a7 gv c G.block ((G.ph : Nat) : Int) G.seen, Eeb923 ra A false 0, E671ef A])) (by kernel_rfl) ?_
  refine ok_obl rfl ?_
  refine ok_stop ?_
  refine go_call (some 75) [5, 6, 7] Try.call66 (ref_give_Step c gv ra G A (by first | assumption | omega | (simp only [InK] at *; omega)) (by first | assumption | omega | (simp only [InK] at *; omega)) (by first | assumption | omega | (simp only [InK] at *; omega)) (by first | assumption | omega | (simp only [InK] at *; omega)) hG) (by kernel_rfl) ?_
  rintro v post ⟨rfl, rfl⟩
  refine go_exec (rs := [.tmp 4]) (by kernel_rfl) 4000 [.sp [76, 75, 6] [.z [0, 0, 1, 0, 1, 1, 1, 1] 0 [0]] [.e 0]] (o := .obl (((G.step c A).1.ph == 0) = ((G.step c A).1.ph == 0)) (.obl (((G.step c A).1.ph == 0) = ((G.step c A).1.ph == 0)) (.br ((G.step c A).1.ph == 0) (.stop [.c [0, 0, 1, 0, 1, 1, 1, 1], .c [1, 0, 1, 0, 1, 1, 1, 1], .c [1, 1, 1, 1, 1]] [(0, vP rs)] [Eb21b7 rs c sl false al left.length cl an named.length cn ak kept.length ck ag given.length cg (vP gv), Ee1326 al cl left, Ee1326 an cn named, Ee1326 ak ck kept, Ee1326 ag cg given, E607a7 gv c ((G.step c A).1.block) (((G.step c A).1.ph : Nat) : Int) ((G.step c A).1.seen), Eeb923 ra ((G.step c A).2) false 0, E671ef ((G.step c A).2)]) (.obl (rs = rs) (.ret (.bool false) [Eb21b7 rs c sl false al left.length cl an named.length cn ak kept.length ck ag given.length cg (vP gv), Ee1326 al cl left, Ee1326 an cn named, Ee1326 ak ck kept, Ee1326 ag cg given, E607a7 gv c ((G.step c A).1.block) (((G.step c A).1.ph : Nat) : Int) ((G.step c A).1.seen), Eeb923 ra ((G.step c A).2) false 0, E671ef ((G.step c A).2)]))))) (by kernel_rfl) ?_
  refine ok_obl rfl ?_
  refine ok_obl rfl ?_
  refine ok_br (fun h_1 => ?_) (fun h_1 => ?_)
  · replace h_1 := beqT h_1
    refine ok_stop ?_
    refine go_lz (by kernel_rfl) (by kernel_rfl) ?_
    refine lz_node (l' := (mk 16 [0, 1, 2, 3, 4, 5, 6, 7, 8, 9, 10])) (V' := [0, 1, 2, 3, 4, 5, 6, 7, 8, 9, 10]) (T1 := [(0, vP rs), (77, vP rs), (78, vP rs), (79, vP rs), (80, .pointer (some ⟨rs, 14, none⟩)), (81, .slice ag given.length cg), (82, vP rs), (83, vP rs), (84, .pointer (some ⟨rs, 11, none⟩)), (85, .slice al left.length cl), (86, slAt al 0 1), (87, vI (left.getD 0 0))]) (ps := [rs = rs, rs = rs, al = al ∧ left.length = left.length, (0 : Int) ≤ 0 ∧ 0 < ((left.length : Nat) : Int), slAt al 0 1 = slAt al 0 1, 0 < left.length]) [0, 1, 2, 3, 4, 5, 6, 7, 8, 9, 10] [(0, .h .w), (1, .h .w), (2, .h .w), (3, .h .w), (4, .h (.e 0)), (5, .h .w), (6, .h .w), (7, .h .w), (8, .h (.e 0)), (9, .h (.s 1)), (10, .h (.j 1 0))] [0, 77, 78, 79, 80, 81, 82, 83, 84, 85, 86, 87] [11] (by kernel_rfl) ⟨rfl, rfl, ⟨rfl, (by first | rfl | omega | (simp; done) | (simp; omega))⟩, (by first | omega | (simp; done) | (simp; omega)), rfl, (by first | omega | (simp; done) | (simp; omega)), trivial⟩ ⟨?_, trivial⟩
    refine lz_op (l' := (mk 16 [0, 1, 2, 3, 4, 5, 6, 7, 8, 9, 10, 11])) (V' := [0, 1, 2, 3, 4]) (so := .new fun b_11_1 => .ok (.value (.slice (some ⟨b_11_1, 0, none⟩) 1 1)) [Eb21b7 rs c sl false al left.length cl an named.length cn ak kept.length ck ag given.length cg (vP gv), Ee1326 al cl left, Ee1326 an cn named, Ee1326 ak ck kept, Ee1326 ag cg given, E607a7 gv c ((G.step c A).1.block) (((G.step c A).1.ph : Nat) : Int) ((G.step c A).1.seen), Eeb923 ra ((G.step c A).2) false 0, E671ef ((G.step c A).2), .pts b_11_1 [vI (left.getD 0 0)] 3]) (dst := (some 88)) .w (by kernel_rfl) ?_
    refine sat_new fun b_11_1 => ?_
    refine sat_value ?_
    refine lz_node (l' := (mk 16 [0, 1, 2, 3, 4, 5, 6, 7, 8, 9, 10, 11])) (V' := [0, 1, 2, 3, 4]) (T1 := [(88, .slice (some ⟨b_11_1, 0, none⟩) 1 1), (0, vP rs), (77, vP rs), (78, vP rs), (79, vP rs), (80, .pointer (some ⟨rs, 14, none⟩)), (81, .slice ag given.length cg)]) (ps := [rs = rs]) [] [(0, .h .w), (1, .h .w), (2, .h .w), (3, .h .w), (4, .h (.e 0))] [88, 0, 77, 78, 79, 80, 81] [12] (by kernel_rfl) ⟨rfl, trivial⟩ ⟨?_, trivial⟩
    refine lz_by (l' := (mk 16 [0, 1, 2, 3, 4, 5, 6, 7, 8, 9, 10, 11, 12])) (V' := [0]) (some 89) (appO Try.prog _) (some (.slice ag (given).length cg, .slice (some ⟨b_11_1, 0, none⟩) 1 1, (3, 1, 8))) (R_append 4 (a := ag) (c := cg) (enc := encI .i64) (d := 0) (sz := 1) (xs := given) (te := 3) (by kernel_rfl) (.slice (some ⟨b_11_1, 0, none⟩) 1 1) [(left.getD 0 0)] (src_pts (i := 8) (t := 3) (by kernel_rfl)) (oneI _) 8 (by first | omega | (simp; done) | (simp; omega)) (by first | omega | (simp; done) | (simp; omega))) (by kernel_rfl) ?_
    rintro v L2 ⟨a_12_1, c_12_1, rfl, rfl⟩
    refine lz_node (l' := (mk 16 [0, 1, 2, 3, 4, 5, 6, 7, 8, 9, 10, 11, 12, 13, 14])) (V' := [0, 13, 14]) (T1 := [(89, .slice a_12_1 ((given ++ [(left.getD 0 0)]).length) c_12_1), (0, vP rs), (77, vP rs), (90, vP rs), (91, .pointer (some ⟨rs, 14, none⟩))]) (ps := []) [13, 14] [(0, .h .w), (13, .h .w), (14, .h .w)] [89, 0, 77, 90, 91] [15] (by kernel_rfl) trivial ⟨?_, trivial⟩
    refine lz_op (l' := (mk 16 [0, 1, 2, 3, 4, 5, 6, 7, 8, 9, 10, 11, 12, 13, 14, 15])) (V' := []) (so := .obl (rs = rs) (.ok .skip [Eb21b7 rs c sl false al left.length cl an named.length cn ak kept.length ck a_12_1 ((given ++ [(left.getD 0 0)]).length) c_12_1 (vP gv), Ee1326 al cl left, Ee1326 an cn named, Ee1326 ak ck kept, Ee1326 a_12_1 c_12_1 (given ++ [(left.getD 0 0)]), E607a7 gv c ((G.step c A).1.block) (((G.step c A).1.ph : Nat) : Int) ((G.step c A).1.seen), Eeb923 ra ((G.step c A).2) false 0, E671ef ((G.step c A).2), .pts b_11_1 [vI (left.getD 0 0)] 3])) (dst := none) (.e 0) (by kernel_rfl) ?_
    refine sat_obl rfl ?_
    refine sat_skip ?_
    refine lz_end (T1 := [(0, vP rs)]) (ps := []) [] [] [0] (by kernel_rfl) trivial ?_
    refine go_exec (rs := [.tmp 4]) (by kernel_rfl) 4000 [.e 0, .z [0, 1, 0, 1, 0, 1, 1, 1, 1] 5 [0, 92, 96]] (o := .obl (rs = rs) (.stop [.o [0, 1, 0, 1, 0, 1, 1, 1, 1] 5, .c [1, 1, 0, 1, 0, 1, 1, 1, 1], .c [1, 1, 1, 1, 1]] [(0, vP rs), (92, vP rs), (96, .slice al left.length cl)] [Eb21b7 rs c sl false al left.length cl an named.length cn ak kept.length ck a_12_1 ((given ++ [(left.getD 0 0)]).length) c_12_1 (vP gv), Ee1326 al cl left, Ee1326 an cn named, Ee1326 ak ck kept, Ee1326 a_12_1 c_12_1 (given ++ [(left.getD 0 0)]), E607a7 gv c ((G.step c A).1.block) (((G.step c A).1.ph : Nat) : Int) ((G.step c A).1.seen), Eeb923 ra ((G.step c A).2) false 0, E671ef ((G.step c A).2), .pts b_11_1 [vI (left.getD 0 0)] 3])) (by kernel_rfl) ?_
    refine ok_obl rfl ?_
    refine ok_stop ?_
    refine go_by (some 97) (cutO Try.prog _) (some (.slice al (left).length cl, some (vI 1), none, 1)) (R_cutL 1 (a := al) (c := cl) (enc := encI .i64) (d := 0) (sz := 1) (xs := left) (te := 3) (by kernel_rfl) .i64 1 ⟨(by first | omega | (simp; done) | (simp; omega)), (by first | omega | (simp; done) | (simp; omega))⟩) (by kernel_rfl) ?_
    rintro v L2 ⟨a_2, c_3, rfl, rfl⟩
    refine go_exec (rs := [.tmp 4]) (by kernel_rfl) 4000 [.e 0, .z [1, 1, 0, 1, 0, 1, 1, 1, 1] 1 [0, 100]] (o := .obl (rs = rs) (.stop [.o [1, 1, 0, 1, 0, 1, 1, 1, 1] 1, .c [1, 1, 1, 1, 1]] [(0, vP rs), (100, vP rs)] [Eb21b7 rs c sl false a_2 ((left.drop 1).length) c_3 an named.length cn ak kept.length ck a_12_1 ((given ++ [(left.getD 0 0)]).length) c_12_1 (vP gv), Ee1326 a_2 c_3 (left.drop 1), Ee1326 an cn named, Ee1326 ak ck kept, Ee1326 a_12_1 c_12_1 (given ++ [(left.getD 0 0)]), E607a7 gv c ((G.step c A).1.block) (((G.step c A).1.ph : Nat) : Int) ((G.step c A).1.seen), Eeb923 ra ((G.step c A).2) false 0, E671ef ((G.step c A).2), .pts b_11_1 [vI (left.getD 0 0)] 3])) (by kernel_rfl) ?_
    refine ok_obl rfl ?_
    refine ok_stop ?_
    refine go_call (some 101) [0, 1, 2, 3, 4] Try.call65 (rs_next c rs sl (left.drop 1) named kept (given ++ [(left.getD 0 0)]) a_2 an ak a_12_1 c_3 cn ck c_12_1 (vP gv) (by first | assumption | omega | (simp only [InK] at *; omega)) (by simp; omega) (fun b h => hb b (List.mem_of_mem_drop h)) (by omega)) (by kernel_rfl) ?_
    rintro v post ⟨rfl, rfl⟩
    refine go_exec (rs := [.tmp 4]) (by kernel_rfl) 4000 [.z [0, 1, 1, 1, 1, 1] 3 [104]] (o := .stop [.o [0, 1, 1, 1, 1, 1] 3, .c [1, 1, 1, 1, 1, 1]] [(104, .pointer (some ⟨rs, 10, none⟩))] [E607a7 gv c ((G.step c A).1.block) (((G.step c A).1.ph : Nat) : Int) ((G.step c A).1.seen), Eeb923 ra ((G.step c A).2) false 0, E671ef ((G.step c A).2), .pts b_11_1 [vI (left.getD 0 0)] 3, .res (RsR rs c (Rs.next c (⟨sl, false, (left.drop 1), named, kept, (given ++ [(left.getD 0 0)]), none⟩ : Rs)))]) (by kernel_rfl) ?_
    refine ok_stop ?_
    refine go_by (some 105) (ldO Try.prog _) (some (.pointer (some ⟨rs, 10, none⟩), false, 1)) (R_peek 4 (R := RsR rs c (Rs.next c (⟨sl, false, (left.drop 1), named, kept, (given ++ [(left.getD 0 0)]), none⟩ : Rs))) (by kernel_rfl) rs 10 (.bool ((Rs.next c (⟨sl, false, (left.drop 1), named, kept, (given ++ [(left.getD 0 0)]), none⟩ : Rs)).over)) (peek_box (fun h => ⟨_, _, _, rfl, rfl⟩))) (by kernel_rfl) ?_
    rintro v L2 ⟨rfl, rfl⟩
    refine go_exec (rs := [.tmp 4]) (by kernel_rfl) 4000 [] (o := .ret (.bool ((Rs.next c (⟨sl, false, (left.drop 1), named, kept, (given ++ [(left.getD 0 0)]), none⟩ : Rs)).over)) [E607a7 gv c ((G.step c A).1.block) (((G.step c A).1.ph : Nat) : Int) ((G.step c A).1.seen), Eeb923 ra ((G.step c A).2) false 0, E671ef ((G.step c A).2), .pts b_11_1 [vI (left.getD 0 0)] 3, .res (RsR rs c (Rs.next c (⟨sl, false, (left.drop 1), named, kept, (given ++ [(left.getD 0 0)]), none⟩ : Rs)))]) (by kernel_rfl) ?_
    have e : Rs.step c (⟨sl, false, left, named, kept, given, some G⟩ : Rs) A = ((Rs.next c (⟨sl, false, (left.drop 1), named, kept, (given ++ [(left.getD 0 0)]), none⟩ : Rs)), (G.step c A).2) := by
      unfold Rs.step; (try unfold Rs.look); dsimp only; (repeat' (first | rw [if_pos (by first | omega | assumption)] | rw [if_neg (by first | omega | assumption | simp)])) <;> rfl
    exact ret_ok (post := [.res (RsR rs c (Rs.next c (⟨sl, false, (left.drop 1), named, kept, (given ++ [(left.getD 0 0)]), none⟩ : Rs))), Eeb923 ra ((G.step c A).2) false 0, E671ef ((G.step c A).2)]) [4, 1, 2] (by kernel_rfl) ⟨(by first | (rw [e]; done) | (rw [e]; rfl)), (by first | (rw [e]; done) | (rw [e]; kernel_rfl))⟩
  · replace h_1 := beqF h_1
    refine ok_obl rfl ?_
    refine ret_view (L' := [Eb21b7 rs c sl false al left.length cl an named.length cn ak kept.length ck ag given.length cg (vP gv), Ee1326 al cl left, Ee1326 an cn named, Ee1326 ak ck kept, Ee1326 ag cg given, .res (dens [E607a7 gv c ((G.step c A).1.block) (((G.step c A).1.ph : Nat) : Int) ((G.step c A).1.seen)]), Eeb923 ra ((G.step c A).2) false 0, E671ef ((G.step c A).2)]) (view_fold 5 (e := E607a7 gv c ((G.step c A).1.block) (((G.step c A).1.ph : Nat) : Int) ((G.step c A).1.seen)) (by kernel_rfl)) ?_
    refine ret_view (L' := [Eeb923 ra ((G.step c A).2) false 0, E671ef ((G.step c A).2), .res (RsR rs c (⟨sl, false, left, named, kept, given, (some (G.step c A).1)⟩ : Rs))]) (view_pack (rsI (⟨sl, false, left, named, kept, given, (some (G.step c A).1)⟩ : Rs)) (rsL rs c (⟨sl, false, left, named, kept, given, (some (G.step c A).1)⟩ : Rs)) (⟨al, an, ak, ag, cl, cn, ck, cg, gv, vP gv⟩ : RsH) (M := [Eeb923 ra ((G.step c A).2) false 0, E671ef ((G.step c A).2)]) [0, 1, 2, 3, 4, 5] (by kernel_rfl) (fun G hG => rfl)) ?_
    have e : Rs.step c (⟨sl, false, left, named, kept, given, some G⟩ : Rs) A = ((⟨sl, false, left, named, kept, given, (some (G.step c A).1)⟩ : Rs), (G.step c A).2) := by
      unfold Rs.step; (try unfold Rs.look); dsimp only; (repeat' (first | rw [if_pos (by first | omega | assumption)] | rw [if_neg (by first | omega | assumption | simp)])) <;> rfl
    exact ret_ok (post := [.res (RsR rs c (⟨sl, false, left, named, kept, given, (some (G.step c A).1)⟩ : Rs)), Eeb923 ra ((G.step c A).2) false 0, E671ef ((G.step c A).2)]) [2, 0, 1] (by kernel_rfl) ⟨(by first | (rw [e]; done) | (rw [e]; rfl)), (by first | (rw [e]; done) | (rw [e]; kernel_rfl))⟩


theorem rs_Step (c : Cfg) (rs ra : Nat) (S : Rs) (A : Ar) (hc : c.Ok) (hn : A.ws.length = A.n) (hs : -1000000000 ≤ A.steps ∧ A.steps ≤ 1000000000) (hsz : (A.n : Int) = sizeOfC c) (hws : RngW A.ws) (hS : S.Ok c) :
    Ctr Try.prog 29 #[vP rs, vP ra] [.res (RsR rs c S), Eeb923 ra A false 0, E671ef A] (Ret (.bool ((S.step c A).1.over)) [.res (RsR rs c ((S.step c A).1)), Eeb923 ra ((S.step c A).2) false 0, E671ef ((S.step c A).2)]) := by
  obtain ⟨sl, over, left, named, kept, given, give⟩ := S
  obtain ⟨h1, h2, h3, h4, h5⟩ := hS
  simp only at h1 h2 h3 h4 h5
  refine ctr_open (I := rsI ⟨sl, over, left, named, kept, given, give⟩) (LL := rsL rs c ⟨sl, over, left, named, kept, given, give⟩) (M := [Eeb923 ra A false 0, E671ef A]) 0 (by kernel_rfl) ?_
  rintro ⟨al, an, ak, ag, cl, cn, ck, cg, gp, gv⟩ hI
  cases over with
  | true =>
    have e : Rs.step c ⟨sl, true, left, named, kept, given, give⟩ A = (⟨sl, true, left, named, kept, given, give⟩, A) := by simp [Rs.step]
    refine ctr_post (ctr_frame [2] (by kernel_rfl) (rs_StepA c rs ra sl al an ak ag left.length named.length kept.length given.length cl cn ck cg gv)) ?_
    rintro v L ⟨post, ⟨rfl, rfl⟩, rfl⟩
    rw [e]
    exact ⟨_, (view_pack (rsI ⟨sl, true, left, named, kept, given, give⟩) (rsL rs c ⟨sl, true, left, named, kept, given, give⟩) ⟨al, an, ak, ag, cl, cn, ck, cg, gp, gv⟩ (M := [Eeb923 ra A false 0, E671ef A]) [7, 2, 3, 4, 5, 6] (by kernel_rfl) hI).trans (view_pick [2, 0, 1] (by kernel_rfl)), rfl, rfl⟩
  | false =>
    by_cases hd : sl < c.slots
    · have hg := h5 rfl hd
      subst hg
      exact ctr_pre [2, 3, 4, 5, 6, 0, 1] (by kernel_rfl) (rs_StepB c rs ra sl left named kept given al an ak ag cl cn ck cg A gv hc hn hs hsz ⟨h1.1, hd⟩ hws h2 h3)
    · obtain ⟨G, hg, hG, hl⟩ := h4 rfl (by omega)
      subst hg
      have hv := hI G rfl
      simp only at hv
      subst hv
      exact ctr_view (view_unfold 7 (e := E607a7 gp c G.block ((G.ph : Nat) : Int) G.seen) (by kernel_rfl)) (ctr_pre [2, 3, 4, 5, 6, 7, 0, 1] (by kernel_rfl) (rs_StepC c rs ra sl left named kept given al an ak ag cl cn ck cg A gp G hc hn hs hsz (by omega) hG hl h2 h3))

end Go.Proofs.Ytilaihbbollcnaa


namespace Go.Proofs.Ytilaihbbollcnaa
open Go.Sx
noncomputable def B21 : Code := (Try.f21.body).getD .skip

theorem scan_Kept0 (c : Cfg) (s m : Nat) (sl : Int) (left kept : List Int) (al ak ag : Option Addr) (cl ck cg ng : Nat) (gp : Value) (hl : kept.length + left.length ≤ 100) :
    Ctr Try.prog 21 #[vP s] [E0dfb8 s c sl m al left.length cl ak kept.length ck ag ng cg gp, Ee1326 al cl left, Ee1326 ak ck kept] (fun v L => ∃ (a2 : Option Addr) (c2 : Nat), v = .slice a2 ((kept ++ left).length) c2 ∧ L = [E0dfb8 s c sl m al left.length cl ak kept.length ck ag ng cg gp, Ee1326 al cl left, Ee1326 ak ck kept, Ee1326 a2 c2 (kept ++ left)]) := by
  refine ctr_of (args := [vP s]) (fn := Try.f21) (body := B21) (nt := 15) Try.func21 (by kernel_rfl) (by kernel_rfl) ?_
  intro F
  refine go_exec (rs := [.tmp 2]) (by kernel_rfl) 4000 [.z [0, 1, 1] 0 [0]] (o := .stop [.c [0, 1, 1], .c [1, 1, 1]] [(0, vP s)] [E0dfb8 s c sl m al left.length cl ak kept.length ck ag ng cg gp, Ee1326 al cl left, Ee1326 ak ck kept]) (by kernel_rfl) ?_
  refine ok_stop ?_
  refine go_lz (by kernel_rfl) (by kernel_rfl) ?_
  refine lz_node (l' := (mk 11 [0, 1, 2, 3, 4, 5, 6, 7])) (V' := [0, 1, 2, 3, 4, 5, 6, 7]) (T1 := [(0, vP s), (5, vP s), (6, vP s), (7, .pointer (some ⟨s, 12, none⟩)), (8, .slice ak kept.length ck), (9, vP s), (10, vP s), (11, .pointer (some ⟨s, 11, none⟩)), (12, .slice al left.length cl)]) (ps := [s = s, s = s]) [0, 1, 2, 3, 4, 5, 6, 7] [(0, .h .w), (1, .h .w), (2, .h .w), (3, .h (.e 0)), (4, .h .w), (5, .h .w), (6, .h .w), (7, .h (.e 0))] [0, 5, 6, 7, 8, 9, 10, 11, 12] [8] (by kernel_rfl) ⟨rfl, rfl, trivial⟩ ⟨?_, trivial⟩
  refine lz_op (l' := (mk 11 [0, 1, 2, 3, 4, 5, 6, 7, 8])) (V' := []) (so := .new fun b_8_1 => .ok (.value (.slice (some ⟨b_8_1, 0, none⟩) 2 2)) [E0dfb8 s c sl m al left.length cl ak kept.length ck ag ng cg gp, Ee1326 al cl left, Ee1326 ak ck kept, .pts b_8_1 [.slice ak kept.length ck, .slice al left.length cl] 48]) (dst := (some 13)) .w (by kernel_rfl) ?_
  refine sat_new fun b_8_1 => ?_
  refine sat_value ?_
  refine lz_node (l' := (mk 11 [0, 1, 2, 3, 4, 5, 6, 7, 8])) (V' := []) (T1 := [(13, .slice (some ⟨b_8_1, 0, none⟩) 2 2)]) (ps := []) [] [] [13] [9] (by kernel_rfl) trivial ⟨?_, trivial⟩
  refine lz_call (l' := (mk 11 [0, 1, 2, 3, 4, 5, 6, 7, 8, 9])) (V' := []) (some 14) [3, 2, 1] Try.call59 (concat b_8_1 ak al ck cl kept left (by first | assumption | omega | (simp only [InK] at *; omega)) (by first | assumption | omega | (simp only [InK] at *; omega))) (by kernel_rfl) ?_
  rintro v post ⟨a2_9_1, c2_9_1, rfl, rfl⟩
  refine lz_end (T1 := [(2, .slice a2_9_1 ((kept ++ left).length) c2_9_1)]) (ps := []) [10] [(10, .h .w)] [2] (by kernel_rfl) trivial ?_
  refine go_exec (rs := [.tmp 2]) (by kernel_rfl) 4000 [] (o := .ret (.slice a2_9_1 ((kept ++ left).length) c2_9_1) [E0dfb8 s c sl m al left.length cl ak kept.length ck ag ng cg gp, Ee1326 ak ck kept, Ee1326 al cl left, Ee1326 a2_9_1 c2_9_1 (kept ++ left)]) (by kernel_rfl) ?_
  exact ret_ok (post := [E0dfb8 s c sl m al left.length cl ak kept.length ck ag ng cg gp, Ee1326 al cl left, Ee1326 ak ck kept, Ee1326 a2_9_1 c2_9_1 (kept ++ left)]) [0, 2, 1, 3] (by kernel_rfl) ⟨a2_9_1, c2_9_1, rfl, (by kernel_rfl)⟩

noncomputable def B20 : Code := (Try.f20.body).getD .skip

theorem scan_Given0 (c : Cfg) (s m : Nat) (sl : Int) (given : List Int) (al ak ag : Option Addr) (cl ck cg nl nk : Nat) (gp : Value) (hl : given.length ≤ 100) :
    Ctr Try.prog 20 #[vP s] [E0dfb8 s c sl m al nl cl ak nk ck ag given.length cg gp, Ee1326 ag cg given] (fun v L => ∃ (a2 : Option Addr) (c2 : Nat), v = .slice a2 given.length c2 ∧ L = [E0dfb8 s c sl m al nl cl ak nk ck ag given.length cg gp, Ee1326 ag cg given, Ee1326 a2 c2 given]) := by
  refine ctr_of (args := [vP s]) (fn := Try.f20) (body := B20) (nt := 10) Try.func20 (by kernel_rfl) (by kernel_rfl) ?_
  intro F
  refine go_exec (rs := [.tmp 2]) (by kernel_rfl) 4000 [.e 0, .z [0, 1, 1] 4 [8]] (o := .obl (s = s) (.stop [.o [0, 1, 1] 4, .c [1, 1, 1]] [(8, .slice ag given.length cg)] [E0dfb8 s c sl m al nl cl ak nk ck ag given.length cg gp, Ee1326 ag cg given])) (by kernel_rfl) ?_
  refine ok_obl rfl ?_
  refine ok_stop ?_
  refine go_call (some 9) [1] Try.call47 (clone_i64 ag cg given (by first | assumption | omega | (simp only [InK] at *; omega))) (by kernel_rfl) ?_
  rintro v post ⟨a2_1, c2_2, rfl, rfl⟩
  refine go_exec (rs := [.tmp 2]) (by kernel_rfl) 4000 [] (o := .ret (.slice a2_1 given.length c2_2) [E0dfb8 s c sl m al nl cl ak nk ck ag given.length cg gp, Ee1326 ag cg given, Ee1326 a2_1 c2_2 given]) (by kernel_rfl) ?_
  exact ret_ok (post := [E0dfb8 s c sl m al nl cl ak nk ck ag given.length cg gp, Ee1326 ag cg given, Ee1326 a2_1 c2_2 given]) [0, 1, 2] (by kernel_rfl) ⟨a2_1, c2_2, rfl, (by kernel_rfl)⟩


theorem scan_Kept (c : Cfg) (s : Nat) (S : Sc) (hl : S.kept.length + S.left.length ≤ 100) :
    Ctr Try.prog 21 #[vP s] [.res (ScanR s c S)] (fun v L => ∃ (a2 : Option Addr) (c2 : Nat), v = .slice a2 ((S.kept ++ S.left).length) c2 ∧ L = [.res (ScanR s c S), Ee1326 a2 c2 (S.kept ++ S.left)]) := by
  refine ctr_open (I := fun _ : ScH => True) (LL := scanL s c S) (M := []) 0 (by kernel_rfl) ?_
  rintro h -
  obtain ⟨sl, named, left, kept, given, give⟩ := S
  cases give with
  | none =>
    refine ctr_post (ctr_frame [0, 2, 3] (by kernel_rfl) (scan_Kept0 c s h.m sl left kept h.al h.ak h.ag h.cl h.ck h.cg given.length (gpV h.gp none) hl)) ?_
    rintro v L ⟨post, ⟨a2, c2, rfl, rfl⟩, rfl⟩
    exact ⟨_, (view_pack (fun _ : ScH => True) (scanL s c ⟨sl, named, left, kept, given, none⟩) h (M := [Ee1326 a2 c2 (kept ++ left)]) [2, 0, 3, 4, 1] (by kernel_rfl) trivial).trans (view_pick [1, 0] (by kernel_rfl)), a2, c2, rfl, rfl⟩
  | some G =>
    refine ctr_post (ctr_frame [0, 2, 3] (by kernel_rfl) (scan_Kept0 c s h.m sl left kept h.al h.ak h.ag h.cl h.ck h.cg given.length (gpV h.gp (some G)) hl)) ?_
    rintro v L ⟨post, ⟨a2, c2, rfl, rfl⟩, rfl⟩
    exact ⟨_, (view_pack (fun _ : ScH => True) (scanL s c ⟨sl, named, left, kept, given, some G⟩) h (M := [Ee1326 a2 c2 (kept ++ left)]) [3, 0, 4, 5, 1, 2] (by kernel_rfl) trivial).trans (view_pick [1, 0] (by kernel_rfl)), a2, c2, rfl, rfl⟩


theorem scan_Given (c : Cfg) (s : Nat) (S : Sc) (hl : S.given.length ≤ 100) :
    Ctr Try.prog 20 #[vP s] [.res (ScanR s c S)] (fun v L => ∃ (a2 : Option Addr) (c2 : Nat), v = .slice a2 S.given.length c2 ∧ L = [.res (ScanR s c S), Ee1326 a2 c2 S.given]) := by
  refine ctr_open (I := fun _ : ScH => True) (LL := scanL s c S) (M := []) 0 (by kernel_rfl) ?_
  rintro h -
  obtain ⟨sl, named, left, kept, given, give⟩ := S
  cases give with
  | none =>
    refine ctr_post (ctr_frame [0, 4] (by kernel_rfl) (scan_Given0 c s h.m sl given h.al h.ak h.ag h.cl h.ck h.cg left.length kept.length (gpV h.gp none) hl)) ?_
    rintro v L ⟨post, ⟨a2, c2, rfl, rfl⟩, rfl⟩
    exact ⟨_, (view_pack (fun _ : ScH => True) (scanL s c ⟨sl, named, left, kept, given, none⟩) h (M := [Ee1326 a2 c2 given]) [3, 0, 1, 2, 4] (by kernel_rfl) trivial).trans (view_pick [1, 0] (by kernel_rfl)), a2, c2, rfl, rfl⟩
  | some G =>
    refine ctr_post (ctr_frame [0, 4] (by kernel_rfl) (scan_Given0 c s h.m sl given h.al h.ak h.ag h.cl h.ck h.cg left.length kept.length (gpV h.gp (some G)) hl)) ?_
    rintro v L ⟨post, ⟨a2, c2, rfl, rfl⟩, rfl⟩
    exact ⟨_, (view_pack (fun _ : ScH => True) (scanL s c ⟨sl, named, left, kept, given, some G⟩) h (M := [Ee1326 a2 c2 given]) [4, 0, 1, 2, 5, 3] (by kernel_rfl) trivial).trans (view_pick [1, 0] (by kernel_rfl)), a2, c2, rfl, rfl⟩

end Go.Proofs.Ytilaihbbollcnaa


namespace Go.Proofs.Ytilaihbbollcnaa
open Go.Sx
abbrev Eb5204 (x0 : Nat) (c1 : Cfg) (x2 : Int) (x3 : Bool) (x4 : Option Addr) (x5 : Nat) (x6 : Nat) (x7 : Value) (x8 : Value) (x9 : Value) (x10 : Value) : Ent := .pts x0 [.int .i64 c1.topics, .int .i64 c1.small, .int .i64 c1.slots, .int .i64 c1.clients, .int .i64 c1.s0, .int .i64 c1.n0, .int .i64 c1.s1, .int .i64 c1.n1, .int .i64 c1.retry, .int .i64 x2, .bool x3, .slice x4 x5 x6, x7, x8, x9, x10] 73
noncomputable def B25 : Code := (Try.f25.body).getD .skip

theorem ref15_New_ok (c : Cfg) (a : Option Addr) (c0 : Nat) (xs : List Int) (hc : c.Ok) (hl : xs.length ≤ 100) (hg : goodRow c xs) :
    Ctr Try.prog 25 #[cfgV c, .slice a xs.length c0] [Ee1326 a c0 xs] (fun v L => ∃ (rs : Nat), v = vP rs ∧ L = [Ee1326 a c0 xs, .res (RsR rs c (newRs xs))]) := by
  refine ctr_of (args := [cfgV c, .slice a xs.length c0]) (fn := Try.f25) (body := B25) (nt := 40) Try.func25 (by kernel_rfl) (by kernel_rfl) ?_
  intro F
  refine go_exec (rs := [.tmp 4]) (by kernel_rfl) 4000 [.e 1, .z [0, 1] 1 [1, 2, 7]] (o := .new fun b_1 => .obl (b_1 = b_1) (.stop [.o [0, 1] 1, .c [1, 1]] [(1, .slice a xs.length c0), (2, vP b_1), (7, cfgV c)] [Ee1326 a c0 xs, Ee1539 b_1 c])) (by kernel_rfl) ?_
  refine ok_new fun b_1 => ?_
  refine ok_obl rfl ?_
  refine ok_stop ?_
  refine go_call (some 8) [] Try.call61 (ref_right c (by first | assumption | omega | (simp only [InK] at *; omega))) (by kernel_rfl) ?_
  rintro v post ⟨rfl, rfl⟩
  refine go_exec (rs := [.tmp 4]) (by kernel_rfl) 4000 [.z [0, 1, 0, 1, 1, 1] 0 [1, 2, 6]] (o := .stop [.c [0, 1, 0, 1, 1, 1], .b 0, .c [1, 1, 1, 1]] [(1, .slice a xs.length c0), (2, vP b_1), (6, vI 0)] [Ee1326 a c0 xs, Ee1539 b_1 c]) (by kernel_rfl) ?_
  refine ok_stop ?_
  refine go_loop (ι := Int) (fun i => [(1, .slice a xs.length c0), (2, vP b_1), (6, vI i)]) (fun i => [Ee1539 b_1 c, Ee1326 a c0 xs]) (fun i => (0 ≤ i ∧ i ≤ (xs.length : Int)) ∧ ∀ j : Nat, (j : Int) < i → goodAt c xs j) (fun i => ((xs.length : Int) - i).toNat) 0 [1, 2, 6] [1, 0] (by kernel_rfl) (by kernel_rfl) (by kernel_rfl) (by kernel_rfl) ⟨(by omega), fun j h => (by omega)⟩ ?_
  intro i J_2 hIJ_2 hJ_2
  have hx := hIJ_2
  refine go_exec (rs := [.tmp 4]) (by kernel_rfl) 4000 [.sp [14] [.z [0, 0, 0, 1, 0, 0, 1, 0, 1, 1, 1] 0 [1, 2, 6]] [.z [0, 1, 1, 1, 1] 0 [1, 2]]] (o := .br (decide (i < ((xs.length : Nat) : Int))) (.stop [.c [0, 0, 0, 1, 0, 0, 1, 0, 1, 1, 1], .c [1, 0, 0, 1, 0, 0, 1, 0, 1, 1, 1], .b 1, .c [1, 1, 0, 0, 1, 0, 1, 1, 1], .j J_2, .b 0, .c [1, 1, 1, 1]] [(1, .slice a xs.length c0), (2, vP b_1), (6, vI i)] [Ee1539 b_1 c, Ee1326 a c0 xs]) (.stop [.c [0, 1, 1, 1, 1], .c [1, 1, 1, 1, 1]] [(1, .slice a xs.length c0), (2, vP b_1)] [Ee1539 b_1 c, Ee1326 a c0 xs])) (by kernel_rfl) ?_
  refine ok_br (fun h_3 => ?_) (fun h_3 => ?_)
  · replace h_3 := decT h_3
    refine ok_stop ?_
    refine go_lz (by kernel_rfl) (by kernel_rfl) ?_
    refine lz_end (T1 := [(1, .slice a xs.length c0), (2, vP b_1), (6, vI i), (33, .bool false)]) (ps := [b_1 = b_1, a = a ∧ xs.length = xs.length, (0 : Int) ≤ i ∧ i < ((xs.length : Nat) : Int), slAt a i.toNat 1 = slAt a i.toNat 1, i.toNat < xs.length, LawQ Try.prog F [Ee1539 b_1 c, Ee1326 a c0 xs] (vI (clsOf c (xs.getD i.toNat 0))) callO (62, #[cfgV c, vI (xs.getD i.toNat 0)]), (decide ((clsOf c (xs.getD i.toNat 0)) < 0)) = false, LawQ Try.prog F [Ee1539 b_1 c, Ee1326 a c0 xs] (.slice a i.toNat c0) cutO (.slice a (xs).length c0, none, some (vI i), 1), a = a ∧ xs.length = xs.length, (0 : Int) ≤ i ∧ i < ((xs.length : Nat) : Int), slAt a i.toNat 1 = slAt a i.toNat 1, i.toNat < xs.length, LawQ Try.prog F [Ee1539 b_1 c, Ee1326 a c0 xs] (.bool (hasN xs i.toNat (xs.getD i.toNat 0))) callO (22, #[.slice a i.toNat c0, vI (xs.getD i.toNat 0)]), (hasN xs i.toNat (xs.getD i.toNat 0)) = false]) [0, 1, 2, 3, 4, 5, 6, 7, 8, 9, 10, 11, 12, 13, 14, 15, 16] [(0, .h (.e 0)), (1, .h .w), (2, .h .w), (3, .h (.s 1)), (4, .h (.j 1 i.toNat)), (5, .q (vI (clsOf c (xs.getD i.toNat 0)))), (6, .h (.t false)), (7, .h .w), (8, .h .w), (9, .h .w), (10, .cut (.slice a i.toNat c0)), (11, .h .w), (12, .h .w), (13, .h (.s 1)), (14, .h (.j 1 i.toNat)), (15, .q (.bool (hasN xs i.toNat (xs.getD i.toNat 0)))), (16, .h (.t false))] [1, 2, 6, 33] (by kernel_rfl) ⟨rfl, ⟨rfl, (by first | rfl | omega | (simp; done) | (simp; omega))⟩, (by first | omega | (simp; done) | (simp; omega)), rfl, (by first | omega | (simp; done) | (simp; omega)), (law_call Try.call62 (quiet_of [] (ref_Class c (xs.getD i.toNat 0) (by first | assumption | omega | (simp only [InK] at *; omega))) (by kernel_rfl) (by rintro v post ⟨rfl, rfl⟩; exact ⟨rfl, rfl⟩))), (decide_eq_false (by have := (hg i.toNat (by omega)).1; omega)), (fun _ => (R_cutH 1 (a := a) (c := c0) (enc := encI .i64) (d := 0) (sz := 1) (xs := xs) (te := 3) (by kernel_rfl) .i64 i ⟨(by first | omega | (simp; done) | (simp; omega)), (by first | omega | (simp; done) | (simp; omega))⟩)), ⟨rfl, (by first | rfl | omega | (simp; done) | (simp; omega))⟩, (by first | omega | (simp; done) | (simp; omega)), rfl, (by first | omega | (simp; done) | (simp; omega)), (law_call Try.call22 (quiet_of [1] (ref_Has a c0 c0 i.toNat xs (xs.getD i.toNat 0) (by omega) (by omega)) (by kernel_rfl) (by rintro v post ⟨rfl, rfl⟩; exact ⟨rfl, rfl⟩))), (by exact (hg i.toNat (by omega)).2), trivial⟩ ?_
    refine go_exec (rs := [.tmp 4]) (by kernel_rfl) 4000 [.n, .z [] 0 [1, 2, 6]] (o := .obl (InK .i64 (i + 1)) (.stop [.j J_2, .b 0, .c [1, 1, 1, 1]] [(1, .slice a xs.length c0), (2, vP b_1), (6, vI (i + 1))] [Ee1539 b_1 c, Ee1326 a c0 xs])) (by kernel_rfl) ?_
    refine ok_obl (by simp only [InK]; omega) ?_
    refine ok_stop ?_
    exact go_back hJ_2 (i + 1) [0, 1] (by kernel_rfl) (by kernel_rfl) (by kernel_rfl) ⟨(by omega), goodAt_step hx.1.1 hx.2 (by first | omega | exact (hg _ (by omega)).1) (by first | assumption | exact (hg _ (by omega)).2)⟩ (by omega)
  · replace h_3 := decF h_3
    refine ok_stop ?_
    refine go_lz (by kernel_rfl) (by kernel_rfl) ?_
    refine lz_node (l' := (mk 7 [0, 2])) (V' := [0, 2]) (T1 := [(1, .slice a xs.length c0), (2, vP b_1), (34, cfgV c), (36, .slice a xs.length c0)]) (ps := [b_1 = b_1]) [0, 2] [(0, .h (.e 0)), (2, .h .w)] [1, 2, 34, 36] [1] (by kernel_rfl) ⟨rfl, trivial⟩ ⟨?_, trivial⟩
    refine lz_op (l' := (mk 7 [0, 1, 2])) (V' := [0, 2]) (so := .new fun b_1_1 => .ok (.value (.slice (some ⟨b_1_1, 0, none⟩) 0 0)) [Ee1539 b_1 c, Ee1326 a c0 xs, .pts b_1_1 [] 3]) (dst := (some 35)) .w (by kernel_rfl) ?_
    refine sat_new fun b_1_1 => ?_
    refine sat_value ?_
    refine lz_node (l' := (mk 7 [0, 1, 2])) (V' := [0, 2]) (T1 := [(35, .slice (some ⟨b_1_1, 0, none⟩) 0 0), (1, .slice a xs.length c0), (2, vP b_1), (34, cfgV c), (36, .slice a xs.length c0)]) (ps := [b_1 = b_1]) [] [(0, .h (.e 0)), (2, .h .w)] [35, 1, 2, 34, 36] [3] (by kernel_rfl) ⟨rfl, trivial⟩ ⟨?_, trivial⟩
    refine lzOp_view (L' := [Ee1539 b_1 c, Ee1326 a c0 xs, Ee1326 (some ⟨b_1_1, 0, none⟩) 0 []]) (view_empty 2 (b := b_1_1) (encI .i64) 0 1 3 (sizedI _) (by kernel_rfl)) ?_
    refine lz_by (l' := (mk 7 [0, 1, 2, 3])) (V' := [0]) (some 37) (appO Try.prog _) (some (.slice (some ⟨b_1_1, 0, none⟩) ([]).length 0, .slice a xs.length c0, (3, 1, 8))) (R_append 2 (a := (some ⟨b_1_1, 0, none⟩)) (c := 0) (enc := encI .i64) (d := 0) (sz := 1) (xs := []) (te := 3) (by kernel_rfl) (.slice a xs.length c0) xs (src_sl (i := 1) (d := 0) (sz := 1) (t := 3) (by kernel_rfl)) (oneI _) 8 (by first | omega | (simp; done) | (simp; omega)) (by first | omega | (simp; done) | (simp; omega))) (by kernel_rfl) ?_
    rintro v L2 ⟨a_3_1, c_3_1, rfl, rfl⟩
    refine lz_node (l' := (mk 7 [0, 1, 2, 3, 4])) (V' := [0, 4]) (T1 := [(37, .slice a_3_1 (([] ++ xs).length) c_3_1), (2, vP b_1), (34, cfgV c), (38, .agg #[vI c.topics, vI c.small, vI c.slots, vI c.clients, vI c.s0, vI c.n0, vI c.s1, vI c.n1, vI c.retry, vI 0, .bool false, .slice a_3_1 (([] ++ xs).length) c_3_1, .slice none 0 0, .slice none 0 0, .slice none 0 0, .pointer none])]) (ps := [b_1 = b_1]) [4] [(0, .h (.e 0)), (4, .h .w)] [37, 2, 34, 38] [5] (by kernel_rfl) ⟨rfl, trivial⟩ ⟨?_, trivial⟩
    refine lz_op (l' := (mk 7 [0, 1, 2, 3, 4, 5])) (V' := []) (so := .new fun b_5_1 => .ok (.value (vP b_5_1)) [Ee1539 b_1 c, Ee1326 a c0 xs, Ee1326 a_3_1 c_3_1 ([] ++ xs), Eb5204 b_5_1 c 0 false a_3_1 (([] ++ xs).length) c_3_1 (.slice none 0 0) (.slice none 0 0) (.slice none 0 0) (.pointer none)]) (dst := (some 39)) .w (by kernel_rfl) ?_
    refine sat_new fun b_5_1 => ?_
    refine sat_value ?_
    refine lz_end (T1 := [(4, vP b_5_1)]) (ps := []) [6] [(6, .h .w)] [4] (by kernel_rfl) trivial ?_
    refine go_exec (rs := [.tmp 4]) (by kernel_rfl) 4000 [] (o := .ret (vP b_5_1) [Ee1539 b_1 c, Ee1326 a c0 xs, Ee1326 a_3_1 c_3_1 ([] ++ xs), Eb5204 b_5_1 c 0 false a_3_1 (([] ++ xs).length) c_3_1 (.slice none 0 0) (.slice none 0 0) (.slice none 0 0) (.pointer none)]) (by kernel_rfl) ?_
    refine ret_view (L' := [Ee1539 b_1 c, Ee1326 a c0 xs, Ee1326 a_3_1 c_3_1 ([] ++ xs), Eb5204 b_5_1 c 0 false a_3_1 (([] ++ xs).length) c_3_1 (.slice none 0 0) (.slice none 0 0) (.slice none 0 0) (.pointer none), Ee1326 none 0 []]) (view_nil (encI .i64) 0 1 3 (sizedI _)) ?_
    refine ret_view (L' := [Ee1539 b_1 c, Ee1326 a c0 xs, Ee1326 a_3_1 c_3_1 ([] ++ xs), Eb5204 b_5_1 c 0 false a_3_1 (([] ++ xs).length) c_3_1 (.slice none 0 0) (.slice none 0 0) (.slice none 0 0) (.pointer none), Ee1326 none 0 [], Ee1326 none 0 []]) (view_nil (encI .i64) 0 1 3 (sizedI _)) ?_
    refine ret_view (L' := [Ee1539 b_1 c, Ee1326 a c0 xs, Ee1326 a_3_1 c_3_1 ([] ++ xs), Eb5204 b_5_1 c 0 false a_3_1 (([] ++ xs).length) c_3_1 (.slice none 0 0) (.slice none 0 0) (.slice none 0 0) (.pointer none), Ee1326 none 0 [], Ee1326 none 0 [], Ee1326 none 0 []]) (view_nil (encI .i64) 0 1 3 (sizedI _)) ?_
    refine ret_view (L' := [Ee1539 b_1 c, Ee1326 a c0 xs, Ee1326 a_3_1 c_3_1 ([] ++ xs), Eb5204 b_5_1 c 0 false a_3_1 (([] ++ xs).length) c_3_1 (.slice none 0 0) (.slice none 0 0) (.slice none 0 0) (.pointer none), Ee1326 none 0 [], Ee1326 none 0 [], Ee1326 none 0 [], .res (dens [])]) view_unit ?_
    refine ret_view (L' := [Ee1539 b_1 c, Ee1326 a c0 xs, .res (RsR b_5_1 c (newRs xs))]) (view_pack (rsI (newRs xs)) (rsL b_5_1 c (newRs xs)) (⟨a_3_1, none, none, none, c_3_1, 0, 0, 0, 0, .pointer none⟩ : RsH) (M := [Ee1539 b_1 c, Ee1326 a c0 xs]) [3, 2, 4, 5, 6, 7] (by kernel_rfl) (fun G hG => by cases hG)) ?_
    exact ret_ok (post := [Ee1326 a c0 xs, .res (RsR b_5_1 c (newRs xs))]) [1, 2] (by kernel_rfl) ⟨b_5_1, rfl, rfl⟩


theorem ref15_New_bad (c : Cfg) (a : Option Addr) (c0 : Nat) (xs : List Int) (hc : c.Ok) (hl : xs.length ≤ 100) (hg : ¬ goodRow c xs) :
    Ctr Try.prog 25 #[cfgV c, .slice a xs.length c0] [Ee1326 a c0 xs] (Ret (.pointer none) [Ee1326 a c0 xs]) := by
  refine ctr_of (args := [cfgV c, .slice a xs.length c0]) (fn := Try.f25) (body := B25) (nt := 40) Try.func25 (by kernel_rfl) (by kernel_rfl) ?_
  intro F
  refine go_exec (rs := [.tmp 4]) (by kernel_rfl) 4000 [.e 1, .z [0, 1] 1 [1, 2, 7]] (o := .new fun b_1 => .obl (b_1 = b_1) (.stop [.o [0, 1] 1, .c [1, 1]] [(1, .slice a xs.length c0), (2, vP b_1), (7, cfgV c)] [Ee1326 a c0 xs, Ee1539 b_1 c])) (by kernel_rfl) ?_
  refine ok_new fun b_1 => ?_
  refine ok_obl rfl ?_
  refine ok_stop ?_
  refine go_call (some 8) [] Try.call61 (ref_right c (by first | assumption | omega | (simp only [InK] at *; omega))) (by kernel_rfl) ?_
  rintro v post ⟨rfl, rfl⟩
  refine go_exec (rs := [.tmp 4]) (by kernel_rfl) 4000 [.z [0, 1, 0, 1, 1, 1] 0 [1, 2, 6]] (o := .stop [.c [0, 1, 0, 1, 1, 1], .b 0, .c [1, 1, 1, 1]] [(1, .slice a xs.length c0), (2, vP b_1), (6, vI 0)] [Ee1326 a c0 xs, Ee1539 b_1 c]) (by kernel_rfl) ?_
  refine ok_stop ?_
  refine go_loop (ι := Int) (fun i => [(1, .slice a xs.length c0), (2, vP b_1), (6, vI i)]) (fun i => [Ee1539 b_1 c, Ee1326 a c0 xs]) (fun i => (0 ≤ i ∧ i ≤ (xs.length : Int)) ∧ ∀ j : Nat, (j : Int) < i → goodAt c xs j) (fun i => ((xs.length : Int) - i).toNat) 0 [1, 2, 6] [1, 0] (by kernel_rfl) (by kernel_rfl) (by kernel_rfl) (by kernel_rfl) ⟨(by omega), fun j h => (by omega)⟩ ?_
  intro i J_2 hIJ_2 hJ_2
  have hx := hIJ_2
  refine go_exec (rs := [.tmp 4]) (by kernel_rfl) 4000 [.sp [14] [.z [0, 0, 0, 1, 0, 0, 1, 0, 1, 1, 1] 0 [1, 2, 6]] [.z [0, 1, 1, 1, 1] 0 [1, 2]]] (o := .br (decide (i < ((xs.length : Nat) : Int))) (.stop [.c [0, 0, 0, 1, 0, 0, 1, 0, 1, 1, 1], .c [1, 0, 0, 1, 0, 0, 1, 0, 1, 1, 1], .b 1, .c [1, 1, 0, 0, 1, 0, 1, 1, 1], .j J_2, .b 0, .c [1, 1, 1, 1]] [(1, .slice a xs.length c0), (2, vP b_1), (6, vI i)] [Ee1539 b_1 c, Ee1326 a c0 xs]) (.stop [.c [0, 1, 1, 1, 1], .c [1, 1, 1, 1, 1]] [(1, .slice a xs.length c0), (2, vP b_1)] [Ee1539 b_1 c, Ee1326 a c0 xs])) (by kernel_rfl) ?_
  refine ok_br (fun h_3 => ?_) (fun h_3 => ?_)
  · replace h_3 := decT h_3
    refine ok_stop ?_
    by_cases hcl : clsOf c (xs.getD i.toNat 0) < 0
    · skip
      refine go_quiet (tm' := [(1, .slice a xs.length c0), (2, vP b_1), (6, vI i), (33, .bool true)]) (ps := [b_1 = b_1, a = a ∧ xs.length = xs.length, (0 : Int) ≤ i ∧ i < ((xs.length : Nat) : Int), slAt a i.toNat 1 = slAt a i.toNat 1, i.toNat < xs.length, (decide ((clsOf c (xs.getD i.toNat 0)) < 0)) = true]) (cs := [(62, #[cfgV c, vI (xs.getD i.toNat 0)], vI (clsOf c (xs.getD i.toNat 0)))]) [(0, .h (.e 0)), (1, .h .w), (2, .h .w), (3, .h (.s 1)), (4, .h (.j 1 i.toNat)), (5, .q (vI (clsOf c (xs.getD i.toNat 0)))), (6, .h (.t true)), (7, .h .w), (8, .h .w), (9, .h .w), (10, .h .w), (11, .h .w), (12, .h .w), (13, .h .w), (14, .h .w), (15, .h .w), (16, .h .w)] [1, 2, 6, 33] (by kernel_rfl) (by kernel_rfl) ⟨rfl, ⟨rfl, (by first | rfl | omega | (simp; done) | (simp; omega))⟩, (by first | omega | (simp; done) | (simp; omega)), rfl, (by first | omega | (simp; done) | (simp; omega)), (decide_eq_true hcl), trivial⟩ ⟨⟨Try.call62, quiet_of [] (ref_Class c (xs.getD i.toNat 0) (by first | assumption | omega | (simp only [InK] at *; omega))) (by kernel_rfl) (by rintro v post ⟨rfl, rfl⟩; exact ⟨rfl, rfl⟩)⟩, trivial⟩ ?_
      refine go_exec (rs := [.tmp 4]) (by kernel_rfl) 4000 [] (o := .ret (.pointer none) [Ee1539 b_1 c, Ee1326 a c0 xs]) (by kernel_rfl) ?_
      exact ret_ok (post := [Ee1326 a c0 xs]) [1] (by kernel_rfl) ⟨rfl, rfl⟩
    · skip
      refine go_lz (by kernel_rfl) (by kernel_rfl) ?_
      refine lz_end (T1 := [(1, .slice a xs.length c0), (2, vP b_1), (6, vI i), (33, .bool (hasN xs i.toNat (xs.getD i.toNat 0)))]) (ps := [b_1 = b_1, a = a ∧ xs.length = xs.length, (0 : Int) ≤ i ∧ i < ((xs.length : Nat) : Int), slAt a i.toNat 1 = slAt a i.toNat 1, i.toNat < xs.length, LawQ Try.prog F [Ee1539 b_1 c, Ee1326 a c0 xs] (vI (clsOf c (xs.getD i.toNat 0))) callO (62, #[cfgV c, vI (xs.getD i.toNat 0)]), (decide ((clsOf c (xs.getD i.toNat 0)) < 0)) = false, LawQ Try.prog F [Ee1539 b_1 c, Ee1326 a c0 xs] (.slice a i.toNat c0) cutO (.slice a (xs).length c0, none, some (vI i), 1), a = a ∧ xs.length = xs.length, (0 : Int) ≤ i ∧ i < ((xs.length : Nat) : Int), slAt a i.toNat 1 = slAt a i.toNat 1, i.toNat < xs.length, LawQ Try.prog F [Ee1539 b_1 c, Ee1326 a c0 xs] (.bool (hasN xs i.toNat (xs.getD i.toNat 0))) callO (22, #[.slice a i.toNat c0, vI (xs.getD i.toNat 0)])]) [0, 1, 2, 3, 4, 5, 6, 7, 8, 9, 10, 11, 12, 13, 14, 15, 16] [(0, .h (.e 0)), (1, .h .w), (2, .h .w), (3, .h (.s 1)), (4, .h (.j 1 i.toNat)), (5, .q (vI (clsOf c (xs.getD i.toNat 0)))), (6, .h (.t false)), (7, .h .w), (8, .h .w), (9, .h .w), (10, .cut (.slice a i.toNat c0)), (11, .h .w), (12, .h .w), (13, .h (.s 1)), (14, .h (.j 1 i.toNat)), (15, .q (.bool (hasN xs i.toNat (xs.getD i.toNat 0)))), (16, .h .w)] [1, 2, 6, 33] (by kernel_rfl) ⟨rfl, ⟨rfl, (by first | rfl | omega | (simp; done) | (simp; omega))⟩, (by first | omega | (simp; done) | (simp; omega)), rfl, (by first | omega | (simp; done) | (simp; omega)), (law_call Try.call62 (quiet_of [] (ref_Class c (xs.getD i.toNat 0) (by first | assumption | omega | (simp only [InK] at *; omega))) (by kernel_rfl) (by rintro v post ⟨rfl, rfl⟩; exact ⟨rfl, rfl⟩))), (decide_eq_false hcl), (fun _ => (R_cutH 1 (a := a) (c := c0) (enc := encI .i64) (d := 0) (sz := 1) (xs := xs) (te := 3) (by kernel_rfl) .i64 i ⟨(by first | omega | (simp; done) | (simp; omega)), (by first | omega | (simp; done) | (simp; omega))⟩)), ⟨rfl, (by first | rfl | omega | (simp; done) | (simp; omega))⟩, (by first | omega | (simp; done) | (simp; omega)), rfl, (by first | omega | (simp; done) | (simp; omega)), (law_call Try.call22 (quiet_of [1] (ref_Has a c0 c0 i.toNat xs (xs.getD i.toNat 0) (by omega) (by omega)) (by kernel_rfl) (by rintro v post ⟨rfl, rfl⟩; exact ⟨rfl, rfl⟩))), trivial⟩ ?_
      refine go_exec (rs := [.tmp 4]) (by kernel_rfl) 4000 [.sp [33] [] [.n, .z [] 0 [1, 2, 6]]] (o := .br (hasN xs i.toNat (xs.getD i.toNat 0)) (.ret (.pointer none) [Ee1539 b_1 c, Ee1326 a c0 xs]) (.obl (InK .i64 (i + 1)) (.stop [.j J_2, .b 0, .c [1, 1, 1, 1]] [(1, .slice a xs.length c0), (2, vP b_1), (6, vI (i + 1))] [Ee1539 b_1 c, Ee1326 a c0 xs]))) (by kernel_rfl) ?_
      refine ok_br (fun h_4 => ?_) (fun h_4 => ?_)
      · skip
        exact ret_ok (post := [Ee1326 a c0 xs]) [1] (by kernel_rfl) ⟨rfl, rfl⟩
      · skip
        refine ok_obl (by simp only [InK]; omega) ?_
        refine ok_stop ?_
        exact go_back hJ_2 (i + 1) [0, 1] (by kernel_rfl) (by kernel_rfl) (by kernel_rfl) ⟨(by omega), goodAt_step hx.1.1 hx.2 (by first | omega | exact (hg _ (by omega)).1) (by first | assumption | exact (hg _ (by omega)).2)⟩ (by omega)
  · replace h_3 := decF h_3
    refine ok_stop ?_
    refine go_lz (by kernel_rfl) (by kernel_rfl) ?_
    refine lz_node (l' := (mk 7 [0, 2])) (V' := [0, 2]) (T1 := [(1, .slice a xs.length c0), (2, vP b_1), (34, cfgV c), (36, .slice a xs.length c0)]) (ps := [b_1 = b_1]) [0, 2] [(0, .h (.e 0)), (2, .h .w)] [1, 2, 34, 36] [1] (by kernel_rfl) ⟨rfl, trivial⟩ ⟨?_, trivial⟩
    refine lz_op (l' := (mk 7 [0, 1, 2])) (V' := [0, 2]) (so := .new fun b_1_1 => .ok (.value (.slice (some ⟨b_1_1, 0, none⟩) 0 0)) [Ee1539 b_1 c, Ee1326 a c0 xs, .pts b_1_1 [] 3]) (dst := (some 35)) .w (by kernel_rfl) ?_
    refine sat_new fun b_1_1 => ?_
    refine sat_value ?_
    refine lz_node (l' := (mk 7 [0, 1, 2])) (V' := [0, 2]) (T1 := [(35, .slice (some ⟨b_1_1, 0, none⟩) 0 0), (1, .slice a xs.length c0), (2, vP b_1), (34, cfgV c), (36, .slice a xs.length c0)]) (ps := [b_1 = b_1]) [] [(0, .h (.e 0)), (2, .h .w)] [35, 1, 2, 34, 36] [3] (by kernel_rfl) ⟨rfl, trivial⟩ ⟨?_, trivial⟩
    refine lzOp_view (L' := [Ee1539 b_1 c, Ee1326 a c0 xs, Ee1326 (some ⟨b_1_1, 0, none⟩) 0 []]) (view_empty 2 (b := b_1_1) (encI .i64) 0 1 3 (sizedI _) (by kernel_rfl)) ?_
    refine lz_by (l' := (mk 7 [0, 1, 2, 3])) (V' := [0]) (some 37) (appO Try.prog _) (some (.slice (some ⟨b_1_1, 0, none⟩) ([]).length 0, .slice a xs.length c0, (3, 1, 8))) (R_append 2 (a := (some ⟨b_1_1, 0, none⟩)) (c := 0) (enc := encI .i64) (d := 0) (sz := 1) (xs := []) (te := 3) (by kernel_rfl) (.slice a xs.length c0) xs (src_sl (i := 1) (d := 0) (sz := 1) (t := 3) (by kernel_rfl)) (oneI _) 8 (by first | omega | (simp; done) | (simp; omega)) (by first | omega | (simp; done) | (simp; omega))) (by kernel_rfl) ?_
    rintro v L2 ⟨a_3_1, c_3_1, rfl, rfl⟩
    refine lz_node (l' := (mk 7 [0, 1, 2, 3, 4])) (V' := [0, 4]) (T1 := [(37, .slice a_3_1 (([] ++ xs).length) c_3_1), (2, vP b_1), (34, cfgV c), (38, .agg #[vI c.topics, vI c.small, vI c.slots, vI c.clients, vI c.s0, vI c.n0, vI c.s1, vI c.n1, vI c.retry, vI 0, .bool false, .slice a_3_1 (([] ++ xs).length) c_3_1, .slice none 0 0, .slice none 0 0, .slice none 0 0, .pointer none])]) (ps := [b_1 = b_1]) [4] [(0, .h (.e 0)), (4, .h .w)] [37, 2, 34, 38] [5] (by kernel_rfl) ⟨rfl, trivial⟩ ⟨?_, trivial⟩
    refine lz_op (l' := (mk 7 [0, 1, 2, 3, 4, 5])) (V' := []) (so := .new fun b_5_1 => .ok (.value (vP b_5_1)) [Ee1539 b_1 c, Ee1326 a c0 xs, Ee1326 a_3_1 c_3_1 ([] ++ xs), Eb5204 b_5_1 c 0 false a_3_1 (([] ++ xs).length) c_3_1 (.slice none 0 0) (.slice none 0 0) (.slice none 0 0) (.pointer none)]) (dst := (some 39)) .w (by kernel_rfl) ?_
    refine sat_new fun b_5_1 => ?_
    refine sat_value ?_
    refine lz_end (T1 := [(4, vP b_5_1)]) (ps := []) [6] [(6, .h .w)] [4] (by kernel_rfl) trivial ?_
    refine go_exec (rs := [.tmp 4]) (by kernel_rfl) 4000 [] (o := .ret (vP b_5_1) [Ee1539 b_1 c, Ee1326 a c0 xs, Ee1326 a_3_1 c_3_1 ([] ++ xs), Eb5204 b_5_1 c 0 false a_3_1 (([] ++ xs).length) c_3_1 (.slice none 0 0) (.slice none 0 0) (.slice none 0 0) (.pointer none)]) (by kernel_rfl) ?_
    exact absurd (fun j hj => hx.2 j (by omega)) hg

end Go.Proofs.Ytilaihbbollcnaa


namespace Go.Proofs.Ytilaihbbollcnaa
open Go.Sx
theorem bMax0 {n : Int} (h : 0 ≤ n ∧ n ≤ 1000) : bMax n 0 = n := by unfold bMax; split <;> omega
noncomputable def B31 : Code := (Try.f31.body).getD .skip

theorem rs_All0 (c : Cfg) (rs : Nat) (sl : Int) (ov : Bool) (left kept : List Int) (al an ak ag : Option Addr) (cl cn ck cg nn ng : Nat) (gp : Value) (hl : kept.length + left.length ≤ 100) :
    Ctr Try.prog 31 #[vP rs] [Eb21b7 rs c sl ov al left.length cl an nn cn ak kept.length ck ag ng cg gp, Ee1326 al cl left, Ee1326 ak ck kept] (fun v L => ∃ (a2 : Option Addr) (c2 : Nat), v = .slice a2 ((kept ++ left).length) c2 ∧ L = [Eb21b7 rs c sl ov al left.length cl an nn cn ak kept.length ck ag ng cg gp, Ee1326 al cl left, Ee1326 ak ck kept, Ee1326 a2 c2 (kept ++ left)]) := by
  refine ctr_of (args := [vP rs]) (fn := Try.f31) (body := B31) (nt := 14) Try.func31 (by kernel_rfl) (by kernel_rfl) ?_
  intro F
  refine go_exec (rs := [.tmp 2]) (by kernel_rfl) 4000 [.z [0, 1] 0 [0]] (o := .stop [.c [0, 1], .c [1, 1]] [(0, vP rs)] [Eb21b7 rs c sl ov al left.length cl an nn cn ak kept.length ck ag ng cg gp, Ee1326 al cl left, Ee1326 ak ck kept]) (by kernel_rfl) ?_
  refine ok_stop ?_
  refine go_lz (by kernel_rfl) (by kernel_rfl) ?_
  refine lz_node (l' := (mk 12 [1, 2, 3, 4, 6, 7, 8, 9])) (V' := [1, 2, 3, 4, 6, 7, 8, 9]) (T1 := [(0, vP rs), (4, vP rs), (5, vP rs), (6, .pointer (some ⟨rs, 13, none⟩)), (7, .slice ak kept.length ck), (9, vP rs), (10, vP rs), (11, .pointer (some ⟨rs, 11, none⟩)), (12, .slice al left.length cl)]) (ps := [rs = rs, rs = rs]) [1, 2, 3, 4, 6, 7, 8, 9] [(1, .h .w), (2, .h .w), (3, .h .w), (4, .h (.e 0)), (6, .h .w), (7, .h .w), (8, .h .w), (9, .h (.e 0))] [0, 4, 5, 6, 7, 9, 10, 11, 12] [0] (by kernel_rfl) ⟨rfl, rfl, trivial⟩ ⟨?_, trivial⟩
  refine lz_op (l' := (mk 12 [0, 1, 2, 3, 4, 6, 7, 8, 9])) (V' := [1, 2, 3, 4, 6, 7, 8, 9]) (so := .new fun b_0_1 => .ok (.value (.slice (some ⟨b_0_1, 0, none⟩) 0 0)) [Eb21b7 rs c sl ov al left.length cl an nn cn ak kept.length ck ag ng cg gp, Ee1326 al cl left, Ee1326 ak ck kept, .pts b_0_1 [] 3]) (dst := (some 3)) .w (by kernel_rfl) ?_
  refine sat_new fun b_0_1 => ?_
  refine sat_value ?_
  refine lz_node (l' := (mk 12 [0, 1, 2, 3, 4, 6, 7, 8, 9])) (V' := [1, 2, 3, 4, 6, 7, 8, 9]) (T1 := [(3, .slice (some ⟨b_0_1, 0, none⟩) 0 0), (0, vP rs), (4, vP rs), (5, vP rs), (6, .pointer (some ⟨rs, 13, none⟩)), (7, .slice ak kept.length ck), (9, vP rs), (10, vP rs), (11, .pointer (some ⟨rs, 11, none⟩)), (12, .slice al left.length cl)]) (ps := [rs = rs, rs = rs]) [] [(1, .h .w), (2, .h .w), (3, .h .w), (4, .h (.e 0)), (6, .h .w), (7, .h .w), (8, .h .w), (9, .h (.e 0))] [3, 0, 4, 5, 6, 7, 9, 10, 11, 12] [5] (by kernel_rfl) ⟨rfl, rfl, trivial⟩ ⟨?_, trivial⟩
  refine lzOp_view (L' := [Eb21b7 rs c sl ov al left.length cl an nn cn ak kept.length ck ag ng cg gp, Ee1326 al cl left, Ee1326 ak ck kept, Ee1326 (some ⟨b_0_1, 0, none⟩) 0 []]) (view_empty 3 (b := b_0_1) (encI .i64) 0 1 3 (sizedI _) (by kernel_rfl)) ?_
  refine lz_by (l' := (mk 12 [0, 1, 2, 3, 4, 5, 6, 7, 8, 9])) (V' := [6, 7, 8, 9]) (some 8) (appO Try.prog _) (some (.slice (some ⟨b_0_1, 0, none⟩) ([]).length 0, .slice ak kept.length ck, (3, 1, 8))) (R_append 3 (a := (some ⟨b_0_1, 0, none⟩)) (c := 0) (enc := encI .i64) (d := 0) (sz := 1) (xs := []) (te := 3) (by kernel_rfl) (.slice ak kept.length ck) kept (src_sl (i := 2) (d := 0) (sz := 1) (t := 3) (by kernel_rfl)) (oneI _) 8 (by first | omega | (simp; done) | (simp; omega)) (by first | omega | (simp; done) | (simp; omega))) (by kernel_rfl) ?_
  rintro v L2 ⟨a_5_1, c_5_1, rfl, rfl⟩
  refine lz_node (l' := (mk 12 [0, 1, 2, 3, 4, 5, 6, 7, 8, 9])) (V' := [6, 7, 8, 9]) (T1 := [(8, .slice a_5_1 (([] ++ kept).length) c_5_1), (0, vP rs), (9, vP rs), (10, vP rs), (11, .pointer (some ⟨rs, 11, none⟩)), (12, .slice al left.length cl)]) (ps := [rs = rs]) [] [(6, .h .w), (7, .h .w), (8, .h .w), (9, .h (.e 0))] [8, 0, 9, 10, 11, 12] [10] (by kernel_rfl) ⟨rfl, trivial⟩ ⟨?_, trivial⟩
  refine lz_by (l' := (mk 12 [0, 1, 2, 3, 4, 5, 6, 7, 8, 9, 10])) (V' := []) (some 13) (appO Try.prog _) (some (.slice a_5_1 (([] ++ kept)).length c_5_1, .slice al left.length cl, (3, 1, 8))) (R_append 3 (a := a_5_1) (c := c_5_1) (enc := encI .i64) (d := 0) (sz := 1) (xs := ([] ++ kept)) (te := 3) (by kernel_rfl) (.slice al left.length cl) left (src_sl (i := 1) (d := 0) (sz := 1) (t := 3) (by kernel_rfl)) (oneI _) 8 (by first | omega | (simp; done) | (simp; omega)) (by first | omega | (simp; done) | (simp; omega))) (by kernel_rfl) ?_
  rintro v L2 ⟨a_10_1, c_10_1, rfl, rfl⟩
  refine lz_end (T1 := [(2, .slice a_10_1 ((([] ++ kept) ++ left).length) c_10_1)]) (ps := []) [11] [(11, .h .w)] [2] (by kernel_rfl) trivial ?_
  refine go_exec (rs := [.tmp 2]) (by kernel_rfl) 4000 [] (o := .ret (.slice a_10_1 ((([] ++ kept) ++ left).length) c_10_1) [Eb21b7 rs c sl ov al left.length cl an nn cn ak kept.length ck ag ng cg gp, Ee1326 al cl left, Ee1326 ak ck kept, Ee1326 a_10_1 c_10_1 (([] ++ kept) ++ left)]) (by kernel_rfl) ?_
  exact ret_ok (post := [Eb21b7 rs c sl ov al left.length cl an nn cn ak kept.length ck ag ng cg gp, Ee1326 al cl left, Ee1326 ak ck kept, Ee1326 a_10_1 c_10_1 (([] ++ kept) ++ left)]) [0, 1, 2, 3] (by kernel_rfl) ⟨a_10_1, c_10_1, (by kernel_rfl), (by kernel_rfl)⟩


theorem rs_All (c : Cfg) (rs : Nat) (S : Rs) (hl : S.kept.length + S.left.length ≤ 100) :
    Ctr Try.prog 31 #[vP rs] [.res (RsR rs c S)] (fun v L => ∃ (a2 : Option Addr) (c2 : Nat), v = .slice a2 ((S.kept ++ S.left).length) c2 ∧ L = [.res (RsR rs c S), Ee1326 a2 c2 (S.kept ++ S.left)]) := by
  refine ctr_open (I := rsI S) (LL := rsL rs c S) (M := []) 0 (by kernel_rfl) ?_
  rintro h hI
  obtain ⟨sl, over, left, named, kept, given, give⟩ := S
  refine ctr_post (ctr_frame [0, 1, 3] (by kernel_rfl) (rs_All0 c rs sl over left kept h.al h.an h.ak h.ag h.cl h.cn h.ck h.cg named.length given.length h.gv hl)) ?_
  rintro v L ⟨post, ⟨a2, c2, rfl, rfl⟩, rfl⟩
  exact ⟨_, (view_pack (rsI ⟨sl, over, left, named, kept, given, give⟩) (rsL rs c ⟨sl, over, left, named, kept, given, give⟩) h (M := [Ee1326 a2 c2 (kept ++ left)]) [3, 4, 0, 5, 1, 2] (by kernel_rfl) hI).trans (view_pick [1, 0] (by kernel_rfl)), a2, c2, rfl, rfl⟩

noncomputable def B26 : Code := (Try.f26.body).getD .skip

theorem retire_Bound (c : Cfg) (n : Int) (hc : c.Ok) (hn : 0 ≤ n ∧ n ≤ 1000) :
    Ctr Try.prog 26 #[cfgV c, vI n] [] (Ret (vI (c.slots + 3 * n + 3)) []) := by
  refine ctr_of (args := [cfgV c, vI n]) (fn := Try.f26) (body := B26) (nt := 15) Try.func26 (by kernel_rfl) (by kernel_rfl) ?_
  intro F
  refine go_exec (rs := [.tmp 4]) (by kernel_rfl) 4000 [.e 0, .z [0, 0, 1] 1 [1, 2, 5]] (o := .new fun b_1 => .obl (b_1 = b_1) (.stop [.o [0, 0, 1] 1, .c [1, 0, 1], .c [1, 1]] [(1, vI n), (2, vP b_1), (5, cfgV c)] [Ee1539 b_1 c])) (by kernel_rfl) ?_
  refine ok_new fun b_1 => ?_
  refine ok_obl rfl ?_
  refine ok_stop ?_
  refine go_call (some 6) [] Try.call37 (plan_Check c (by first | assumption | omega | (simp only [InK] at *; omega))) (by kernel_rfl) ?_
  rintro v post ⟨rfl, rfl⟩
  refine go_exec (rs := [.tmp 4]) (by kernel_rfl) 4000 [.e 0, .n, .n, .n] (o := .obl (b_1 = b_1) (.obl (InK .i64 (3 * (bMax n 0))) (.obl (InK .i64 (c.slots + (3 * (bMax n 0)))) (.obl (InK .i64 ((c.slots + (3 * (bMax n 0))) + 3)) (.ret (vI ((c.slots + (3 * (bMax n 0))) + 3)) [Ee1539 b_1 c]))))) (by kernel_rfl) ?_
  refine ok_obl rfl ?_
  refine ok_obl (by have := bMax0 hn; simp only [Cfg.Ok, InK] at *; omega) ?_
  refine ok_obl (by have := bMax0 hn; simp only [Cfg.Ok, InK] at *; omega) ?_
  refine ok_obl (by have := bMax0 hn; simp only [Cfg.Ok, InK] at *; omega) ?_
  exact ret_ok (post := []) [] (by kernel_rfl) ⟨(congrArg (Value.int .i64) (by have := bMax0 hn; omega)), (by kernel_rfl)⟩

end Go.Proofs.Ytilaihbbollcnaa


namespace Go.Proofs.Ytilaihbbollcnaa
open Go.Sx

theorem newSc_ok {c : Cfg} (hc : c.Ok) {xs : List Int} (hl : xs.length ≤ 100) (h : ∀ b ∈ xs, 0 ≤ clsOf c b) : ScI c (newSc xs) := by
  have hc' := hc
  simp only [Cfg.Ok] at hc'
  exact ⟨⟨by simp [newSc], by show (0 : Int) ≤ c.slots; omega⟩, fun hx => absurd rfl hx, by simpa [newSc] using hl, h, (fun k => by simp [newSc]), (fun G hG => by cases hG), (fun hs => by simp only [newSc] at hs; omega)⟩
theorem ex_rng {b : Int} (h : b ∈ [1, 2]) : 1 ≤ b ∧ b ≤ 6 := by
  simp only [List.mem_cons, List.not_mem_nil, or_false] at h; omega
noncomputable def B7 : Code := (Try.f7.body).getD .skip

theorem law_awake   :
    Ctr Try.prog 7 #[] [] (Ret (.bool true) []) := by
  refine ctr_of (args := []) (fn := Try.f7) (body := B7) (nt := 78) Try.func7 (by kernel_rfl) (by kernel_rfl) ?_
  intro F
  refine go_exec (rs := [.tmp 0]) (by kernel_rfl) 4000 [.e 0, .z [0, 1, 1] 0 [1]] (o := .new fun b_1 => .obl (b_1 = b_1) (.stop [.o [0, 1, 1] 0, .c [1, 1, 1]] [(1, vP b_1)] [Ea5c30 b_1 0 3 0 2 0 0 0])) (by kernel_rfl) ?_
  refine ok_new fun b_1 => ?_
  refine ok_obl rfl ?_
  refine ok_stop ?_
  refine go_call (some 13) [] Try.call8 (law_config 0) (by kernel_rfl) ?_
  rintro v post ⟨rfl, rfl⟩
  refine go_exec (rs := [.tmp 0]) (by kernel_rfl) 4000 [.e 1, .e 0, .z [0, 1, 1, 1] 1 [2, 14]] (o := .new fun b_3 => .obl (b_3 = b_3) (.obl (b_1 = b_1) (.stop [.o [0, 1, 1, 1] 1, .c [1, 1, 1, 1]] [(2, vP b_3), (14, .agg #[vI 0, vI 3, vI 0, vI 2, vI 0, vI 0, vI 0])] [Ea5c30 b_1 0 3 0 2 0 0 0, Ee1539 b_3 (cfgN 0)]))) (by kernel_rfl) ?_
  refine ok_new fun b_3 => ?_
  refine ok_obl rfl ?_
  refine ok_obl rfl ?_
  refine ok_stop ?_
  refine go_call (some 15) [] Try.call9 (law_arena (⟨0, 3, 0, 2, 0, 0, 0⟩ : Qs)) (by kernel_rfl) ?_
  rintro v post ⟨ra_4, A_5, rfl, rfl, hf_6⟩
  refine go_exec (rs := [.tmp 0]) (by kernel_rfl) 4000 [.e 1, .z [0, 1, 1, 1, 1] 1 [2, 3, 17]] (o := .obl (b_3 = b_3) (.stop [.o [0, 1, 1, 1, 1] 1, .c [1, 1, 1, 1, 1]] [(2, vP b_3), (3, vP ra_4), (17, cfgV (cfgN 0))] [Ea5c30 b_1 0 3 0 2 0 0 0, Ee1539 b_3 (cfgN 0), Eeb923 ra_4 A_5 false 0, E4b293 A_5 (beginW (cfgN 0) (⟨0, 3, 0, 2, 0, 0, 0⟩ : Qs) A_5.ws)])) (by kernel_rfl) ?_
  refine ok_obl rfl ?_
  refine ok_stop ?_
  refine go_call (some 18) [] Try.call10 (plan_Make (cfgN 0) (cfgN_ok 0)) (by kernel_rfl) ?_
  rintro v post ⟨ba_7, aw_8, cw_9, rfl, rfl⟩
  refine go_exec (rs := [.tmp 0]) (by kernel_rfl) 4000 [.z [0, 0, 1, 1, 1, 1, 1] 0 [2, 3, 4]] (o := .stop [.c [0, 0, 1, 1, 1, 1, 1], .c [1, 0, 1, 1, 1, 1, 1], .c [1, 1, 1, 1, 1, 1]] [(2, vP b_3), (3, vP ra_4), (4, vP ba_7)] [Ea5c30 b_1 0 3 0 2 0 0 0, Ee1539 b_3 (cfgN 0), Eeb923 ra_4 A_5 false 0, E4b293 A_5 (beginW (cfgN 0) (⟨0, 3, 0, 2, 0, 0, 0⟩ : Qs) A_5.ws), E32d85 ba_7 (mkAr (cfgN 0) aw_8 cw_9), E671ef (mkAr (cfgN 0) aw_8 cw_9)]) (by kernel_rfl) ?_
  refine ok_stop ?_
  refine go_quiet (tm' := [(2, vP b_3), (3, vP ra_4), (4, vP ba_7), (32, .bool false)]) (ps := [ra_4 = ra_4, (((A_5.n : Nat) : Int) != ((((mkAr (cfgN 0) aw_8 cw_9).n) : Nat) : Int)) = false]) (cs := [(11, #[vP ba_7], vI ((((mkAr (cfgN 0) aw_8 cw_9).n) : Nat) : Int))]) [(0, .h .w), (1, .h .w), (2, .h .w), (3, .h .w), (4, .h .w), (5, .h .w), (6, .h (.e 2)), (7, .h .w), (8, .h .w), (9, .q (vI ((((mkAr (cfgN 0) aw_8 cw_9).n) : Nat) : Int))), (10, .h (.t false)), (11, .h .w)] [2, 3, 4, 32] (by kernel_rfl) (by kernel_rfl) ⟨rfl, (bne_eq_false_iff_eq.2 (by have h1 : (_ : Int) = sizeOfC (cfgN 0) := hf_6.2.1; have h2 := (mkAr_ok (cfgN_ok 0) aw_8 cw_9).2.1; omega)), trivial⟩ ⟨⟨Try.call11, quiet_of [4, 5] (arena_Len ba_7 (mkAr (cfgN 0) aw_8 cw_9)) (by kernel_rfl) (by rintro v post ⟨rfl, rfl⟩; exact ⟨rfl, rfl⟩)⟩, trivial⟩ ?_
  refine go_exec (rs := [.tmp 0]) (by kernel_rfl) 4000 [.z [0, 1, 0, 1, 1, 1, 1, 1, 1] 0 [2, 3, 4, 6]] (o := .stop [.c [0, 1, 0, 1, 1, 1, 1, 1, 1], .b 0, .c [1, 1, 1, 1, 1, 1, 1]] [(2, vP b_3), (3, vP ra_4), (4, vP ba_7), (6, vI 0)] [Ea5c30 b_1 0 3 0 2 0 0 0, Ee1539 b_3 (cfgN 0), Eeb923 ra_4 A_5 false 0, E4b293 A_5 (beginW (cfgN 0) (⟨0, 3, 0, 2, 0, 0, 0⟩ : Qs) A_5.ws), E32d85 ba_7 (mkAr (cfgN 0) aw_8 cw_9), E671ef (mkAr (cfgN 0) aw_8 cw_9)]) (by kernel_rfl) ?_
  refine ok_stop ?_
  have hRW := hf_6
  have hRW1 := hRW.1
  have hRW2 := hRW.2.1
  have hA0 := mkAr_ok (cfgN_ok 0)  aw_8 cw_9
  have hWl : ((beginW (cfgN 0) (⟨0, 3, 0, 2, 0, 0, 0⟩ : Qs) A_5.ws)).length = A_5.n := by rw [beginW_len]; exact hRW.1
  have hWr : RngW (beginW (cfgN 0) (⟨0, 3, 0, 2, 0, 0, 0⟩ : Qs) A_5.ws) := beginW_rng hRW.2.2.1
  have hWs : (A_5.n : Int) = sizeOfC (cfgN 0) := hRW.2.1
  have hz := sizeOfC_ok (cfgN_ok 0)
  refine go_loop (ι := Int × Ar) (fun i1 => [(2, vP b_3), (3, vP ra_4), (4, vP ba_7), (6, vI i1.1)]) (fun i1 => [Ea5c30 b_1 0 3 0 2 0 0 0, Ee1539 b_3 (cfgN 0), Eeb923 ra_4 A_5 false 0, E4b293 A_5 (beginW (cfgN 0) (⟨0, 3, 0, 2, 0, 0, 0⟩ : Qs) A_5.ws), E32d85 ba_7 i1.2, E671ef i1.2]) (fun i1 => Cp (cfgN 0) (beginW (cfgN 0) (⟨0, 3, 0, 2, 0, 0, 0⟩ : Qs) A_5.ws) 40 i1.1 i1.2) (fun i1 => (A_5.n - i1.1).toNat) (0, (mkAr (cfgN 0) aw_8 cw_9)) [2, 3, 4, 6] [0, 1, 2, 3, 4, 5] (by kernel_rfl) (by kernel_rfl) (by kernel_rfl) (by kernel_rfl) ⟨(by dsimp only; omega), (by have h1 := hA0.2.1; have h2 := hA0.1; dsimp only; omega), (fun j hj => by dsimp only at hj; omega), (hA0.mono (by dsimp only; omega))⟩ ?_
  intro i1 J_10 hIJ_10 hJ_10
  have hx1 := hIJ_10
  have hk1 := hx1.lo
  have hk2 := hx1.len
  have hk3 := hx1.ok.1
  have hk4 := hx1.ok.2.2.2
  refine go_exec (rs := [.tmp 0]) (by kernel_rfl) 4000 [.e 2, .sp [39] [.e 2, .s 3, .j 3 i1.1.toNat, .z [0, 0, 1, 0, 0, 1, 0, 1, 1, 1, 1, 1, 1] 9 [2, 3, 4, 6, 42, 43, 50]] [.e 1, .z [0, 1, 1, 1, 1, 1, 1, 1] 2 [4, 52, 53]]] (o := .obl (ra_4 = ra_4) (.br (decide (i1.1 < ((A_5.n : Nat) : Int))) (.obl (ra_4 = ra_4) (.obl (A_5.aw = A_5.aw ∧ A_5.n = (beginW (cfgN 0) (⟨0, 3, 0, 2, 0, 0, 0⟩ : Qs) A_5.ws).length) (.obl ((0 : Int) ≤ i1.1 ∧ i1.1 < (((beginW (cfgN 0) (⟨0, 3, 0, 2, 0, 0, 0⟩ : Qs) A_5.ws).length : Nat) : Int)) (.obl (slAt A_5.aw i1.1.toNat 1 = slAt A_5.aw i1.1.toNat 1) (.obl (i1.1.toNat < (beginW (cfgN 0) (⟨0, 3, 0, 2, 0, 0, 0⟩ : Qs) A_5.ws).length) (.stop [.o [0, 0, 1, 0, 0, 1, 0, 1, 1, 1, 1, 1, 1] 9, .b 1, .c [1, 1, 0, 0, 1, 0, 1, 1, 1, 1, 1, 1], .j J_10, .b 0, .c [1, 1, 1, 1, 1, 1, 1]] [(2, vP b_3), (3, vP ra_4), (4, vP ba_7), (6, vI i1.1), (42, vP ba_7), (43, vI i1.1), (50, vU ((beginW (cfgN 0) (⟨0, 3, 0, 2, 0, 0, 0⟩ : Qs) A_5.ws).getD i1.1.toNat 0))] [Ea5c30 b_1 0 3 0 2 0 0 0, Ee1539 b_3 (cfgN 0), Eeb923 ra_4 A_5 false 0, E4b293 A_5 (beginW (cfgN 0) (⟨0, 3, 0, 2, 0, 0, 0⟩ : Qs) A_5.ws), E32d85 ba_7 i1.2, E671ef i1.2])))))) (.obl (b_3 = b_3) (.new fun b_11 => .stop [.o [0, 1, 1, 1, 1, 1, 1, 1] 2, .c [1, 1, 1, 1, 1, 1, 1, 1]] [(4, vP ba_7), (52, cfgV (cfgN 0)), (53, .slice (some ⟨b_11, 0, none⟩) 2 2)] [Ea5c30 b_1 0 3 0 2 0 0 0, Ee1539 b_3 (cfgN 0), Eeb923 ra_4 A_5 false 0, E4b293 A_5 (beginW (cfgN 0) (⟨0, 3, 0, 2, 0, 0, 0⟩ : Qs) A_5.ws), E32d85 ba_7 i1.2, E671ef i1.2, .pts b_11 [vI 1, vI 2] 3])))) (by kernel_rfl) ?_
  refine ok_obl rfl ?_
  refine ok_br (fun h_12 => ?_) (fun h_12 => ?_)
  · replace h_12 := decT h_12
    refine ok_obl rfl ?_
    refine ok_obl ⟨rfl, (by first | rfl | omega | (simp; done) | (simp; omega))⟩ ?_
    refine ok_obl (by first | omega | (simp; done) | (simp; omega)) ?_
    refine ok_obl rfl ?_
    refine ok_obl (by first | omega | (simp; done) | (simp; omega)) ?_
    refine ok_stop ?_
    refine go_call (some 51) [4, 5] Try.call12 (arena_Store ba_7 i1.2 i1.1 ((beginW (cfgN 0) (⟨0, 3, 0, 2, 0, 0, 0⟩ : Qs) A_5.ws).getD i1.1.toNat 0) hk3 (by first | assumption | omega | (simp only [InK] at *; omega)) (by first | assumption | omega | (simp only [InK] at *; omega))) (by kernel_rfl) ?_
    rintro v post ⟨rfl, rfl⟩
    refine go_exec (rs := [.tmp 0]) (by kernel_rfl) 4000 [.n, .z [] 0 [2, 3, 4, 6]] (o := .obl (InK .i64 (i1.1 + 1)) (.stop [.j J_10, .b 0, .c [1, 1, 1, 1, 1, 1, 1]] [(2, vP b_3), (3, vP ra_4), (4, vP ba_7), (6, vI (i1.1 + 1))] [Ea5c30 b_1 0 3 0 2 0 0 0, Ee1539 b_3 (cfgN 0), Eeb923 ra_4 A_5 false 0, E4b293 A_5 (beginW (cfgN 0) (⟨0, 3, 0, 2, 0, 0, 0⟩ : Qs) A_5.ws), E32d85 ba_7 (i1.2.store i1.1 ((beginW (cfgN 0) (⟨0, 3, 0, 2, 0, 0, 0⟩ : Qs) A_5.ws).getD i1.1.toNat 0)), E671ef (i1.2.store i1.1 ((beginW (cfgN 0) (⟨0, 3, 0, 2, 0, 0, 0⟩ : Qs) A_5.ws).getD i1.1.toNat 0))])) (by kernel_rfl) ?_
    refine ok_obl (by simp only [InK] at *; omega) ?_
    refine ok_stop ?_
    exact go_back hJ_10 ((i1.1 + 1), (i1.2.store i1.1 ((beginW (cfgN 0) (⟨0, 3, 0, 2, 0, 0, 0⟩ : Qs) A_5.ws).getD i1.1.toNat 0))) [0, 1, 2, 3, 4, 5] (by kernel_rfl) (by kernel_rfl) (by kernel_rfl) (hx1.next hWr (by omega)) (by dsimp only; omega)
  · replace h_12 := decF h_12
    refine ok_obl rfl ?_
    refine ok_new fun b_11 => ?_
    refine ok_stop ?_
    refine go_view (L' := [Ea5c30 b_1 0 3 0 2 0 0 0, Ee1539 b_3 (cfgN 0), Eeb923 ra_4 A_5 false 0, E4b293 A_5 (beginW (cfgN 0) (⟨0, 3, 0, 2, 0, 0, 0⟩ : Qs) A_5.ws), E32d85 ba_7 i1.2, E671ef i1.2, Ee1326 (some ⟨b_11, 0, none⟩) 2 ([1, 2] : List Int)]) (view_row 6 (b := b_11) (encI .i64) 0 1 ([1, 2] : List Int) 3 (sizedI _) (by simp [maxLen]) (by kernel_rfl)) ?_
    refine go_call (some 54) [6] Try.call14 (retire_New_ok (cfgN 0) (some ⟨b_11, 0, none⟩) 2 ([1, 2] : List Int) (cfgN_ok 0) (by decide) (in_of (fun b hb => ex_rng hb)) (newOk_iff.2 (good_of (by decide) (fun b hb => ex_rng hb)))) (by kernel_rfl) ?_
    rintro v post ⟨s_13, rfl, rfl⟩
    refine go_exec (rs := [.tmp 0]) (by kernel_rfl) 4000 [.z [0, 1, 0, 1, 1, 1, 1, 1, 1, 1, 1] 0 [4, 7, 8]] (o := .stop [.c [0, 1, 0, 1, 1, 1, 1, 1, 1, 1, 1], .b 2, .c [1, 1, 1, 1, 1, 1, 1, 1, 1]] [(4, vP ba_7), (7, vP s_13), (8, vI 0)] [Ea5c30 b_1 0 3 0 2 0 0 0, Ee1539 b_3 (cfgN 0), Eeb923 ra_4 A_5 false 0, E4b293 A_5 (beginW (cfgN 0) (⟨0, 3, 0, 2, 0, 0, 0⟩ : Qs) A_5.ws), E32d85 ba_7 i1.2, E671ef i1.2, Ee1326 (some ⟨b_11, 0, none⟩) 2 ([1, 2] : List Int), .res (ScanR s_13 (cfgN 0) (newSc ([1, 2] : List Int)))]) (by kernel_rfl) ?_
    refine ok_stop ?_
    have hAW := hx1.done (by omega)
    have hI0 : ScI (cfgN 0) (newSc [1, 2]) := newSc_ok (cfgN_ok 0) (by decide) (fun b hb => by rw [cfgN_cls (ex_rng hb)]; split <;> omega)
    refine go_loop (ι := Int × Sc × Ar) (fun i2 => [(4, vP ba_7), (7, vP s_13), (8, vI i2.1)]) (fun i2 => [.res (ScanR s_13 (cfgN 0) i2.2.1), E32d85 ba_7 i2.2.2, E671ef i2.2.2]) (fun i2 => (0 ≤ i2.1 ∧ i2.1 ≤ 9) ∧ (i2.2.1, i2.2.2) = runSc (cfgN 0) i2.1.toNat (newSc [1, 2]) i1.2 ∧ ScI (cfgN 0) i2.2.1 ∧ ArW (cfgN 0) i2.2.2 (6000 + i2.1)) (fun i2 => (9 - i2.1).toNat) (0, newSc [1, 2], i1.2) [4, 7, 8] [7, 4, 5] (by kernel_rfl) (by kernel_rfl) (by kernel_rfl) (by kernel_rfl) ⟨(by dsimp only; omega), rfl, hI0, (hx1.ok.mono (by dsimp only; omega))⟩ ?_
    intro i2 J_14 hIJ_14 hJ_14
    have hx2 := hIJ_14
    have hk5 := hx2.1
    refine go_exec (rs := [.tmp 0]) (by kernel_rfl) 4000 [.sp [56] [.z [0, 0, 1, 0, 0, 1, 0, 1, 1, 1, 1, 1, 1, 1, 1] 2 [4, 7, 8, 59, 60]] [.z [0, 1, 1, 1, 1, 1, 1, 1, 1, 1] 0 [7]]] (o := .br (decide (i2.1 < 9)) (.stop [.o [0, 0, 1, 0, 0, 1, 0, 1, 1, 1, 1, 1, 1, 1, 1] 2, .b 3, .c [1, 1, 0, 0, 1, 0, 1, 1, 1, 1, 1, 1, 1, 1], .j J_14, .b 2, .c [1, 1, 1, 1, 1, 1, 1, 1, 1]] [(4, vP ba_7), (7, vP s_13), (8, vI i2.1), (59, vP s_13), (60, vP ba_7)] [.res (ScanR s_13 (cfgN 0) i2.2.1), E32d85 ba_7 i2.2.2, E671ef i2.2.2]) (.stop [.o [0, 1, 1, 1, 1, 1, 1, 1, 1, 1] 0, .c [1, 1, 1, 1, 1, 1, 1, 1, 1, 1]] [(7, vP s_13)] [.res (ScanR s_13 (cfgN 0) i2.2.1), E32d85 ba_7 i2.2.2, E671ef i2.2.2])) (by kernel_rfl) ?_
    refine ok_br (fun h_15 => ?_) (fun h_15 => ?_)
    · replace h_15 := decT h_15
      refine ok_stop ?_
      refine go_call (some 61) [0, 1, 2] Try.call17 (scan_Step (cfgN 0) s_13 ba_7 i2.2.1 i2.2.2 (cfgN_ok 0) (hx2.2.2.1.ok (cfgN_ok 0) hx2.2.2.2.2.1) (hx2.2.2.2.ok (by omega))) (by kernel_rfl) ?_
      rintro v post ⟨rfl, rfl⟩
      refine go_exec (rs := [.tmp 0]) (by kernel_rfl) 4000 [.n, .z [] 0 [4, 7, 8]] (o := .obl (InK .i64 (i2.1 + 1)) (.stop [.j J_14, .b 2, .c [1, 1, 1, 1, 1, 1, 1, 1, 1]] [(4, vP ba_7), (7, vP s_13), (8, vI (i2.1 + 1))] [.res (ScanR s_13 (cfgN 0) ((i2.2.1.step (cfgN 0) i2.2.2).1)), E32d85 ba_7 ((i2.2.1.step (cfgN 0) i2.2.2).2), E671ef ((i2.2.1.step (cfgN 0) i2.2.2).2)])) (by kernel_rfl) ?_
      refine ok_obl (by simp only [InK] at *; omega) ?_
      refine ok_stop ?_
      exact go_back hJ_14 ((i2.1 + 1), (i2.2.1.step (cfgN 0) i2.2.2).1, (i2.2.1.step (cfgN 0) i2.2.2).2) [0, 1, 2] (by kernel_rfl) (by kernel_rfl) (by kernel_rfl) ⟨(by dsimp only; omega), (by dsimp only; rw [show (i2.1 + 1).toNat = i2.1.toNat + 1 by omega, runSc_succ, ← hx2.2.1]), (sc_step (cfgN_ok 0) hx2.2.2.1 hx2.2.2.2).1, ((sc_step (cfgN_ok 0) hx2.2.2.1 hx2.2.2.2).2.mono (by dsimp only; omega))⟩ (by dsimp only; omega)
    · replace h_15 := decF h_15
      refine ok_stop ?_
      obtain ⟨m, hm⟩ := ex_end (A := i1.2) hAW (by omega)
      have h9 : i2.1 = 9 := by omega
      have hS : i2.2.1 = ⟨(cfgN 0).slots, m, [], [2], [1], none⟩ := by have h := hx2.2.1; rw [h9] at h; rw [← hm]; exact congrArg Prod.fst h
      refine go_cast (tm' := [(7, vP s_13)]) (L' := [.res (ScanR s_13 (cfgN 0) (⟨(cfgN 0).slots, m, [], [2], [1], none⟩ : Sc)), E32d85 ba_7 i2.2.2, E671ef i2.2.2]) (by rw [hS]) ?_
      refine go_exec (rs := [.tmp 0]) (by kernel_rfl) 4000 [.z [0, 1, 1, 1, 1, 1, 1, 1, 1, 1] 1 [7, 62]] (o := .stop [.o [0, 1, 1, 1, 1, 1, 1, 1, 1, 1] 1, .c [1, 1, 1, 1, 1, 1, 1, 1, 1, 1]] [(7, vP s_13), (62, vP s_13)] [.res (ScanR s_13 (cfgN 0) (⟨(cfgN 0).slots, m, [], [2], [1], none⟩ : Sc)), E32d85 ba_7 i2.2.2, E671ef i2.2.2]) (by kernel_rfl) ?_
      refine ok_stop ?_
      refine go_call (some 63) [0] Try.call20 (scan_Given (cfgN 0) s_13 (⟨(cfgN 0).slots, m, [], [2], [1], none⟩ : Sc) (by simp)) (by kernel_rfl) ?_
      rintro v post ⟨a2_16, c2_17, rfl, rfl⟩
      refine go_exec (rs := [.tmp 0]) (by kernel_rfl) 4000 [.z [0, 1, 1, 1, 1, 1, 1, 1, 1, 1] 3 [7, 63, 64]] (o := .new fun b_19 => .stop [.o [0, 1, 1, 1, 1, 1, 1, 1, 1, 1] 3, .c [1, 1, 1, 1, 1, 1, 1, 1, 1, 1]] [(7, vP s_13), (63, .slice a2_16 ((⟨(cfgN 0).slots, m, [], [2], [1], none⟩ : Sc).given.length) c2_17), (64, .slice (some ⟨b_19, 0, none⟩) 1 1)] [E32d85 ba_7 i2.2.2, E671ef i2.2.2, .res (ScanR s_13 (cfgN 0) (⟨(cfgN 0).slots, m, [], [2], [1], none⟩ : Sc)), Ee1326 a2_16 c2_17 ((⟨(cfgN 0).slots, m, [], [2], [1], none⟩ : Sc).given), .pts b_19 [vI 1] 3]) (by kernel_rfl) ?_
      refine ok_new fun b_19 => ?_
      refine ok_stop ?_
      refine go_view (L' := [E32d85 ba_7 i2.2.2, E671ef i2.2.2, .res (ScanR s_13 (cfgN 0) (⟨(cfgN 0).slots, m, [], [2], [1], none⟩ : Sc)), Ee1326 a2_16 c2_17 ((⟨(cfgN 0).slots, m, [], [2], [1], none⟩ : Sc).given), Ee1326 (some ⟨b_19, 0, none⟩) 1 ([1] : List Int)]) (view_row 4 (b := b_19) (encI .i64) 0 1 ([1] : List Int) 3 (sizedI _) (by simp [maxLen]) (by kernel_rfl)) ?_
      refine go_call (some 65) [3, 4] Try.call27 (same_i64 a2_16 (some ⟨b_19, 0, none⟩) c2_17 1 ((⟨(cfgN 0).slots, m, [], [2], [1], none⟩ : Sc).given) ([1] : List Int) (by simp)) (by kernel_rfl) ?_
      rintro v post ⟨rfl, rfl⟩
      refine go_exec (rs := [.tmp 0]) (by kernel_rfl) 4000 [.z [0, 1, 1, 1, 1, 1, 1, 1, 1, 1, 1] 1 [7, 9, 66]] (o := .stop [.o [0, 1, 1, 1, 1, 1, 1, 1, 1, 1, 1] 1, .c [1, 1, 1, 1, 1, 1, 1, 1, 1, 1, 1]] [(7, vP s_13), (9, .bool (((⟨(cfgN 0).slots, m, [], [2], [1], none⟩ : Sc).given) == ([1] : List Int))), (66, vP s_13)] [E32d85 ba_7 i2.2.2, E671ef i2.2.2, .res (ScanR s_13 (cfgN 0) (⟨(cfgN 0).slots, m, [], [2], [1], none⟩ : Sc)), Ee1326 a2_16 c2_17 ((⟨(cfgN 0).slots, m, [], [2], [1], none⟩ : Sc).given), Ee1326 (some ⟨b_19, 0, none⟩) 1 ([1] : List Int)]) (by kernel_rfl) ?_
      refine ok_stop ?_
      refine go_call (some 67) [2] Try.call21 (scan_Kept (cfgN 0) s_13 (⟨(cfgN 0).slots, m, [], [2], [1], none⟩ : Sc) (by simp)) (by kernel_rfl) ?_
      rintro v post ⟨a2_20, c2_21, rfl, rfl⟩
      refine go_exec (rs := [.tmp 0]) (by kernel_rfl) 4000 [.z [0, 1, 1, 1, 1, 1, 1, 1, 1, 1, 1] 3 [7, 9, 67, 68]] (o := .new fun b_23 => .stop [.o [0, 1, 1, 1, 1, 1, 1, 1, 1, 1, 1] 3, .c [1, 1, 1, 1, 1, 1, 1, 1, 1, 1, 1]] [(7, vP s_13), (9, .bool (((⟨(cfgN 0).slots, m, [], [2], [1], none⟩ : Sc).given) == ([1] : List Int))), (67, .slice a2_20 (((⟨(cfgN 0).slots, m, [], [2], [1], none⟩ : Sc).kept ++ (⟨(cfgN 0).slots, m, [], [2], [1], none⟩ : Sc).left).length) c2_21), (68, .slice (some ⟨b_23, 0, none⟩) 1 1)] [E32d85 ba_7 i2.2.2, E671ef i2.2.2, Ee1326 a2_16 c2_17 ((⟨(cfgN 0).slots, m, [], [2], [1], none⟩ : Sc).given), Ee1326 (some ⟨b_19, 0, none⟩) 1 ([1] : List Int), .res (ScanR s_13 (cfgN 0) (⟨(cfgN 0).slots, m, [], [2], [1], none⟩ : Sc)), Ee1326 a2_20 c2_21 ((⟨(cfgN 0).slots, m, [], [2], [1], none⟩ : Sc).kept ++ (⟨(cfgN 0).slots, m, [], [2], [1], none⟩ : Sc).left), .pts b_23 [vI 2] 3]) (by kernel_rfl) ?_
      refine ok_new fun b_23 => ?_
      refine ok_stop ?_
      refine go_view (L' := [E32d85 ba_7 i2.2.2, E671ef i2.2.2, Ee1326 a2_16 c2_17 ((⟨(cfgN 0).slots, m, [], [2], [1], none⟩ : Sc).given), Ee1326 (some ⟨b_19, 0, none⟩) 1 ([1] : List Int), .res (ScanR s_13 (cfgN 0) (⟨(cfgN 0).slots, m, [], [2], [1], none⟩ : Sc)), Ee1326 a2_20 c2_21 ((⟨(cfgN 0).slots, m, [], [2], [1], none⟩ : Sc).kept ++ (⟨(cfgN 0).slots, m, [], [2], [1], none⟩ : Sc).left), Ee1326 (some ⟨b_23, 0, none⟩) 1 ([2] : List Int)]) (view_row 6 (b := b_23) (encI .i64) 0 1 ([2] : List Int) 3 (sizedI _) (by simp [maxLen]) (by kernel_rfl)) ?_
      refine go_call (some 69) [5, 6] Try.call27 (same_i64 a2_20 (some ⟨b_23, 0, none⟩) c2_21 1 ((⟨(cfgN 0).slots, m, [], [2], [1], none⟩ : Sc).kept ++ (⟨(cfgN 0).slots, m, [], [2], [1], none⟩ : Sc).left) ([2] : List Int) (by simp)) (by kernel_rfl) ?_
      rintro v post ⟨rfl, rfl⟩
      refine go_exec (rs := [.tmp 0]) (by kernel_rfl) 4000 [.z [0, 1, 1, 1, 1, 1, 1, 1, 1, 1, 1, 1] 1 [9, 10, 70]] (o := .stop [.o [0, 1, 1, 1, 1, 1, 1, 1, 1, 1, 1, 1] 1, .c [1, 1, 1, 1, 1, 1, 1, 1, 1, 1, 1, 1]] [(9, .bool (((⟨(cfgN 0).slots, m, [], [2], [1], none⟩ : Sc).given) == ([1] : List Int))), (10, .bool (((⟨(cfgN 0).slots, m, [], [2], [1], none⟩ : Sc).kept ++ (⟨(cfgN 0).slots, m, [], [2], [1], none⟩ : Sc).left) == ([2] : List Int))), (70, vP s_13)] [E32d85 ba_7 i2.2.2, E671ef i2.2.2, Ee1326 a2_16 c2_17 ((⟨(cfgN 0).slots, m, [], [2], [1], none⟩ : Sc).given), Ee1326 (some ⟨b_19, 0, none⟩) 1 ([1] : List Int), .res (ScanR s_13 (cfgN 0) (⟨(cfgN 0).slots, m, [], [2], [1], none⟩ : Sc)), Ee1326 a2_20 c2_21 ((⟨(cfgN 0).slots, m, [], [2], [1], none⟩ : Sc).kept ++ (⟨(cfgN 0).slots, m, [], [2], [1], none⟩ : Sc).left), Ee1326 (some ⟨b_23, 0, none⟩) 1 ([2] : List Int)]) (by kernel_rfl) ?_
      refine ok_stop ?_
      refine go_call (some 71) [4] Try.call23 (scan_Done (cfgN 0) s_13 (⟨(cfgN 0).slots, m, [], [2], [1], none⟩ : Sc) (fun h => absurd rfl h)) (by kernel_rfl) ?_
      rintro v post ⟨rfl, rfl⟩
      refine go_exec (rs := [.tmp 0]) (by kernel_rfl) 4000 [.sp [72, 71] [.sp [75, 9, 73, 74] [] [.dead]] [.dead]] (o := .obl ((Sc.done (cfgN 0) (⟨(cfgN 0).slots, m, [], [2], [1], none⟩ : Sc)) = (Sc.done (cfgN 0) (⟨(cfgN 0).slots, m, [], [2], [1], none⟩ : Sc))) (.br (Sc.done (cfgN 0) (⟨(cfgN 0).slots, m, [], [2], [1], none⟩ : Sc)) (.obl ((((⟨(cfgN 0).slots, m, [], [2], [1], none⟩ : Sc).given) == ([1] : List Int)) = (((⟨(cfgN 0).slots, m, [], [2], [1], none⟩ : Sc).given) == ([1] : List Int))) (.obl ((((⟨(cfgN 0).slots, m, [], [2], [1], none⟩ : Sc).given) == ([1] : List Int)) = (((⟨(cfgN 0).slots, m, [], [2], [1], none⟩ : Sc).given) == ([1] : List Int))) (.obl ((((⟨(cfgN 0).slots, m, [], [2], [1], none⟩ : Sc).given) == ([1] : List Int)) = (((⟨(cfgN 0).slots, m, [], [2], [1], none⟩ : Sc).given) == ([1] : List Int))) (.br (((⟨(cfgN 0).slots, m, [], [2], [1], none⟩ : Sc).given) == ([1] : List Int)) (.ret (.bool (((⟨(cfgN 0).slots, m, [], [2], [1], none⟩ : Sc).kept ++ (⟨(cfgN 0).slots, m, [], [2], [1], none⟩ : Sc).left) == ([2] : List Int))) [E32d85 ba_7 i2.2.2, E671ef i2.2.2, Ee1326 a2_16 c2_17 ((⟨(cfgN 0).slots, m, [], [2], [1], none⟩ : Sc).given), Ee1326 (some ⟨b_19, 0, none⟩) 1 ([1] : List Int), Ee1326 a2_20 c2_21 ((⟨(cfgN 0).slots, m, [], [2], [1], none⟩ : Sc).kept ++ (⟨(cfgN 0).slots, m, [], [2], [1], none⟩ : Sc).left), Ee1326 (some ⟨b_23, 0, none⟩) 1 ([2] : List Int), .res (ScanR s_13 (cfgN 0) (⟨(cfgN 0).slots, m, [], [2], [1], none⟩ : Sc))]) (.bad))))) (.bad))) (by kernel_rfl) ?_
      refine ok_obl rfl ?_
      refine ok_br (fun _ => ?_) (fun h => absurd (show (Sc.done (cfgN 0) (⟨(cfgN 0).slots, m, [], [2], [1], none⟩ : Sc)) = true from (by first | rfl | decide | (simp [Sc.done]; done))) (by rw [h]; simp))
      refine ok_obl rfl ?_
      refine ok_obl rfl ?_
      refine ok_obl rfl ?_
      refine ok_br (fun _ => ?_) (fun h => absurd (show (((⟨(cfgN 0).slots, m, [], [2], [1], none⟩ : Sc).given) == ([1] : List Int)) = true from (by first | rfl | decide | (simp [Sc.done]; done))) (by rw [h]; simp))
      exact ret_ok (post := []) [] (by kernel_rfl) ⟨(congrArg Value.bool (by first | rfl | (simp; done) | (simp; omega))), (by kernel_rfl)⟩

end Go.Proofs.Ytilaihbbollcnaa


namespace Go.Proofs.Ytilaihbbollcnaa
open Go.Sx
abbrev E01d84 (x0 : Nat) (x1 : Value) (x2 : Int) (x3 : Int) (x4 : Bool) : Ent := .pts x0 [x1, .int .i64 x2, .int .i64 x3, .bool x4] 61
abbrev Eb9532 (x0 : Nat) (x1 : Option Addr) (x2 : Nat) (x3 : Nat) (x4 : Int) (x5 : Int) (x6 : Bool) : Ent := .pts x0 [.slice x1 x2 x3, .int .i64 x4, .int .i64 x5, .bool x6] 61

structure ChI where
  at_ : Int
  out : List Int
  oa : Option Addr
  oc : Nat
  rest : List Int
structure FrI where
  i : Int
  out : List Int
  oa : Option Addr
  oc : Nat
noncomputable def B57 : Code := (Try.f57.body).getD .skip

theorem ref_List0 (c : Cfg) (a : Option Addr) (c0 : Nat) (W l : List Int) (hc : c.Ok) (hlen0 : (W.length : Int) = sizeOfC c) (hr : RngW W) (hch : Chain c 0 W (3 + 0) l) (hl : (l.length : Int) ≤ c.n0) :
    Ctr Try.prog 57 #[cfgV c, .slice a W.length c0, vI 0] [E7a681 a c0 W] (fun v L => ∃ (oa : Option Addr) (oc : Nat), v = .agg #[.slice oa l.length oc, vI 0, vI 0, .bool false] ∧ L = [E7a681 a c0 W, Ee1326 oa oc l]) := by
  refine ctr_of (args := [cfgV c, .slice a W.length c0, vI 0]) (fn := Try.f57) (body := B57) (nt := 70) Try.func57 (by kernel_rfl) (by kernel_rfl) ?_
  intro F
  refine go_exec (rs := [.cell 6 61]) (by kernel_rfl) 4000 [.e 1, .z [0, 1] 1 [1, 2, 3, 6, 11]] (o := .new fun b_1 => .new fun b_2 => .obl (b_1 = b_1) (.stop [.o [0, 1] 1, .c [1, 1]] [(1, .slice a W.length c0), (2, vI 0), (3, vP b_1), (6, vP b_2), (11, cfgV c)] [E7a681 a c0 W, Ee1539 b_1 c, E01d84 b_2 (.slice none 0 0) 0 0 false])) (by kernel_rfl) ?_
  refine ok_new fun b_1 => ?_
  refine ok_new fun b_2 => ?_
  refine ok_obl rfl ?_
  refine ok_stop ?_
  refine go_call (some 12) [] Try.call61 (ref_right c (by first | assumption | omega | (simp only [InK] at *; omega))) (by kernel_rfl) ?_
  rintro v post ⟨rfl, rfl⟩
  refine go_exec (rs := [.cell 6 61]) (by kernel_rfl) 4000 [.e 1, .z [0, 0, 1, 1, 1] 3 [1, 2, 3, 6, 25, 26]] (o := .obl (b_1 = b_1) (.stop [.o [0, 0, 1, 1, 1] 3, .c [1, 0, 1, 1, 1], .c [1, 1, 1, 1]] [(1, .slice a W.length c0), (2, vI 0), (3, vP b_1), (6, vP b_2), (25, vI ((W.length : Nat) : Int)), (26, cfgV c)] [E7a681 a c0 W, Ee1539 b_1 c, E01d84 b_2 (.slice none 0 0) 0 0 false])) (by kernel_rfl) ?_
  refine ok_obl rfl ?_
  refine ok_stop ?_
  refine go_call (some 27) [] Try.call68 (ref_Size c (by first | assumption | omega | (simp only [InK] at *; omega))) (by kernel_rfl) ?_
  rintro v post ⟨rfl, rfl⟩
  refine go_exec (rs := [.cell 6 61]) (by kernel_rfl) 4000 [.sp [28] [.dead] [.w, .z [0, 0, 1, 1, 1, 1, 1, 1] 0 [1, 2, 3, 6, 8, 9]]] (o := .br (((W.length : Nat) : Int) != (sizeOfC c)) (.bad) (.stop [.c [0, 0, 1, 1, 1, 1, 1, 1], .b 0, .c [1, 1, 1, 1, 1, 1, 1]] [(1, .slice a W.length c0), (2, vI 0), (3, vP b_1), (6, vP b_2), (8, .slice none 0 0), (9, vI 3)] [E7a681 a c0 W, Ee1539 b_1 c, E01d84 b_2 (.slice none 0 0) 0 0 false])) (by kernel_rfl) ?_
  refine ok_br (fun h => absurd (show (((W.length : Nat) : Int) != (sizeOfC c)) = false from (bne_eq_false_iff_eq.2 hlen0)) (by rw [h]; simp)) (fun _ => ?_)
  refine ok_stop ?_
  refine go_view (L' := [E7a681 a c0 W, Ee1539 b_1 c, E01d84 b_2 (.slice none 0 0) 0 0 false, Ee1326 none 0 []]) (view_nil (encI .i64) 0 1 3 (sizedI _)) ?_
  refine go_loop (ι := ChI) (fun i => [(1, .slice a W.length c0), (2, vI 0), (3, vP b_1), (6, vP b_2), (8, .slice i.oa i.out.length i.oc), (9, vI i.at_)]) (fun i => [Ee1539 b_1 c, E01d84 b_2 (.slice none 0 0) 0 0 false, E7a681 a c0 W, Ee1326 i.oa i.oc i.out]) (fun i => i.out ++ i.rest = l ∧ Chain c 0 W i.at_ i.rest ∧ (0 ≤ i.at_ ∧ i.at_ < (W.length : Int))) (fun i => i.rest.length) ⟨3 + 0, [], none, 0, l⟩ [1, 2, 3, 6, 8, 9] [1, 2, 0, 3] (by kernel_rfl) (by kernel_rfl) (by kernel_rfl) (by kernel_rfl) ⟨rfl, hch, (by have := sizeOfC_ok hc; dsimp only; omega)⟩ ?_
  intro i J_3 hIJ_3 hJ_3
  have hx := hIJ_3
  have hwb := wb_rng hr i.at_
  refine go_exec (rs := [.cell 6 61]) (by kernel_rfl) 4000 [.s 2, .j 2 i.at_.toNat, .sp [37] [.s 2, .j 2 i.at_.toNat, .n, .e 0, .z [0, 0, 1, 0, 1, 0, 0, 0, 1, 1, 1, 1, 1, 1] 2 [1, 2, 3, 6, 8, 9, 10, 44, 45]] [.e 1, .e 1]] (o := .obl (a = a ∧ W.length = W.length) (.obl ((0 : Int) ≤ i.at_ ∧ i.at_ < ((W.length : Nat) : Int)) (.obl (slAt a i.at_.toNat 1 = slAt a i.at_.toNat 1) (.obl (i.at_.toNat < W.length) (.br ((bAnd .u64 (W.getD i.at_.toNat 0) 4294967295) != 0) (.obl (a = a ∧ W.length = W.length) (.obl ((0 : Int) ≤ i.at_ ∧ i.at_ < ((W.length : Nat) : Int)) (.obl (slAt a i.at_.toNat 1 = slAt a i.at_.toNat 1) (.obl (i.at_.toNat < W.length) (.obl (InK .i64 (bAnd .u64 (W.getD i.at_.toNat 0) 4294967295)) (.obl (b_1 = b_1) (.stop [.o [0, 0, 1, 0, 1, 0, 0, 0, 1, 1, 1, 1, 1, 1] 2, .c [1, 0, 1, 0, 1, 0, 0, 0, 1, 1, 1, 1, 1, 1], .c [1, 1, 0, 1, 0, 0, 0, 1, 1, 1, 1, 1, 1], .b 1, .j J_3, .b 0, .c [1, 1, 1, 1, 1, 1, 1]] [(1, .slice a W.length c0), (2, vI 0), (3, vP b_1), (6, vP b_2), (8, .slice i.oa i.out.length i.oc), (9, vI i.at_), (10, vI (bAnd .u64 (W.getD i.at_.toNat 0) 4294967295)), (44, cfgV c), (45, vI (bAnd .u64 (W.getD i.at_.toNat 0) 4294967295))] [Ee1539 b_1 c, E01d84 b_2 (.slice none 0 0) 0 0 false, E7a681 a c0 W, Ee1326 i.oa i.oc i.out]))))))) (.obl (b_2 = b_2) (.obl (b_2 = b_2) (.ret (.agg #[.slice i.oa i.out.length i.oc, vI 0, vI 0, .bool false]) [Ee1539 b_1 c, Eb9532 b_2 i.oa i.out.length i.oc 0 0 false, E7a681 a c0 W, Ee1326 i.oa i.oc i.out])))))))) (by kernel_rfl) ?_
  refine ok_obl ⟨rfl, (by first | rfl | omega | (simp; done) | (simp; omega))⟩ ?_
  refine ok_obl (by first | omega | (simp; done) | (simp; omega)) ?_
  refine ok_obl rfl ?_
  refine ok_obl (by first | omega | (simp; done) | (simp; omega)) ?_
  refine ok_br (fun h_4 => ?_) (fun h_4 => ?_)
  · replace h_4 := bneT h_4
    have hon := chain_on hr hx.2.1 (show wb W i.at_ ≠ 0 from h_4)
    have hlen : i.out.length + i.rest.length = l.length := by rw [← hx.1, List.length_append]
    have hpos : 0 < i.rest.length := by rw [hon.1]; simp
    have hcb : 0 ≤ clsOf c (wb W i.at_) := by rw [hon.2.1]; omega
    have hcb2 := clsOf_ok hcb
    have hbb := blockAt_ok hc hcb
    refine ok_obl ⟨rfl, (by first | rfl | omega | (simp; done) | (simp; omega))⟩ ?_
    refine ok_obl (by first | omega | (simp; done) | (simp; omega)) ?_
    refine ok_obl rfl ?_
    refine ok_obl (by first | omega | (simp; done) | (simp; omega)) ?_
    refine ok_obl (by show InK .i64 (wb W i.at_); simp only [InK]; omega) ?_
    refine ok_obl rfl ?_
    refine ok_stop ?_
    refine go_call (some 46) [] Try.call62 (ref_Class c (bAnd .u64 (W.getD i.at_.toNat 0) 4294967295) (by first | assumption | omega | (simp only [InK] at *; omega))) (by kernel_rfl) ?_
    rintro v post ⟨rfl, rfl⟩
    refine go_exec (rs := [.cell 6 61]) (by kernel_rfl) 4000 [.sp [48] [.dead] [.w, .e 0, .sp [58] [.dead] [.z [0, 1, 1, 1, 0, 1, 0, 0, 0, 1, 1, 1, 1, 1, 1] 3 [1, 2, 3, 6, 10, 61, 63]]]] (o := .br ((clsOf c (bAnd .u64 (W.getD i.at_.toNat 0) 4294967295)) != 0) (.bad) (.obl (b_1 = b_1) (.br (((i.out.length : Nat) : Int) == c.n0) (.bad) (.new fun b_5 => .stop [.o [0, 1, 1, 1, 0, 1, 0, 0, 0, 1, 1, 1, 1, 1, 1] 3, .c [1, 1, 1, 1, 0, 1, 0, 0, 0, 1, 1, 1, 1, 1, 1], .b 1, .j J_3, .b 0, .c [1, 1, 1, 1, 1, 1, 1]] [(1, .slice a W.length c0), (2, vI 0), (3, vP b_1), (6, vP b_2), (10, vI (bAnd .u64 (W.getD i.at_.toNat 0) 4294967295)), (61, .slice i.oa i.out.length i.oc), (63, .slice (some ⟨b_5, 0, none⟩) 1 1)] [Ee1539 b_1 c, E01d84 b_2 (.slice none 0 0) 0 0 false, E7a681 a c0 W, Ee1326 i.oa i.oc i.out, .pts b_5 [vI (bAnd .u64 (W.getD i.at_.toNat 0) 4294967295)] 3])))) (by kernel_rfl) ?_
    refine ok_br (fun h => absurd (show ((clsOf c (bAnd .u64 (W.getD i.at_.toNat 0) 4294967295)) != 0) = false from (bne_eq_false_iff_eq.2 hon.2.1)) (by rw [h]; simp)) (fun _ => ?_)
    refine ok_obl rfl ?_
    refine ok_br (fun h => absurd (show (((i.out.length : Nat) : Int) == c.n0) = false from (beq_eq_false_iff_ne.2 (by omega))) (by rw [h]; simp)) (fun _ => ?_)
    refine ok_new fun b_5 => ?_
    refine ok_stop ?_
    refine go_by (some 64) (appO Try.prog _) (some (.slice i.oa (i.out).length i.oc, .slice (some ⟨b_5, 0, none⟩) 1 1, (3, 1, 8))) (R_append 3 (a := i.oa) (c := i.oc) (enc := encI .i64) (d := 0) (sz := 1) (xs := i.out) (te := 3) (by kernel_rfl) (.slice (some ⟨b_5, 0, none⟩) 1 1) [(bAnd .u64 (W.getD i.at_.toNat 0) 4294967295)] (src_pts (i := 4) (t := 3) (by kernel_rfl)) (oneI _) 8 (by simp only [Cfg.Ok] at hc; simp; omega) (by simp only [Cfg.Ok] at hc; simp; omega)) (by kernel_rfl) ?_
    rintro v L2 ⟨a_6, c_7, rfl, rfl⟩
    refine go_exec (rs := [.cell 6 61]) (by kernel_rfl) 4000 [.e 0, .z [1, 1, 1, 1, 0, 1, 0, 0, 0, 1, 1, 1, 1, 1, 1] 2 [1, 2, 3, 6, 8, 65, 66]] (o := .obl (b_1 = b_1) (.stop [.o [1, 1, 1, 1, 0, 1, 0, 0, 0, 1, 1, 1, 1, 1, 1] 2, .b 1, .j J_3, .b 0, .c [1, 1, 1, 1, 1, 1, 1]] [(1, .slice a W.length c0), (2, vI 0), (3, vP b_1), (6, vP b_2), (8, .slice a_6 ((i.out ++ [(bAnd .u64 (W.getD i.at_.toNat 0) 4294967295)]).length) c_7), (65, cfgV c), (66, vI (bAnd .u64 (W.getD i.at_.toNat 0) 4294967295))] [Ee1539 b_1 c, E01d84 b_2 (.slice none 0 0) 0 0 false, E7a681 a c0 W, Ee1326 a_6 c_7 (i.out ++ [(bAnd .u64 (W.getD i.at_.toNat 0) 4294967295)]), .pts b_5 [vI (bAnd .u64 (W.getD i.at_.toNat 0) 4294967295)] 3])) (by kernel_rfl) ?_
    refine ok_obl rfl ?_
    refine ok_stop ?_
    refine go_call (some 67) [] Try.call36 (ref_Block c (bAnd .u64 (W.getD i.at_.toNat 0) 4294967295) (by first | assumption | omega | (simp only [InK] at *; omega)) hcb2) (by kernel_rfl) ?_
    rintro v post ⟨rfl, rfl⟩
    refine go_exec (rs := [.cell 6 61]) (by kernel_rfl) 4000 [.z [] 0 [1, 2, 3, 6, 8, 9]] (o := .stop [.j J_3, .b 0, .c [1, 1, 1, 1, 1, 1, 1]] [(1, .slice a W.length c0), (2, vI 0), (3, vP b_1), (6, vP b_2), (8, .slice a_6 ((i.out ++ [(bAnd .u64 (W.getD i.at_.toNat 0) 4294967295)]).length) c_7), (9, vI (blockAt c (bAnd .u64 (W.getD i.at_.toNat 0) 4294967295)))] [Ee1539 b_1 c, E01d84 b_2 (.slice none 0 0) 0 0 false, E7a681 a c0 W, Ee1326 a_6 c_7 (i.out ++ [(bAnd .u64 (W.getD i.at_.toNat 0) 4294967295)]), .pts b_5 [vI (bAnd .u64 (W.getD i.at_.toNat 0) 4294967295)] 3]) (by kernel_rfl) ?_
    refine ok_stop ?_
    exact go_back hJ_3 (⟨blockAt c (bAnd .u64 (W.getD i.at_.toNat 0) 4294967295), (i.out ++ [(bAnd .u64 (W.getD i.at_.toNat 0) 4294967295)]), a_6, c_7, i.rest.drop 1⟩ : ChI) [0, 1, 2, 3] (by kernel_rfl) (by kernel_rfl) (by kernel_rfl) ⟨(by dsimp only; rw [List.append_assoc]; show i.out ++ (wb W i.at_ :: i.rest.drop 1) = l; rw [← hon.1]; exact hx.1), hon.2.2, ⟨(by show 0 ≤ blockAt c (wb W i.at_); omega), (by show blockAt c (wb W i.at_) < _; omega)⟩⟩ (by dsimp only; rw [hon.1]; simp)
  · replace h_4 := bneF h_4
    have hoff := chain_off hr hx.2.1 (by omega) (show wb W i.at_ = 0 from h_4)
    have hout : i.out = l := by have h1 := hx.1; rw [hoff, List.append_nil] at h1; exact h1
    refine ok_obl rfl ?_
    refine ok_obl rfl ?_
    exact ret_ok (post := [E7a681 a c0 W, Ee1326 i.oa i.oc i.out]) [2, 3] (by kernel_rfl) ⟨i.oa, i.oc, (by rw [← hout]), (by rw [← hout])⟩


theorem ref_List1 (c : Cfg) (a : Option Addr) (c0 : Nat) (W l : List Int) (hc : c.Ok) (hlen0 : (W.length : Int) = sizeOfC c) (hr : RngW W) (hch : Chain c 1 W (3 + 1) l) (hl : (l.length : Int) ≤ c.n1) :
    Ctr Try.prog 57 #[cfgV c, .slice a W.length c0, vI 1] [E7a681 a c0 W] (fun v L => ∃ (oa : Option Addr) (oc : Nat), v = .agg #[.slice oa l.length oc, vI 0, vI 0, .bool false] ∧ L = [E7a681 a c0 W, Ee1326 oa oc l]) := by
  refine ctr_of (args := [cfgV c, .slice a W.length c0, vI 1]) (fn := Try.f57) (body := B57) (nt := 70) Try.func57 (by kernel_rfl) (by kernel_rfl) ?_
  intro F
  refine go_exec (rs := [.cell 6 61]) (by kernel_rfl) 4000 [.e 1, .z [0, 1] 1 [1, 2, 3, 6, 11]] (o := .new fun b_1 => .new fun b_2 => .obl (b_1 = b_1) (.stop [.o [0, 1] 1, .c [1, 1]] [(1, .slice a W.length c0), (2, vI 1), (3, vP b_1), (6, vP b_2), (11, cfgV c)] [E7a681 a c0 W, Ee1539 b_1 c, E01d84 b_2 (.slice none 0 0) 0 0 false])) (by kernel_rfl) ?_
  refine ok_new fun b_1 => ?_
  refine ok_new fun b_2 => ?_
  refine ok_obl rfl ?_
  refine ok_stop ?_
  refine go_call (some 12) [] Try.call61 (ref_right c (by first | assumption | omega | (simp only [InK] at *; omega))) (by kernel_rfl) ?_
  rintro v post ⟨rfl, rfl⟩
  refine go_exec (rs := [.cell 6 61]) (by kernel_rfl) 4000 [.e 1, .z [0, 0, 1, 1, 1] 3 [1, 2, 3, 6, 25, 26]] (o := .obl (b_1 = b_1) (.stop [.o [0, 0, 1, 1, 1] 3, .c [1, 0, 1, 1, 1], .c [1, 1, 1, 1]] [(1, .slice a W.length c0), (2, vI 1), (3, vP b_1), (6, vP b_2), (25, vI ((W.length : Nat) : Int)), (26, cfgV c)] [E7a681 a c0 W, Ee1539 b_1 c, E01d84 b_2 (.slice none 0 0) 0 0 false])) (by kernel_rfl) ?_
  refine ok_obl rfl ?_
  refine ok_stop ?_
  refine go_call (some 27) [] Try.call68 (ref_Size c (by first | assumption | omega | (simp only [InK] at *; omega))) (by kernel_rfl) ?_
  rintro v post ⟨rfl, rfl⟩
  refine go_exec (rs := [.cell 6 61]) (by kernel_rfl) 4000 [.sp [28] [.dead] [.w, .z [0, 0, 1, 1, 1, 1, 1, 1] 0 [1, 2, 3, 6, 8, 9]]] (o := .br (((W.length : Nat) : Int) != (sizeOfC c)) (.bad) (.stop [.c [0, 0, 1, 1, 1, 1, 1, 1], .b 0, .c [1, 1, 1, 1, 1, 1, 1]] [(1, .slice a W.length c0), (2, vI 1), (3, vP b_1), (6, vP b_2), (8, .slice none 0 0), (9, vI 4)] [E7a681 a c0 W, Ee1539 b_1 c, E01d84 b_2 (.slice none 0 0) 0 0 false])) (by kernel_rfl) ?_
  refine ok_br (fun h => absurd (show (((W.length : Nat) : Int) != (sizeOfC c)) = false from (bne_eq_false_iff_eq.2 hlen0)) (by rw [h]; simp)) (fun _ => ?_)
  refine ok_stop ?_
  refine go_view (L' := [E7a681 a c0 W, Ee1539 b_1 c, E01d84 b_2 (.slice none 0 0) 0 0 false, Ee1326 none 0 []]) (view_nil (encI .i64) 0 1 3 (sizedI _)) ?_
  refine go_loop (ι := ChI) (fun i => [(1, .slice a W.length c0), (2, vI 1), (3, vP b_1), (6, vP b_2), (8, .slice i.oa i.out.length i.oc), (9, vI i.at_)]) (fun i => [Ee1539 b_1 c, E01d84 b_2 (.slice none 0 0) 0 0 false, E7a681 a c0 W, Ee1326 i.oa i.oc i.out]) (fun i => i.out ++ i.rest = l ∧ Chain c 1 W i.at_ i.rest ∧ (0 ≤ i.at_ ∧ i.at_ < (W.length : Int))) (fun i => i.rest.length) ⟨3 + 1, [], none, 0, l⟩ [1, 2, 3, 6, 8, 9] [1, 2, 0, 3] (by kernel_rfl) (by kernel_rfl) (by kernel_rfl) (by kernel_rfl) ⟨rfl, hch, (by have := sizeOfC_ok hc; dsimp only; omega)⟩ ?_
  intro i J_3 hIJ_3 hJ_3
  have hx := hIJ_3
  have hwb := wb_rng hr i.at_
  refine go_exec (rs := [.cell 6 61]) (by kernel_rfl) 4000 [.s 2, .j 2 i.at_.toNat, .sp [37] [.s 2, .j 2 i.at_.toNat, .n, .e 0, .z [0, 0, 1, 0, 1, 0, 0, 0, 1, 1, 1, 1, 1, 1] 2 [1, 2, 3, 6, 8, 9, 10, 44, 45]] [.e 1, .e 1]] (o := .obl (a = a ∧ W.length = W.length) (.obl ((0 : Int) ≤ i.at_ ∧ i.at_ < ((W.length : Nat) : Int)) (.obl (slAt a i.at_.toNat 1 = slAt a i.at_.toNat 1) (.obl (i.at_.toNat < W.length) (.br ((bAnd .u64 (W.getD i.at_.toNat 0) 4294967295) != 0) (.obl (a = a ∧ W.length = W.length) (.obl ((0 : Int) ≤ i.at_ ∧ i.at_ < ((W.length : Nat) : Int)) (.obl (slAt a i.at_.toNat 1 = slAt a i.at_.toNat 1) (.obl (i.at_.toNat < W.length) (.obl (InK .i64 (bAnd .u64 (W.getD i.at_.toNat 0) 4294967295)) (.obl (b_1 = b_1) (.stop [.o [0, 0, 1, 0, 1, 0, 0, 0, 1, 1, 1, 1, 1, 1] 2, .c [1, 0, 1, 0, 1, 0, 0, 0, 1, 1, 1, 1, 1, 1], .c [1, 1, 0, 1, 0, 0, 0, 1, 1, 1, 1, 1, 1], .b 1, .j J_3, .b 0, .c [1, 1, 1, 1, 1, 1, 1]] [(1, .slice a W.length c0), (2, vI 1), (3, vP b_1), (6, vP b_2), (8, .slice i.oa i.out.length i.oc), (9, vI i.at_), (10, vI (bAnd .u64 (W.getD i.at_.toNat 0) 4294967295)), (44, cfgV c), (45, vI (bAnd .u64 (W.getD i.at_.toNat 0) 4294967295))] [Ee1539 b_1 c, E01d84 b_2 (.slice none 0 0) 0 0 false, E7a681 a c0 W, Ee1326 i.oa i.oc i.out]))))))) (.obl (b_2 = b_2) (.obl (b_2 = b_2) (.ret (.agg #[.slice i.oa i.out.length i.oc, vI 0, vI 0, .bool false]) [Ee1539 b_1 c, Eb9532 b_2 i.oa i.out.length i.oc 0 0 false, E7a681 a c0 W, Ee1326 i.oa i.oc i.out])))))))) (by kernel_rfl) ?_
  refine ok_obl ⟨rfl, (by first | rfl | omega | (simp; done) | (simp; omega))⟩ ?_
  refine ok_obl (by first | omega | (simp; done) | (simp; omega)) ?_
  refine ok_obl rfl ?_
  refine ok_obl (by first | omega | (simp; done) | (simp; omega)) ?_
  refine ok_br (fun h_4 => ?_) (fun h_4 => ?_)
  · replace h_4 := bneT h_4
    have hon := chain_on hr hx.2.1 (show wb W i.at_ ≠ 0 from h_4)
    have hlen : i.out.length + i.rest.length = l.length := by rw [← hx.1, List.length_append]
    have hpos : 0 < i.rest.length := by rw [hon.1]; simp
    have hcb : 0 ≤ clsOf c (wb W i.at_) := by rw [hon.2.1]; omega
    have hcb2 := clsOf_ok hcb
    have hbb := blockAt_ok hc hcb
    refine ok_obl ⟨rfl, (by first | rfl | omega | (simp; done) | (simp; omega))⟩ ?_
    refine ok_obl (by first | omega | (simp; done) | (simp; omega)) ?_
    refine ok_obl rfl ?_
    refine ok_obl (by first | omega | (simp; done) | (simp; omega)) ?_
    refine ok_obl (by show InK .i64 (wb W i.at_); simp only [InK]; omega) ?_
    refine ok_obl rfl ?_
    refine ok_stop ?_
    refine go_call (some 46) [] Try.call62 (ref_Class c (bAnd .u64 (W.getD i.at_.toNat 0) 4294967295) (by first | assumption | omega | (simp only [InK] at *; omega))) (by kernel_rfl) ?_
    rintro v post ⟨rfl, rfl⟩
    refine go_exec (rs := [.cell 6 61]) (by kernel_rfl) 4000 [.sp [48] [.dead] [.w, .e 0, .sp [58] [.dead] [.z [0, 1, 1, 1, 0, 1, 0, 0, 0, 1, 1, 1, 1, 1, 1] 3 [1, 2, 3, 6, 10, 61, 63]]]] (o := .br ((clsOf c (bAnd .u64 (W.getD i.at_.toNat 0) 4294967295)) != 1) (.bad) (.obl (b_1 = b_1) (.br (((i.out.length : Nat) : Int) == c.n1) (.bad) (.new fun b_5 => .stop [.o [0, 1, 1, 1, 0, 1, 0, 0, 0, 1, 1, 1, 1, 1, 1] 3, .c [1, 1, 1, 1, 0, 1, 0, 0, 0, 1, 1, 1, 1, 1, 1], .b 1, .j J_3, .b 0, .c [1, 1, 1, 1, 1, 1, 1]] [(1, .slice a W.length c0), (2, vI 1), (3, vP b_1), (6, vP b_2), (10, vI (bAnd .u64 (W.getD i.at_.toNat 0) 4294967295)), (61, .slice i.oa i.out.length i.oc), (63, .slice (some ⟨b_5, 0, none⟩) 1 1)] [Ee1539 b_1 c, E01d84 b_2 (.slice none 0 0) 0 0 false, E7a681 a c0 W, Ee1326 i.oa i.oc i.out, .pts b_5 [vI (bAnd .u64 (W.getD i.at_.toNat 0) 4294967295)] 3])))) (by kernel_rfl) ?_
    refine ok_br (fun h => absurd (show ((clsOf c (bAnd .u64 (W.getD i.at_.toNat 0) 4294967295)) != 1) = false from (bne_eq_false_iff_eq.2 hon.2.1)) (by rw [h]; simp)) (fun _ => ?_)
    refine ok_obl rfl ?_
    refine ok_br (fun h => absurd (show (((i.out.length : Nat) : Int) == c.n1) = false from (beq_eq_false_iff_ne.2 (by omega))) (by rw [h]; simp)) (fun _ => ?_)
    refine ok_new fun b_5 => ?_
    refine ok_stop ?_
    refine go_by (some 64) (appO Try.prog _) (some (.slice i.oa (i.out).length i.oc, .slice (some ⟨b_5, 0, none⟩) 1 1, (3, 1, 8))) (R_append 3 (a := i.oa) (c := i.oc) (enc := encI .i64) (d := 0) (sz := 1) (xs := i.out) (te := 3) (by kernel_rfl) (.slice (some ⟨b_5, 0, none⟩) 1 1) [(bAnd .u64 (W.getD i.at_.toNat 0) 4294967295)] (src_pts (i := 4) (t := 3) (by kernel_rfl)) (oneI _) 8 (by simp only [Cfg.Ok] at hc; simp; omega) (by simp only [Cfg.Ok] at hc; simp; omega)) (by kernel_rfl) ?_
    rintro v L2 ⟨a_6, c_7, rfl, rfl⟩
    refine go_exec (rs := [.cell 6 61]) (by kernel_rfl) 4000 [.e 0, .z [1, 1, 1, 1, 0, 1, 0, 0, 0, 1, 1, 1, 1, 1, 1] 2 [1, 2, 3, 6, 8, 65, 66]] (o := .obl (b_1 = b_1) (.stop [.o [1, 1, 1, 1, 0, 1, 0, 0, 0, 1, 1, 1, 1, 1, 1] 2, .b 1, .j J_3, .b 0, .c [1, 1, 1, 1, 1, 1, 1]] [(1, .slice a W.length c0), (2, vI 1), (3, vP b_1), (6, vP b_2), (8, .slice a_6 ((i.out ++ [(bAnd .u64 (W.getD i.at_.toNat 0) 4294967295)]).length) c_7), (65, cfgV c), (66, vI (bAnd .u64 (W.getD i.at_.toNat 0) 4294967295))] [Ee1539 b_1 c, E01d84 b_2 (.slice none 0 0) 0 0 false, E7a681 a c0 W, Ee1326 a_6 c_7 (i.out ++ [(bAnd .u64 (W.getD i.at_.toNat 0) 4294967295)]), .pts b_5 [vI (bAnd .u64 (W.getD i.at_.toNat 0) 4294967295)] 3])) (by kernel_rfl) ?_
    refine ok_obl rfl ?_
    refine ok_stop ?_
    refine go_call (some 67) [] Try.call36 (ref_Block c (bAnd .u64 (W.getD i.at_.toNat 0) 4294967295) (by first | assumption | omega | (simp only [InK] at *; omega)) hcb2) (by kernel_rfl) ?_
    rintro v post ⟨rfl, rfl⟩
    refine go_exec (rs := [.cell 6 61]) (by kernel_rfl) 4000 [.z [] 0 [1, 2, 3, 6, 8, 9]] (o := .stop [.j J_3, .b 0, .c [1, 1, 1, 1, 1, 1, 1]] [(1, .slice a W.length c0), (2, vI 1), (3, vP b_1), (6, vP b_2), (8, .slice a_6 ((i.out ++ [(bAnd .u64 (W.getD i.at_.toNat 0) 4294967295)]).length) c_7), (9, vI (blockAt c (bAnd .u64 (W.getD i.at_.toNat 0) 4294967295)))] [Ee1539 b_1 c, E01d84 b_2 (.slice none 0 0) 0 0 false, E7a681 a c0 W, Ee1326 a_6 c_7 (i.out ++ [(bAnd .u64 (W.getD i.at_.toNat 0) 4294967295)]), .pts b_5 [vI (bAnd .u64 (W.getD i.at_.toNat 0) 4294967295)] 3]) (by kernel_rfl) ?_
    refine ok_stop ?_
    exact go_back hJ_3 (⟨blockAt c (bAnd .u64 (W.getD i.at_.toNat 0) 4294967295), (i.out ++ [(bAnd .u64 (W.getD i.at_.toNat 0) 4294967295)]), a_6, c_7, i.rest.drop 1⟩ : ChI) [0, 1, 2, 3] (by kernel_rfl) (by kernel_rfl) (by kernel_rfl) ⟨(by dsimp only; rw [List.append_assoc]; show i.out ++ (wb W i.at_ :: i.rest.drop 1) = l; rw [← hon.1]; exact hx.1), hon.2.2, ⟨(by show 0 ≤ blockAt c (wb W i.at_); omega), (by show blockAt c (wb W i.at_) < _; omega)⟩⟩ (by dsimp only; rw [hon.1]; simp)
  · replace h_4 := bneF h_4
    have hoff := chain_off hr hx.2.1 (by omega) (show wb W i.at_ = 0 from h_4)
    have hout : i.out = l := by have h1 := hx.1; rw [hoff, List.append_nil] at h1; exact h1
    refine ok_obl rfl ?_
    refine ok_obl rfl ?_
    exact ret_ok (post := [E7a681 a c0 W, Ee1326 i.oa i.oc i.out]) [2, 3] (by kernel_rfl) ⟨i.oa, i.oc, (by rw [← hout]), (by rw [← hout])⟩

noncomputable def B19 : Code := (Try.f19.body).getD .skip

theorem ref_Free (c : Cfg) (a : Option Addr) (c0 : Nat) (W l0 l1 : List Int) (hc : c.Ok) (hlen0 : (W.length : Int) = sizeOfC c) (hr : RngW W) (h0 : Chain c 0 W 3 l0) (h1 : Chain c 1 W 4 l1) (hl0 : (l0.length : Int) ≤ c.n0) (hl1 : (l1.length : Int) ≤ c.n1) :
    Ctr Try.prog 19 #[cfgV c, .slice a W.length c0] [E7a681 a c0 W] (fun v L => ∃ (oa : Option Addr) (oc : Nat), v = .agg #[.slice oa ((freeL l0 l1 (c.n0 + c.n1).toNat).length) oc, vI 0, vI 0, .bool false] ∧ L = [E7a681 a c0 W, Ee1326 oa oc (freeL l0 l1 (c.n0 + c.n1).toNat)]) := by
  refine ctr_of (args := [cfgV c, .slice a W.length c0]) (fn := Try.f19) (body := B19) (nt := 45) Try.func19 (by kernel_rfl) (by kernel_rfl) ?_
  intro F
  refine go_exec (rs := [.cell 4 61]) (by kernel_rfl) 4000 [.e 1, .z [0, 1] 2 [1, 2, 4, 9, 10]] (o := .new fun b_1 => .new fun b_2 => .obl (b_1 = b_1) (.stop [.o [0, 1] 2, .c [1, 1]] [(1, .slice a W.length c0), (2, vP b_1), (4, vP b_2), (9, cfgV c), (10, .slice a W.length c0)] [E7a681 a c0 W, Ee1539 b_1 c, E01d84 b_2 (.slice none 0 0) 0 0 false])) (by kernel_rfl) ?_
  refine ok_new fun b_1 => ?_
  refine ok_new fun b_2 => ?_
  refine ok_obl rfl ?_
  refine ok_stop ?_
  refine go_call (some 11) [0] Try.call57 (ref_List0 c a c0 W l0 (by first | assumption | omega | (simp only [InK] at *; omega)) (by first | assumption | omega | (simp only [InK] at *; omega)) (by first | assumption | omega | (simp only [InK] at *; omega)) h0 hl0) (by kernel_rfl) ?_
  rintro v post ⟨oa_3, oc_4, rfl, rfl⟩
  refine go_exec (rs := [.cell 4 61]) (by kernel_rfl) 4000 [.e 4, .e 4, .e 0, .z [0, 1, 1, 1] 2 [2, 4, 5, 16, 17]] (o := .new fun b_6 => .obl (b_6 = b_6) (.obl (b_6 = b_6) (.obl (b_1 = b_1) (.stop [.o [0, 1, 1, 1] 2, .c [1, 1, 1, 1]] [(2, vP b_1), (4, vP b_2), (5, vP b_6), (16, cfgV c), (17, .slice a W.length c0)] [Ee1539 b_1 c, E01d84 b_2 (.slice none 0 0) 0 0 false, E7a681 a c0 W, Ee1326 oa_3 oc_4 l0, Eb9532 b_6 oa_3 l0.length oc_4 0 0 false])))) (by kernel_rfl) ?_
  refine ok_new fun b_6 => ?_
  refine ok_obl rfl ?_
  refine ok_obl rfl ?_
  refine ok_obl rfl ?_
  refine ok_stop ?_
  refine go_call (some 18) [2] Try.call57 (ref_List1 c a c0 W l1 (by first | assumption | omega | (simp only [InK] at *; omega)) (by first | assumption | omega | (simp only [InK] at *; omega)) (by first | assumption | omega | (simp only [InK] at *; omega)) h1 hl1) (by kernel_rfl) ?_
  rintro v post ⟨oa_7, oc_8, rfl, rfl⟩
  refine go_exec (rs := [.cell 4 61]) (by kernel_rfl) 4000 [.e 6, .e 6, .z [0, 1, 0, 1, 1, 1, 1, 1, 1] 0 [2, 4, 5, 6, 7, 8]] (o := .new fun b_10 => .obl (b_10 = b_10) (.obl (b_10 = b_10) (.stop [.c [0, 1, 0, 1, 1, 1, 1, 1, 1], .b 0, .c [1, 1, 1, 1, 1, 1, 1]] [(2, vP b_1), (4, vP b_2), (5, vP b_6), (6, vP b_10), (7, .slice none 0 0), (8, vI 1)] [Ee1539 b_1 c, E01d84 b_2 (.slice none 0 0) 0 0 false, Ee1326 oa_3 oc_4 l0, Eb9532 b_6 oa_3 l0.length oc_4 0 0 false, E7a681 a c0 W, Ee1326 oa_7 oc_8 l1, Eb9532 b_10 oa_7 l1.length oc_8 0 0 false]))) (by kernel_rfl) ?_
  refine ok_new fun b_10 => ?_
  refine ok_obl rfl ?_
  refine ok_obl rfl ?_
  refine ok_stop ?_
  refine go_view (L' := [Ee1539 b_1 c, E01d84 b_2 (.slice none 0 0) 0 0 false, Ee1326 oa_3 oc_4 l0, Eb9532 b_6 oa_3 l0.length oc_4 0 0 false, E7a681 a c0 W, Ee1326 oa_7 oc_8 l1, Eb9532 b_10 oa_7 l1.length oc_8 0 0 false, Ee1326 none 0 []]) (view_nil (encI .i64) 0 1 3 (sizedI _)) ?_
  refine go_loop (ι := FrI) (fun i => [(2, vP b_1), (4, vP b_2), (5, vP b_6), (6, vP b_10), (7, .slice i.oa i.out.length i.oc), (8, vI i.i)]) (fun i => [Ee1539 b_1 c, E01d84 b_2 (.slice none 0 0) 0 0 false, Ee1326 oa_3 oc_4 l0, Eb9532 b_6 oa_3 l0.length oc_4 0 0 false, E7a681 a c0 W, Ee1326 oa_7 oc_8 l1, Eb9532 b_10 oa_7 l1.length oc_8 0 0 false, Ee1326 i.oa i.oc i.out]) (fun i => i.out = freeL l0 l1 (i.i - 1).toNat ∧ (1 ≤ i.i ∧ i.i ≤ c.n0 + c.n1 + 1) ∧ (i.out.length : Int) ≤ i.i - 1) (fun i => (c.n0 + c.n1 + 1 - i.i).toNat) ⟨1, [], none, 0⟩ [2, 4, 5, 6, 7, 8] [0, 1, 2, 3, 4, 5, 6, 7] (by kernel_rfl) (by kernel_rfl) (by kernel_rfl) (by kernel_rfl) ⟨rfl, (by simp only [Cfg.Ok] at hc; dsimp only; omega), (by simp)⟩ ?_
  intro i J_11 hIJ_11 hJ_11
  have hx := hIJ_11
  have hx2 := hx.2.1
  have hx3 := hx.2.2
  have hcn : c.n0 ≤ 12 ∧ c.n1 ≤ 12 := by simp only [Cfg.Ok] at hc; omega
  refine go_exec (rs := [.cell 4 61]) (by kernel_rfl) 4000 [.e 0, .z [0, 0, 0, 0, 1, 0, 1, 1, 1, 1, 1, 1] 2 [2, 4, 5, 6, 7, 8, 23, 24]] (o := .obl (b_1 = b_1) (.stop [.o [0, 0, 0, 0, 1, 0, 1, 1, 1, 1, 1, 1] 2, .c [1, 0, 0, 0, 1, 0, 1, 1, 1, 1, 1, 1], .c [1, 0, 0, 1, 0, 1, 1, 1, 1, 1, 1], .j J_11, .b 0, .c [1, 1, 1, 1, 1, 1, 1]] [(2, vP b_1), (4, vP b_2), (5, vP b_6), (6, vP b_10), (7, .slice i.oa i.out.length i.oc), (8, vI i.i), (23, vI i.i), (24, cfgV c)] [Ee1539 b_1 c, E01d84 b_2 (.slice none 0 0) 0 0 false, Ee1326 oa_3 oc_4 l0, Eb9532 b_6 oa_3 l0.length oc_4 0 0 false, E7a681 a c0 W, Ee1326 oa_7 oc_8 l1, Eb9532 b_10 oa_7 l1.length oc_8 0 0 false, Ee1326 i.oa i.oc i.out])) (by kernel_rfl) ?_
  refine ok_obl rfl ?_
  refine ok_stop ?_
  refine go_call (some 25) [] Try.call58 (ref_Blocks c (by first | assumption | omega | (simp only [InK] at *; omega))) (by kernel_rfl) ?_
  rintro v post ⟨rfl, rfl⟩
  refine go_exec (rs := [.cell 4 61]) (by kernel_rfl) 4000 [.sp [26] [.e 3, .z [0, 0, 0, 1, 0, 0, 1, 0, 1, 1, 1, 1, 1, 1] 3 [2, 4, 5, 6, 7, 8, 30, 31]] [.e 1, .e 1]] (o := .br (decide (i.i ≤ (c.n0 + c.n1))) (.obl (b_6 = b_6) (.stop [.o [0, 0, 0, 1, 0, 0, 1, 0, 1, 1, 1, 1, 1, 1] 3, .c [1, 0, 0, 1, 0, 0, 1, 0, 1, 1, 1, 1, 1, 1], .b 1, .c [1, 1, 0, 0, 1, 0, 1, 1, 1, 1, 1, 1], .j J_11, .b 0, .c [1, 1, 1, 1, 1, 1, 1]] [(2, vP b_1), (4, vP b_2), (5, vP b_6), (6, vP b_10), (7, .slice i.oa i.out.length i.oc), (8, vI i.i), (30, .slice oa_3 l0.length oc_4), (31, vI i.i)] [Ee1539 b_1 c, E01d84 b_2 (.slice none 0 0) 0 0 false, Ee1326 oa_3 oc_4 l0, Eb9532 b_6 oa_3 l0.length oc_4 0 0 false, E7a681 a c0 W, Ee1326 oa_7 oc_8 l1, Eb9532 b_10 oa_7 l1.length oc_8 0 0 false, Ee1326 i.oa i.oc i.out])) (.obl (b_2 = b_2) (.obl (b_2 = b_2) (.ret (.agg #[.slice i.oa i.out.length i.oc, vI 0, vI 0, .bool false]) [Ee1539 b_1 c, Eb9532 b_2 i.oa i.out.length i.oc 0 0 false, Ee1326 oa_3 oc_4 l0, Eb9532 b_6 oa_3 l0.length oc_4 0 0 false, E7a681 a c0 W, Ee1326 oa_7 oc_8 l1, Eb9532 b_10 oa_7 l1.length oc_8 0 0 false, Ee1326 i.oa i.oc i.out])))) (by kernel_rfl) ?_
  refine ok_br (fun h_12 => ?_) (fun h_12 => ?_)
  · replace h_12 := decT h_12
    refine ok_obl rfl ?_
    refine ok_stop ?_
    refine go_call (some 32) [2] Try.call22 (ref_Has oa_3 oc_4 oc_4 l0.length l0 i.i (Nat.le_refl _) (by simp only [Cfg.Ok] at hc; omega)) (by kernel_rfl) ?_
    rintro v post ⟨rfl, rfl⟩
    refine go_exec (rs := [.cell 4 61]) (by kernel_rfl) 4000 [.sp [33, 32] [.z [0, 1, 0, 0, 1, 0, 0, 1, 0, 1, 1, 1, 1, 1, 1] 3 [2, 4, 5, 6, 8, 39, 41]] [.e 5, .z [0, 0, 0, 1, 0, 0, 1, 0, 1, 1, 1, 1, 1, 1] 8 [2, 4, 5, 6, 7, 8, 33, 35, 36]]] (o := .obl ((hasN l0 l0.length i.i) = (hasN l0 l0.length i.i)) (.br (hasN l0 l0.length i.i) (.new fun b_13 => .stop [.o [0, 1, 0, 0, 1, 0, 0, 1, 0, 1, 1, 1, 1, 1, 1] 3, .b 1, .c [1, 1, 0, 0, 1, 0, 1, 1, 1, 1, 1, 1], .j J_11, .b 0, .c [1, 1, 1, 1, 1, 1, 1]] [(2, vP b_1), (4, vP b_2), (5, vP b_6), (6, vP b_10), (8, vI i.i), (39, .slice i.oa i.out.length i.oc), (41, .slice (some ⟨b_13, 0, none⟩) 1 1)] [Ee1539 b_1 c, E01d84 b_2 (.slice none 0 0) 0 0 false, Eb9532 b_6 oa_3 l0.length oc_4 0 0 false, E7a681 a c0 W, Ee1326 oa_7 oc_8 l1, Eb9532 b_10 oa_7 l1.length oc_8 0 0 false, Ee1326 i.oa i.oc i.out, Ee1326 oa_3 oc_4 l0, .pts b_13 [vI i.i] 3]) (.obl (b_10 = b_10) (.stop [.o [0, 0, 0, 1, 0, 0, 1, 0, 1, 1, 1, 1, 1, 1] 8, .c [1, 0, 0, 1, 0, 0, 1, 0, 1, 1, 1, 1, 1, 1], .b 1, .c [1, 1, 0, 0, 1, 0, 1, 1, 1, 1, 1, 1], .j J_11, .b 0, .c [1, 1, 1, 1, 1, 1, 1]] [(2, vP b_1), (4, vP b_2), (5, vP b_6), (6, vP b_10), (7, .slice i.oa i.out.length i.oc), (8, vI i.i), (33, .bool false), (35, .slice oa_7 l1.length oc_8), (36, vI i.i)] [Ee1539 b_1 c, E01d84 b_2 (.slice none 0 0) 0 0 false, Eb9532 b_6 oa_3 l0.length oc_4 0 0 false, E7a681 a c0 W, Ee1326 oa_7 oc_8 l1, Eb9532 b_10 oa_7 l1.length oc_8 0 0 false, Ee1326 i.oa i.oc i.out, Ee1326 oa_3 oc_4 l0])))) (by kernel_rfl) ?_
    refine ok_obl rfl ?_
    refine ok_br (fun h_14 => ?_) (fun h_14 => ?_)
    · skip
      refine ok_new fun b_13 => ?_
      refine ok_stop ?_
      refine go_by (some 42) (appO Try.prog _) (some (.slice i.oa (i.out).length i.oc, .slice (some ⟨b_13, 0, none⟩) 1 1, (3, 1, 8))) (R_append 6 (a := i.oa) (c := i.oc) (enc := encI .i64) (d := 0) (sz := 1) (xs := i.out) (te := 3) (by kernel_rfl) (.slice (some ⟨b_13, 0, none⟩) 1 1) [i.i] (src_pts (i := 8) (t := 3) (by kernel_rfl)) (oneI _) 8 (by simp; omega) (by simp; omega)) (by kernel_rfl) ?_
      rintro v L2 ⟨a_15, c_16, rfl, rfl⟩
      refine go_exec (rs := [.cell 4 61]) (by kernel_rfl) 4000 [.n, .z [] 0 [2, 4, 5, 6, 7, 8]] (o := .obl (InK .i64 (i.i + 1)) (.stop [.j J_11, .b 0, .c [1, 1, 1, 1, 1, 1, 1]] [(2, vP b_1), (4, vP b_2), (5, vP b_6), (6, vP b_10), (7, .slice a_15 ((i.out ++ [i.i]).length) c_16), (8, vI (i.i + 1))] [Ee1539 b_1 c, E01d84 b_2 (.slice none 0 0) 0 0 false, Eb9532 b_6 oa_3 l0.length oc_4 0 0 false, E7a681 a c0 W, Ee1326 oa_7 oc_8 l1, Eb9532 b_10 oa_7 l1.length oc_8 0 0 false, Ee1326 a_15 c_16 (i.out ++ [i.i]), Ee1326 oa_3 oc_4 l0, .pts b_13 [vI i.i] 3])) (by kernel_rfl) ?_
      refine ok_obl (by simp only [InK]; omega) ?_
      refine ok_stop ?_
      exact go_back hJ_11 (⟨(i.i + 1), (i.out ++ [i.i]), a_15, c_16⟩ : FrI) [0, 1, 7, 2, 3, 4, 5, 6] (by kernel_rfl) (by kernel_rfl) (by kernel_rfl) ⟨(by dsimp only; rw [hx.1]; first | exact (freeL_yes hx.2.1.1 (by unfold inL; simp [*])).symm | exact (freeL_no hx.2.1.1 (by unfold inL; simp [*])).symm), (by dsimp only; omega), (by dsimp only; first | omega | (simp; omega))⟩ (by dsimp only; omega)
    · skip
      refine ok_obl rfl ?_
      refine ok_stop ?_
      refine go_call (some 37) [4] Try.call22 (ref_Has oa_7 oc_8 oc_8 l1.length l1 i.i (Nat.le_refl _) (by simp only [Cfg.Ok] at hc; omega)) (by kernel_rfl) ?_
      rintro v post ⟨rfl, rfl⟩
      refine go_exec (rs := [.cell 4 61]) (by kernel_rfl) 4000 [.sp [38, 37] [.z [0, 1, 0, 0, 1, 0, 0, 1, 0, 1, 1, 1, 1, 1, 1] 3 [2, 4, 5, 6, 8, 39, 41]] [.n, .z [] 0 [2, 4, 5, 6, 7, 8]]] (o := .obl ((hasN l1 l1.length i.i) = (hasN l1 l1.length i.i)) (.br (hasN l1 l1.length i.i) (.new fun b_17 => .stop [.o [0, 1, 0, 0, 1, 0, 0, 1, 0, 1, 1, 1, 1, 1, 1] 3, .b 1, .c [1, 1, 0, 0, 1, 0, 1, 1, 1, 1, 1, 1], .j J_11, .b 0, .c [1, 1, 1, 1, 1, 1, 1]] [(2, vP b_1), (4, vP b_2), (5, vP b_6), (6, vP b_10), (8, vI i.i), (39, .slice i.oa i.out.length i.oc), (41, .slice (some ⟨b_17, 0, none⟩) 1 1)] [Ee1539 b_1 c, E01d84 b_2 (.slice none 0 0) 0 0 false, Eb9532 b_6 oa_3 l0.length oc_4 0 0 false, E7a681 a c0 W, Eb9532 b_10 oa_7 l1.length oc_8 0 0 false, Ee1326 i.oa i.oc i.out, Ee1326 oa_3 oc_4 l0, Ee1326 oa_7 oc_8 l1, .pts b_17 [vI i.i] 3]) (.obl (InK .i64 (i.i + 1)) (.stop [.j J_11, .b 0, .c [1, 1, 1, 1, 1, 1, 1]] [(2, vP b_1), (4, vP b_2), (5, vP b_6), (6, vP b_10), (7, .slice i.oa i.out.length i.oc), (8, vI (i.i + 1))] [Ee1539 b_1 c, E01d84 b_2 (.slice none 0 0) 0 0 false, Eb9532 b_6 oa_3 l0.length oc_4 0 0 false, E7a681 a c0 W, Eb9532 b_10 oa_7 l1.length oc_8 0 0 false, Ee1326 i.oa i.oc i.out, Ee1326 oa_3 oc_4 l0, Ee1326 oa_7 oc_8 l1])))) (by kernel_rfl) ?_
      refine ok_obl rfl ?_
      refine ok_br (fun h_18 => ?_) (fun h_18 => ?_)
      · skip
        refine ok_new fun b_17 => ?_
        refine ok_stop ?_
        refine go_by (some 42) (appO Try.prog _) (some (.slice i.oa (i.out).length i.oc, .slice (some ⟨b_17, 0, none⟩) 1 1, (3, 1, 8))) (R_append 5 (a := i.oa) (c := i.oc) (enc := encI .i64) (d := 0) (sz := 1) (xs := i.out) (te := 3) (by kernel_rfl) (.slice (some ⟨b_17, 0, none⟩) 1 1) [i.i] (src_pts (i := 8) (t := 3) (by kernel_rfl)) (oneI _) 8 (by simp; omega) (by simp; omega)) (by kernel_rfl) ?_
        rintro v L2 ⟨a_19, c_20, rfl, rfl⟩
        refine go_exec (rs := [.cell 4 61]) (by kernel_rfl) 4000 [.n, .z [] 0 [2, 4, 5, 6, 7, 8]] (o := .obl (InK .i64 (i.i + 1)) (.stop [.j J_11, .b 0, .c [1, 1, 1, 1, 1, 1, 1]] [(2, vP b_1), (4, vP b_2), (5, vP b_6), (6, vP b_10), (7, .slice a_19 ((i.out ++ [i.i]).length) c_20), (8, vI (i.i + 1))] [Ee1539 b_1 c, E01d84 b_2 (.slice none 0 0) 0 0 false, Eb9532 b_6 oa_3 l0.length oc_4 0 0 false, E7a681 a c0 W, Eb9532 b_10 oa_7 l1.length oc_8 0 0 false, Ee1326 a_19 c_20 (i.out ++ [i.i]), Ee1326 oa_3 oc_4 l0, Ee1326 oa_7 oc_8 l1, .pts b_17 [vI i.i] 3])) (by kernel_rfl) ?_
        refine ok_obl (by simp only [InK]; omega) ?_
        refine ok_stop ?_
        exact go_back hJ_11 (⟨(i.i + 1), (i.out ++ [i.i]), a_19, c_20⟩ : FrI) [0, 1, 6, 2, 3, 7, 4, 5] (by kernel_rfl) (by kernel_rfl) (by kernel_rfl) ⟨(by dsimp only; rw [hx.1]; first | exact (freeL_yes hx.2.1.1 (by unfold inL; simp [*])).symm | exact (freeL_no hx.2.1.1 (by unfold inL; simp [*])).symm), (by dsimp only; omega), (by dsimp only; first | omega | (simp; omega))⟩ (by dsimp only; omega)
      · skip
        refine ok_obl (by simp only [InK]; omega) ?_
        refine ok_stop ?_
        exact go_back hJ_11 (⟨(i.i + 1), i.out, i.oa, i.oc⟩ : FrI) [0, 1, 6, 2, 3, 7, 4, 5] (by kernel_rfl) (by kernel_rfl) (by kernel_rfl) ⟨(by dsimp only; rw [hx.1]; first | exact (freeL_yes hx.2.1.1 (by unfold inL; simp [*])).symm | exact (freeL_no hx.2.1.1 (by unfold inL; simp [*])).symm), (by dsimp only; omega), (by dsimp only; first | omega | (simp; omega))⟩ (by dsimp only; omega)
  · replace h_12 := decF h_12
    refine ok_obl rfl ?_
    refine ok_obl rfl ?_
    have hout : i.out = freeL l0 l1 (c.n0 + c.n1).toNat := by rw [hx.1]; congr 1; omega
    exact ret_ok (post := [E7a681 a c0 W, Ee1326 i.oa i.oc i.out]) [4, 7] (by kernel_rfl) ⟨i.oa, i.oc, (by rw [← hout]), (by rw [← hout])⟩

end Go.Proofs.Ytilaihbbollcnaa


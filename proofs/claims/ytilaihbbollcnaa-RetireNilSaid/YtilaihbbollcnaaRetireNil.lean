/- RetireNil: of no run nothing comes; of what are no blocks, or stand twice, there is none; of none there is one that looks at slots alone; for every input, no condition. -/
import Derived.Test.YtilaihbbollcnaaRtC
import Derived.Test.YtilaihbbollcnaaRows

namespace Go.Proofs.Ytilaihbbollcnaa
open Go.Sx Go.ChangeShapes Go.WideShapes Go.ChangeAt Go.RowKit
theorem Try.ownRetireNil : ownKnob Try.prog.godebug = none := by kernel_rfl
theorem Try.laidRetireNil : laidOutB Try.prog = true := by kernel_rfl
theorem int_of (row : List Value) (h : FitsAll [.int .i64] row) : ∃ x : Int, row = encI .i64 x ∧ (Lit.int .i64 x).wf = true := by
  have hl := h.len
  match row, hl with
  | [_], _ =>
    obtain ⟨h0, _⟩ := h
    obtain ⟨x, rfl, hw⟩ := h0
    exact ⟨x, rfl, hw⟩
theorem in_wf {xs : List Int} (h : ∀ x ∈ xs, (Lit.int .i64 x).wf = true) : ∀ j, InK .i64 (xs.getD j 0) := by
  intro j
  by_cases hj : j < xs.length
  · have := h (xs.getD j 0) (by rw [List.getD_eq_getElem?_getD, List.getElem?_eq_getElem hj]; exact List.getElem_mem _)
    generalize xs.getD j 0 = x at this
    simp [Lit.wf, IntKind.min, IntKind.max, IntKind.signed, IntKind.bits] at this
    simp only [InK]; omega
  · rw [List.getD_eq_getElem?_getD, List.getElem?_eq_none (by omega)]
    simp [InK]

set_option maxRecDepth 100000 in
theorem liftedRetireNil (os : Os) (started : os.Started) (H : Type) (enc : TypeId × Value → H) :
    ReturnsInHanded {} Try.checked os 4 .any (Rows.retireNilSpec.pre6 enc Try.prog Try.f4 Rows.retireNilRow.domain false) (Rows.retireNilSpec.post enc Try.prog Try.f4 false true false false) := by
  refine returnsInHanded_of_change (C := Try.checked) Try.ownRetireNil started (by kernel_rfl) Try.func4
    (ChangeSpec.witness6 (enc := enc) (C := Try.checked) false ⟨#[], #[.slice none 0 0, .int .i64 0], []⟩ 8 (by kernel_rfl) (by kernel_rfl) (by kernel_rfl) (by kernel_rfl)) ?_
  intro W base args ds gs before hval0 hW hcnd _
  have hval : ∀ (j : Nat) t v, Try.f4.params[j]? = some t → args[j]? = some v → Value.okWide Try.prog W .any base t v := hval0
  have hW' := hW
  obtain ⟨p, q, hA0, hV, rfl, hfz, hnd⟩ := hW
  have hA : DataW.TrodAll enc Try.prog W 0 (fun _ => true) true Try.f4.params.toList args.toList ds p := hA0
  have hA2 := hA
  rw [Try.params4] at hA hval
  obtain ⟨v0, v1, d0, d1, p0, p1, rfl, rfl, rfl, h0, h1⟩ := trodAll_two hA
  obtain ⟨rfl, rfl⟩ := trodVars_none hV
  obtain ⟨a0, c0, xs0, bt0, r0, foot0, rfl, hl0, hm0, hd0, hfit0, _, hpin0⟩ := open_rd (sizedI .i64) (d := 5) (d0 := (0 : Int)) (sz := 1) (ks := [.int .i64]) Try.underlying48 (by kernel_rfl) (by kernel_rfl) (by decide) int_of (hval 0 48 v0 rfl rfl) h0
  obtain ⟨q1, rfl, rfl, rfl, w1⟩ := open_int Try.underlying3 (hval 1 3 v1 rfl rfl) h1
  clear hA0 hval0
  simp only [List.append_nil] at hW' hA2
  refine (law_calls (law_nil q1 a0 c0 xs0 bt0 r0 (in_wf hl0.2) hl0.1) (foot := foot0) (dens_sing hd0) hfit0 (dens_pin hpin0)).mono fun e W' ⟨he, hb⟩ => ?_
  subst he
  exact ⟨_, rfl, law_post hW' (fun _ _ _ => trodAll_mk1 (shut_bool Try.underlying4 _)) (fun sp hs => stays_list Try.laidRetireNil hb (by kernel_rfl) hA2 (fun x hx => hW'.lt x hx) hs) (fun _ => rfl) hb (ok_one (by kernel_rfl) rfl (okWide_bool_mk Try.underlying4 _))⟩

theorem RetireNil_holds : Rows.RetireNilSaid :=
  OpenClaim.holds_of_wide 4 Try.f4 rfl rfl rfl rfl rfl rfl rfl ⟨rfl, rfl, rfl, rfl, rfl⟩ rfl rfl rfl rfl rfl (by kernel_rfl) Try.func4 (by kernel_rfl)
    (of_decide_eq_true (by kernel_rfl)) (by unfold Func.isWrapper; first | (rw [if_pos (by decide +kernel)]; kernel_rfl) | (rw [if_neg (by decide +kernel)]; exact ⟨rfl, rfl⟩))
    (fun os started H enc _ => liftedRetireNil os started H enc)
#print axioms RetireNil_holds
end Go.Proofs.Ytilaihbbollcnaa

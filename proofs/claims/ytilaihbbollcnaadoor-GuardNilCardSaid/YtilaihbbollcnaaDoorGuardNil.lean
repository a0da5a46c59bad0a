/- GuardNil: of no run nothing comes; of what there is not, there is none: for every input, no condition. -/
import Derived.Test.YtilaihbbollcnaaDoorRtC
import Derived.Test.YtilaihbbollcnaaDoorCards
import Derived.Test.YtilaihbbollcnaaDoorTie
namespace Go.Proofs.YtilaihbbollcnaaDoor
open Go.Sx Go.ChangeShapes Go.WideShapes Go.ChangeAt Go.RowKit
theorem four_of {cs : Array Value} (h : FitsAll [.int .i64, .int .i64, .int .i64, .int .i64] cs.toList) : ∃ x y z u, cs = #[.int .i64 x, .int .i64 y, .int .i64 z, .int .i64 u] := by
  obtain ⟨l⟩ := cs
  have hl := h.len
  match l, hl with
  | [_, _, _, _], _ =>
    obtain ⟨h0, h1, h2, h3, _⟩ := h
    obtain ⟨x, rfl, _⟩ := h0
    obtain ⟨y, rfl, _⟩ := h1
    obtain ⟨z, rfl, _⟩ := h2
    obtain ⟨u, rfl, _⟩ := h3
    exact ⟨x, y, z, u, rfl⟩

set_option maxRecDepth 100000 in
theorem liftedGuardNil (os : Os) (started : os.Started) (H : Type) (enc : TypeId × Value → H) :
    ReturnsInHanded {} Tryd.checked os 4 .any (fun w args => (Rows.guardNilSpec.pre enc Tryd.prog Tryd.f4 [] false w args ∧ laidMetH Tryd.prog [("errors.errorType", Rows.laid_errors_errorType)] w) ∧ sizedMet enc Tryd.prog Tryd.f4 (OpenSpec.ofChange Rows.guardNilSpec) false w args) (Rows.guardNilSpec.post enc Tryd.prog Tryd.f4 false true false false) := by
  refine returnsInHanded_of_change_and (C := Tryd.checked) (X := fun w _ => laidMetH Tryd.prog [("errors.errorType", Rows.laid_errors_errorType)] w) (fun _ _ _ hh h => h.of_heap hh) Tryd.own started (by kernel_rfl) Tryd.func4
    (ChangeSpec.witness_at (enc := enc) (C := Tryd.checked) (os := os) (X := fun w _ => laidMetH Tryd.prog [("errors.errorType", Rows.laid_errors_errorType)] w) false (laidWorld os) #[.agg #[.int .i64 0, .int .i64 0, .int .i64 0, .int .i64 0]] 8 rfl (by kernel_rfl) (by kernel_rfl) (by kernel_rfl) (by kernel_rfl) (by kernel_rfl) (laidWorld_met os _)) ?_
  intro W base args ds gs before hval0 hW _ _ hL _
  obtain ⟨o_, ho, hO⟩ := handle_of_laid hL
  have hval : ∀ (j : Nat) t v, Tryd.f4.params[j]? = some t → args[j]? = some v → Value.okWide Tryd.prog W .any base t v := hval0
  have hW' := hW
  obtain ⟨p, q, hA0, hV, rfl, hfz, hnd⟩ := hW
  have hA : DataW.TrodAll enc Tryd.prog W 0 (fun _ => true) true Tryd.f4.params.toList args.toList ds p := hA0
  have hA2 := hA
  rw [Tryd.params4] at hA hval
  obtain ⟨v0, d0, rfl, rfl, h0⟩ := trodAll_one hA
  obtain ⟨rfl, rfl⟩ := trodVars_none hV
  obtain ⟨cs0, rfl, hcs0⟩ := open_flat 5 (ks := [.int .i64, .int .i64, .int .i64, .int .i64]) (by kernel_rfl) (by kernel_rfl) (hval 0 52 v0 rfl rfl) h0
  obtain ⟨q0, q1, q2, q3, rfl⟩ := four_of hcs0
  clear hA0 hval0
  simp only [List.append_nil] at hW' hA2
  refine (law_calls (law_gnil o_ q0 q1 q2 q3 ho) (foot := [(0, o_)]) (dens_h o_) (foot_h hO) (pin_h o_)).mono fun e W' ⟨he, hb⟩ => ?_
  subst he
  exact ⟨_, rfl, law_post hW' (fun _ _ _ => trodAll_mk1 (shut_bool Tryd.underlying4 _)) (fun sp hs => stays_list Tryd.laidOutP hb (by kernel_rfl) hA2 (fun x hx => hW'.lt x hx) hs) (fun _ => rfl) hb (ok_one (by kernel_rfl) rfl (okWide_bool_mk Tryd.underlying4 _))⟩
theorem GuardNil_row : Rows.GuardNilSaid :=
  OpenClaim.holds_of_wide 4 Tryd.f4 rfl rfl rfl rfl rfl rfl rfl ⟨rfl, rfl, rfl, rfl, rfl⟩ rfl rfl rfl rfl rfl (by kernel_rfl) Tryd.func4 (by kernel_rfl)
    (of_decide_eq_true (by kernel_rfl)) (by unfold Func.isWrapper; first | (rw [if_pos (by decide +kernel)]; kernel_rfl) | (rw [if_neg (by decide +kernel)]; exact ⟨rfl, rfl⟩))
    (fun os started H enc _ => liftedGuardNil os started H enc)
theorem GuardNil_holds : Rows.GuardNilCardSaid :=
  Claim7.holds_tied_plain_at .later [] [.handle] true (true, "3fc2723fd6ef9f8a9114adad4acd7a31fb125393576837e7c542742c6fa54a78") true
    GuardNil_row (fun _ h => by cases h) (by kernel_rfl) (fun _ h => by cases h) guardNil_row_tie rfl ⟨rfl, rfl⟩ (by kernel_rfl) rfl
    (fun f fn hf hfn => by
      obtain rfl : f = 4 := Option.some.inj ((show Tryd.prog.funcNamed "intaglio/intagliolaw14.GuardNil" = some 4 by kernel_rfl).symm.trans hf) |>.symm
      obtain rfl : fn = Tryd.f4 := (Option.some.inj (Tryd.func4.symm.trans hfn)).symm
      exact ⟨by kernel_rfl, fun j t ht => by
        rw [Tryd.params4] at ht
        have hm : t ∈ [52] := by have h := Array.mem_of_getElem? ht; simp only [List.mem_toArray, List.mem_cons, List.not_mem_nil, or_false] at h ⊢; omega
        have hall : ([52].all fun u => !Tryd.prog.wantsStandIn u) = true := by kernel_rfl
        exact (show Tryd.prog.wantsStandIn t = false by simpa using List.all_eq_true.1 hall t hm)⟩)
    (by kernel_rfl)
#print axioms GuardNil_holds
end Go.Proofs.YtilaihbbollcnaaDoor

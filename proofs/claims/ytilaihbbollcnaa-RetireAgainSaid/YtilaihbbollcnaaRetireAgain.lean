/- RetireAgain: what a scan kept is given back by one behind it, once nobody names it, and then all that was retired is free, each block once; for every input, no condition. -/
import Derived.Test.YtilaihbbollcnaaRtD
import Derived.Test.YtilaihbbollcnaaRows

namespace Go.Proofs.Ytilaihbbollcnaa
open Go.Sx Go.ChangeShapes Go.WideShapes Go.ChangeAt Go.RowKit
theorem Try.ownRetireAgain : ownKnob Try.prog.godebug = none := by kernel_rfl
theorem Try.laidRetireAgain : laidOutB Try.prog = true := by kernel_rfl
theorem qs_of {cs : Array Value} (h : FitsAll [.int .i64, .int .i64, .int .i64, .int .i64, .int .i64, .int .i64, .int .i64] cs.toList) : ∃ q : Qs, cs = #[.int .i64 q.slots, .int .i64 q.bits, .int .i64 q.others, .int .i64 q.m0, .int .i64 q.m1, .int .i64 q.m2, .int .i64 q.m3] := by
  obtain ⟨l⟩ := cs
  have hl := h.len
  match l, hl with
  | [_, _, _, _, _, _, _], _ =>
    obtain ⟨h0, h1, h2, h3, h4, h5, h6, _⟩ := h
    obtain ⟨a, rfl, _⟩ := h0
    obtain ⟨b, rfl, _⟩ := h1
    obtain ⟨c, rfl, _⟩ := h2
    obtain ⟨d, rfl, _⟩ := h3
    obtain ⟨e, rfl, _⟩ := h4
    obtain ⟨f, rfl, _⟩ := h5
    obtain ⟨g, rfl, _⟩ := h6
    exact ⟨⟨a, b, c, d, e, f, g⟩, rfl⟩

set_option maxRecDepth 100000 in
theorem liftedRetireAgain (os : Os) (started : os.Started) (H : Type) (enc : TypeId × Value → H) :
    ReturnsInHanded {} Try.checked os 5 .any (Rows.retireAgainSpec.pre6 enc Try.prog Try.f5 Rows.retireAgainRow.domain false) (Rows.retireAgainSpec.post enc Try.prog Try.f5 false true false false) := by
  refine returnsInHanded_of_change (C := Try.checked) Try.ownRetireAgain started (by kernel_rfl) Try.func5
    (ChangeSpec.witness6 (enc := enc) (C := Try.checked) false ⟨#[], #[.agg #[.int .i64 0, .int .i64 0, .int .i64 0, .int .i64 0, .int .i64 0, .int .i64 0, .int .i64 0]], []⟩ 8 (by kernel_rfl) (by kernel_rfl) (by kernel_rfl) (by kernel_rfl)) ?_
  intro W base args ds gs before hval0 hW hcnd _
  have hval : ∀ (j : Nat) t v, Try.f5.params[j]? = some t → args[j]? = some v → Value.okWide Try.prog W .any base t v := hval0
  have hW' := hW
  obtain ⟨p, q, hA0, hV, rfl, hfz, hnd⟩ := hW
  have hA : DataW.TrodAll enc Try.prog W 0 (fun _ => true) true Try.f5.params.toList args.toList ds p := hA0
  have hA2 := hA
  rw [Try.params5] at hA hval
  obtain ⟨v0, d0, rfl, rfl, h0⟩ := trodAll_one hA
  obtain ⟨rfl, rfl⟩ := trodVars_none hV
  obtain ⟨cs0, rfl, hcs0⟩ := open_flat 5 (ks := [.int .i64, .int .i64, .int .i64, .int .i64, .int .i64, .int .i64, .int .i64]) (by kernel_rfl) (by kernel_rfl) (hval 0 24 v0 rfl rfl) h0
  obtain ⟨q0, rfl⟩ := qs_of hcs0
  clear hA0 hval0
  simp only [List.append_nil] at hW' hA2
  refine (law_calls (law_again q0) (foot := []) rfl fits_nil (fun g _ p hp => by cases hp)).mono fun e W' ⟨he, hb⟩ => ?_
  subst he
  exact ⟨_, rfl, law_post hW' (fun _ _ _ => trodAll_mk1 (shut_bool Try.underlying4 _)) (fun sp hs => stays_list Try.laidRetireAgain hb (by kernel_rfl) hA2 (fun x hx => hW'.lt x hx) hs) (fun _ => rfl) hb (ok_one (by kernel_rfl) rfl (okWide_bool_mk Try.underlying4 _))⟩

theorem RetireAgain_holds : Rows.RetireAgainSaid :=
  OpenClaim.holds_of_wide 5 Try.f5 rfl rfl rfl rfl rfl rfl rfl ⟨rfl, rfl, rfl, rfl, rfl⟩ rfl rfl rfl rfl rfl (by kernel_rfl) Try.func5 (by kernel_rfl)
    (of_decide_eq_true (by kernel_rfl)) (by unfold Func.isWrapper; first | (rw [if_pos (by decide +kernel)]; kernel_rfl) | (rw [if_neg (by decide +kernel)]; exact ⟨rfl, rfl⟩))
    (fun os started H enc _ => liftedRetireAgain os started H enc)
#print axioms RetireAgain_holds
end Go.Proofs.Ytilaihbbollcnaa

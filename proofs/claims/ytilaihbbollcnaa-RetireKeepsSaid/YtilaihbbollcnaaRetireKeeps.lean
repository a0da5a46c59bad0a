/- RetireKeeps: a given block stood in no slot since the scan began, and a kept one is not free: for every input, no condition. -/
import Derived.Test.YtilaihbbollcnaaRtD
import Derived.Test.YtilaihbbollcnaaRows

namespace Go.Proofs.Ytilaihbbollcnaa
open Go.Sx Go.ChangeShapes Go.WideShapes Go.ChangeAt Go.RowKit
theorem Try.ownRetireKeeps : ownKnob Try.prog.godebug = none := by kernel_rfl
theorem Try.laidRetireKeeps : laidOutB Try.prog = true := by kernel_rfl
theorem act_of (row : List Value) (h : FitsAll [.int .i64, .int .i64, .int .i64] row) : ∃ x : ActT, row = encAct x ∧ True := by
  have hl := h.len
  match row, hl with
  | [_, _, _], _ =>
    obtain ⟨h0, h1, h2, _⟩ := h
    obtain ⟨x, rfl, _⟩ := h0
    obtain ⟨y, rfl, _⟩ := h1
    obtain ⟨z, rfl, _⟩ := h2
    exact ⟨⟨x, y, z⟩, rfl, trivial⟩
theorem qs_of {cs : Array Value} (h : FitsAll [.int .i64, .int .i64, .int .i64, .int .i64, .int .i64, .int .i64, .int .i64] cs.toList) : ∃ q : Qs, cs = #[.int .i64 q.slots, .int .i64 q.bits, .int .i64 q.others, .int .i64 q.m0, .int .i64 q.m1, .int .i64 q.m2, .int .i64 q.m3] := by
  obtain ⟨l⟩ := cs
  have hl := h.len
  match l, hl with
  | [_, _, _, _, _, _, _], _ =>
    obtain ⟨h0, h1, h2, h3, h4, h5, h6, _⟩ := h
    obtain ⟨a, rfl, _⟩ := h0
    obtain ⟨b, rfl, _⟩ := h1
    obtain ⟨c, rfl, _⟩ := h2
    obtain ⟨d, rfl, _⟩ := h3
    obtain ⟨e, rfl, _⟩ := h4
    obtain ⟨f, rfl, _⟩ := h5
    obtain ⟨g, rfl, _⟩ := h6
    exact ⟨⟨a, b, c, d, e, f, g⟩, rfl⟩

set_option maxRecDepth 100000 in
theorem liftedRetireKeeps (os : Os) (started : os.Started) (H : Type) (enc : TypeId × Value → H) :
    ReturnsInHanded {} Try.checked os 3 .any (Rows.retireKeepsSpec.pre6 enc Try.prog Try.f3 Rows.retireKeepsRow.domain false) (Rows.retireKeepsSpec.post enc Try.prog Try.f3 false true false false) := by
  refine returnsInHanded_of_change (C := Try.checked) Try.ownRetireKeeps started (by kernel_rfl) Try.func3
    (ChangeSpec.witness6 (enc := enc) (C := Try.checked) false ⟨#[], #[.agg #[.int .i64 0, .int .i64 0, .int .i64 0, .int .i64 0, .int .i64 0, .int .i64 0, .int .i64 0], .slice none 0 0], []⟩ 8 (by kernel_rfl) (by kernel_rfl) (by kernel_rfl) (by kernel_rfl)) ?_
  intro W base args ds gs before hval0 hW hcnd _
  have hval : ∀ (j : Nat) t v, Try.f3.params[j]? = some t → args[j]? = some v → Value.okWide Try.prog W .any base t v := hval0
  have hW' := hW
  obtain ⟨p, q, hA0, hV, rfl, hfz, hnd⟩ := hW
  have hA : DataW.TrodAll enc Try.prog W 0 (fun _ => true) true Try.f3.params.toList args.toList ds p := hA0
  have hA2 := hA
  rw [Try.params3] at hA hval
  obtain ⟨v0, v1, d0, d1, p0, p1, rfl, rfl, rfl, h0, h1⟩ := trodAll_two hA
  obtain ⟨rfl, rfl⟩ := trodVars_none hV
  obtain ⟨cs0, rfl, hcs0⟩ := open_flat 5 (ks := [.int .i64, .int .i64, .int .i64, .int .i64, .int .i64, .int .i64, .int .i64]) (by kernel_rfl) (by kernel_rfl) (hval 0 24 v0 rfl rfl) h0
  obtain ⟨q0, rfl⟩ := qs_of hcs0
  obtain ⟨a1, c1, xs1, bt1, r1, foot1, rfl, hl1, hm1, hd1, hfit1, _, hpin1⟩ := open_rd sized_encAct (d := 5) (d0 := dAct) (sz := 3) (ks := [.int .i64, .int .i64, .int .i64]) Try.underlying25 (by kernel_rfl) (by kernel_rfl) (by decide) act_of (hval 1 25 v1 rfl rfl) h1
  clear hA0 hval0
  simp only [List.append_nil] at hW' hA2
  refine (law_calls (law_keeps q0 a1 c1 xs1 bt1 r1) (foot := foot1) (dens_sing hd1) hfit1 (dens_pin hpin1)).mono fun e W' ⟨he, hb⟩ => ?_
  subst he
  exact ⟨_, rfl, law_post hW' (fun _ _ _ => trodAll_mk1 (shut_bool Try.underlying4 _)) (fun sp hs => stays_list Try.laidRetireKeeps hb (by kernel_rfl) hA2 (fun x hx => hW'.lt x hx) hs) (fun _ => rfl) hb (ok_one (by kernel_rfl) rfl (okWide_bool_mk Try.underlying4 _))⟩

theorem RetireKeeps_holds : Rows.RetireKeepsSaid :=
  OpenClaim.holds_of_wide 3 Try.f3 rfl rfl rfl rfl rfl rfl rfl ⟨rfl, rfl, rfl, rfl, rfl⟩ rfl rfl rfl rfl rfl (by kernel_rfl) Try.func3 (by kernel_rfl)
    (of_decide_eq_true (by kernel_rfl)) (by unfold Func.isWrapper; first | (rw [if_pos (by decide +kernel)]; kernel_rfl) | (rw [if_neg (by decide +kernel)]; exact ⟨rfl, rfl⟩))
    (fun os started H enc _ => liftedRetireKeeps os started H enc)
#print axioms RetireKeeps_holds
end Go.Proofs.Ytilaihbbollcnaa

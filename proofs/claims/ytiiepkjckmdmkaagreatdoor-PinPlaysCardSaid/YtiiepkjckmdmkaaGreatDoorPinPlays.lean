/- PinPlays: two runs go on step by step as the document says, whatever becomes of the control word, and of slots, between their steps: for every input, no condition. -/
import Derived.Test.YtiiepkjckmdmkaaGreatDoorRtD
import Derived.Test.YtiiepkjckmdmkaaGreatDoorCards
import Derived.Test.YtiiepkjckmdmkaaGreatDoorTie
namespace Go.Proofs.YtiiepkjckmdmkaaGreatDoor
open Go.Sx Go.ChangeShapes Go.WideShapes Go.ChangeAt Go.RowKit
theorem two_of {cs : Array Value} (h : FitsAll [.int .i64, .int .i64] cs.toList) : ∃ x y, cs = #[.int .i64 x, .int .i64 y] := by
  obtain ⟨l⟩ := cs
  have hl := h.len
  match l, hl with
  | [_, _], _ =>
    obtain ⟨h0, h1, _⟩ := h
    obtain ⟨x, rfl, _⟩ := h0
    obtain ⟨y, rfl, _⟩ := h1
    exact ⟨x, y, rfl⟩
theorem pact_of (row : List Value) (h : FitsAll [.int .i64, .int .i64, .int .i64, .int .i64, .bool] row) : ∃ x : PActT, row = encPAct x ∧ True := by
  have hl := h.len
  match row, hl with
  | [_, _, _, _, _], _ =>
    obtain ⟨h0, h1, h2, h3, h4, _⟩ := h
    obtain ⟨a, rfl, _⟩ := h0
    obtain ⟨b, rfl, _⟩ := h1
    obtain ⟨c, rfl, _⟩ := h2
    obtain ⟨d, rfl, _⟩ := h3
    obtain ⟨e, rfl⟩ := h4
    exact ⟨⟨a, ⟨b, c, d, e⟩⟩, rfl, trivial⟩

set_option maxRecDepth 100000 in
theorem liftedPinPlays (os : Os) (started : os.Started) (H : Type) (enc : TypeId × Value → H) :
    ReturnsInHanded {} Tryz.checked os 5 .any (fun w args => (Rows.pinPlaysSpec.pre enc Tryz.prog Tryz.f5 [] false w args ∧ laidMetH Tryz.prog [("errors.errorType", Rows.laid_errors_errorType)] w) ∧ sizedMet enc Tryz.prog Tryz.f5 (OpenSpec.ofChange Rows.pinPlaysSpec) false w args) (Rows.pinPlaysSpec.post enc Tryz.prog Tryz.f5 false true false false) := by
  refine returnsInHanded_of_change_and (C := Tryz.checked) (X := fun w _ => laidMetH Tryz.prog [("errors.errorType", Rows.laid_errors_errorType)] w) (fun _ _ _ hh h => h.of_heap hh) Tryz.own started (by kernel_rfl) Tryz.func5
    (ChangeSpec.witness_at (enc := enc) (C := Tryz.checked) (os := os) (X := fun w _ => laidMetH Tryz.prog [("errors.errorType", Rows.laid_errors_errorType)] w) false (laidWorld os) #[.agg #[.int .i64 0, .int .i64 0], .slice none 0 0] 8 rfl (by kernel_rfl) (by kernel_rfl) (by kernel_rfl) (by kernel_rfl) (by kernel_rfl) (laidWorld_met os _)) ?_
  intro W base args ds gs before hval0 hW _ _ hL _
  obtain ⟨o_, ho, hO⟩ := handle_of_laid hL
  have hval : ∀ (j : Nat) t v, Tryz.f5.params[j]? = some t → args[j]? = some v → Value.okWide Tryz.prog W .any base t v := hval0
  have hW' := hW
  obtain ⟨p, q, hA0, hV, rfl, hfz, hnd⟩ := hW
  have hA : DataW.TrodAll enc Tryz.prog W 0 (fun _ => true) true Tryz.f5.params.toList args.toList ds p := hA0
  have hA2 := hA
  rw [Tryz.params5] at hA hval
  obtain ⟨v0, v1, d0, d1, p0, p1, rfl, rfl, rfl, h0, h1⟩ := trodAll_two hA
  obtain ⟨rfl, rfl⟩ := trodVars_none hV
  obtain ⟨cs0, rfl, hcs0⟩ := open_flat 5 (ks := [.int .i64, .int .i64]) (by kernel_rfl) (by kernel_rfl) (hval 0 31 v0 rfl rfl) h0
  obtain ⟨q0, q1, rfl⟩ := two_of hcs0
  obtain ⟨a1, c1, xs1, bt1, r1, foot1, rfl, hl1, hd1, hfit1, hne1, hpin1⟩ := open_rd2 sized_encPAct (d := 5) (d0 := dPAct) (sz := 5) (ks := [.int .i64, .int .i64, .int .i64, .int .i64, .bool]) Tryz.underlying52 (by kernel_rfl) (by kernel_rfl) (by decide) pact_of (hval 1 52 v1 rfl rfl) h1
  clear hA0 hval0
  simp only [List.append_nil] at hW' hA2
  refine (law_calls (law_pplays o_ q0 q1 a1 c1 xs1 bt1 r1 ho) (foot := (0, o_) :: foot1) (dens_hr hd1) (foot_hr hO hfit1 (apart_h ho hO hd1 hfit1 hne1 (by decide))) (pin_hr hpin1)).mono fun e W' ⟨he, hb⟩ => ?_
  subst he
  exact ⟨_, rfl, law_post hW' (fun _ _ _ => trodAll_mk1 (shut_bool Tryz.underlying4 _)) (fun sp hs => stays_list Tryz.laidOutP hb (by kernel_rfl) hA2 (fun x hx => hW'.lt x hx) hs) (fun _ => rfl) hb (ok_one (by kernel_rfl) rfl (okWide_bool_mk Tryz.underlying4 _))⟩
theorem PinPlays_row : Rows.PinPlaysSaid :=
  OpenClaim.holds_of_wide 5 Tryz.f5 rfl rfl rfl rfl rfl rfl rfl ⟨rfl, rfl, rfl, rfl, rfl⟩ rfl rfl rfl rfl rfl (by kernel_rfl) Tryz.func5 (by kernel_rfl)
    (of_decide_eq_true (by kernel_rfl)) (by unfold Func.isWrapper; first | (rw [if_pos (by decide +kernel)]; kernel_rfl) | (rw [if_neg (by decide +kernel)]; exact ⟨rfl, rfl⟩))
    (fun os started H enc _ => liftedPinPlays os started H enc)
theorem PinPlays_holds : Rows.PinPlaysCardSaid :=
  Claim7.holds_tied_plain_at .later [] [.handle] true (true, "2ae583f1889be8e9f91fdb46c488825f46ceb7c84d093b83557bb3a31ae530ce") true
    PinPlays_row (fun _ h => by cases h) (by kernel_rfl) (fun _ h => by cases h) pinPlays_row_tie rfl ⟨rfl, rfl⟩ (by kernel_rfl) rfl
    (fun f fn hf hfn => by
      obtain rfl : f = 5 := Option.some.inj ((show Tryz.prog.funcNamed "intaglio/intagliolaw18.PinPlays" = some 5 by kernel_rfl).symm.trans hf) |>.symm
      obtain rfl : fn = Tryz.f5 := (Option.some.inj (Tryz.func5.symm.trans hfn)).symm
      exact ⟨by kernel_rfl, fun j t ht => by
        rw [Tryz.params5] at ht
        have hm : t ∈ [31, 52] := by have h := Array.mem_of_getElem? ht; simp only [List.mem_toArray, List.mem_cons, List.not_mem_nil, or_false] at h ⊢; omega
        have hall : ([31, 52].all fun u => !Tryz.prog.wantsStandIn u) = true := by kernel_rfl
        exact (show Tryz.prog.wantsStandIn t = false by simpa using List.all_eq_true.1 hall t hm)⟩)
    (by kernel_rfl)
#print axioms PinPlays_holds
end Go.Proofs.YtiiepkjckmdmkaaGreatDoor

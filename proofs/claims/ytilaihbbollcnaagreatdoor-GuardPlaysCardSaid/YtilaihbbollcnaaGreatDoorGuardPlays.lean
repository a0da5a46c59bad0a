/- GuardPlays: a run goes on step by step as the document says, whatever becomes of the control word between its steps: for every input, no condition. -/
import Derived.Test.YtilaihbbollcnaaGreatDoorRtD
import Derived.Test.YtilaihbbollcnaaGreatDoorCards
import Derived.Test.YtilaihbbollcnaaGreatDoorTie
namespace Go.Proofs.YtilaihbbollcnaaGreatDoor
open Go.Sx Go.ChangeShapes Go.WideShapes Go.ChangeAt Go.RowKit
theorem two_of {cs : Array Value} (h : FitsAll [.int .i64, .int .i64] cs.toList) : ∃ x y, cs = #[.int .i64 x, .int .i64 y] := by
  obtain ⟨l⟩ := cs
  have hl := h.len
  match l, hl with
  | [_, _], _ =>
    obtain ⟨h0, h1, _⟩ := h
    obtain ⟨x, rfl, _⟩ := h0
    obtain ⟨y, rfl, _⟩ := h1
    exact ⟨x, y, rfl⟩
theorem ctl_of {cs : Array Value} (h : FitsAll [.int .i64, .int .i64, .int .i64, .bool, .bool] cs.toList) : ∃ e g k l b, cs = #[.int .i64 e, .int .i64 g, .int .i64 k, .bool l, .bool b] := by
  obtain ⟨l⟩ := cs
  have hl := h.len
  match l, hl with
  | [_, _, _, _, _], _ =>
    obtain ⟨h0, h1, h2, h3, h4, _⟩ := h
    obtain ⟨e, rfl, _⟩ := h0
    obtain ⟨g, rfl, _⟩ := h1
    obtain ⟨k, rfl, _⟩ := h2
    obtain ⟨l, rfl⟩ := h3
    obtain ⟨b, rfl⟩ := h4
    exact ⟨e, g, k, l, b, rfl⟩
theorem gact_of (row : List Value) (h : FitsAll [.int .i64, .int .i64, .int .i64, .int .i64, .bool, .bool] row) : ∃ x : GActT, row = encGAct x ∧ True := by
  have hl := h.len
  match row, hl with
  | [_, _, _, _, _, _], _ =>
    obtain ⟨h0, h1, h2, h3, h4, h5, _⟩ := h
    obtain ⟨a, rfl, _⟩ := h0
    obtain ⟨b, rfl, _⟩ := h1
    obtain ⟨c, rfl, _⟩ := h2
    obtain ⟨d, rfl, _⟩ := h3
    obtain ⟨e, rfl⟩ := h4
    obtain ⟨f, rfl⟩ := h5
    exact ⟨⟨a, ⟨b, c, d, e, f⟩⟩, rfl, trivial⟩

set_option maxRecDepth 100000 in
theorem liftedGuardPlays (os : Os) (started : os.Started) (H : Type) (enc : TypeId × Value → H) :
    ReturnsInHanded {} Tryz.checked os 3 .any (fun w args => (Rows.guardPlaysSpec.pre enc Tryz.prog Tryz.f3 [] false w args ∧ laidMetH Tryz.prog [("errors.errorType", Rows.laid_errors_errorType)] w) ∧ sizedMet enc Tryz.prog Tryz.f3 (OpenSpec.ofChange Rows.guardPlaysSpec) false w args) (Rows.guardPlaysSpec.post enc Tryz.prog Tryz.f3 false true false false) := by
  refine returnsInHanded_of_change_and (C := Tryz.checked) (X := fun w _ => laidMetH Tryz.prog [("errors.errorType", Rows.laid_errors_errorType)] w) (fun _ _ _ hh h => h.of_heap hh) Tryz.own started (by kernel_rfl) Tryz.func3
    (ChangeSpec.witness_at (enc := enc) (C := Tryz.checked) (os := os) (X := fun w _ => laidMetH Tryz.prog [("errors.errorType", Rows.laid_errors_errorType)] w) false (laidWorld os) #[.agg #[.int .i64 0, .int .i64 0], .agg #[.int .i64 0, .int .i64 0, .int .i64 0, .bool false, .bool false], .slice none 0 0] 8 rfl (by kernel_rfl) (by kernel_rfl) (by kernel_rfl) (by kernel_rfl) (by kernel_rfl) (laidWorld_met os _)) ?_
  intro W base args ds gs before hval0 hW _ _ hL _
  obtain ⟨o_, ho, hO⟩ := handle_of_laid hL
  have hval : ∀ (j : Nat) t v, Tryz.f3.params[j]? = some t → args[j]? = some v → Value.okWide Tryz.prog W .any base t v := hval0
  have hW' := hW
  obtain ⟨p, q, hA0, hV, rfl, hfz, hnd⟩ := hW
  have hA : DataW.TrodAll enc Tryz.prog W 0 (fun _ => true) true Tryz.f3.params.toList args.toList ds p := hA0
  have hA2 := hA
  rw [Tryz.params3] at hA hval
  obtain ⟨v0, v1, v2, d0, d1, d2, p0, p1, p2, rfl, rfl, rfl, h0, h1, h2⟩ := trodAll_three hA
  obtain ⟨rfl, rfl⟩ := trodVars_none hV
  obtain ⟨cs0, rfl, hcs0⟩ := open_flat 5 (ks := [.int .i64, .int .i64]) (by kernel_rfl) (by kernel_rfl) (hval 0 22 v0 rfl rfl) h0
  obtain ⟨q0, q1, rfl⟩ := two_of hcs0
  obtain ⟨cs1, rfl, hcs1⟩ := open_flat 5 (ks := [.int .i64, .int .i64, .int .i64, .bool, .bool]) (by kernel_rfl) (by kernel_rfl) (hval 1 24 v1 rfl rfl) h1
  obtain ⟨e1, g1, k1, l1, b1, rfl⟩ := ctl_of hcs1
  obtain ⟨a2, c2, xs2, bt2, r2, foot2, rfl, hl2, hd2, hfit2, hne2, hpin2⟩ := open_rd2 sized_encGAct (d := 5) (d0 := dGAct) (sz := 6) (ks := [.int .i64, .int .i64, .int .i64, .int .i64, .bool, .bool]) Tryz.underlying25 (by kernel_rfl) (by kernel_rfl) (by decide) gact_of (hval 2 25 v2 rfl rfl) h2
  clear hA0 hval0
  simp only [List.append_nil] at hW' hA2
  refine (law_calls (law_gplays o_ q0 q1 e1 g1 k1 l1 b1 a2 c2 xs2 bt2 r2 ho) (foot := (0, o_) :: foot2) (dens_hr hd2) (foot_hr hO hfit2 (apart_h ho hO hd2 hfit2 hne2 (by decide))) (pin_hr hpin2)).mono fun e W' ⟨he, hb⟩ => ?_
  subst he
  exact ⟨_, rfl, law_post hW' (fun _ _ _ => trodAll_mk1 (shut_bool Tryz.underlying4 _)) (fun sp hs => stays_list Tryz.laidOutP hb (by kernel_rfl) hA2 (fun x hx => hW'.lt x hx) hs) (fun _ => rfl) hb (ok_one (by kernel_rfl) rfl (okWide_bool_mk Tryz.underlying4 _))⟩
theorem GuardPlays_row : Rows.GuardPlaysSaid :=
  OpenClaim.holds_of_wide 3 Tryz.f3 rfl rfl rfl rfl rfl rfl rfl ⟨rfl, rfl, rfl, rfl, rfl⟩ rfl rfl rfl rfl rfl (by kernel_rfl) Tryz.func3 (by kernel_rfl)
    (of_decide_eq_true (by kernel_rfl)) (by unfold Func.isWrapper; first | (rw [if_pos (by decide +kernel)]; kernel_rfl) | (rw [if_neg (by decide +kernel)]; exact ⟨rfl, rfl⟩))
    (fun os started H enc _ => liftedGuardPlays os started H enc)
theorem GuardPlays_holds : Rows.GuardPlaysCardSaid :=
  Claim7.holds_tied_plain_at .later [] [.handle] true (true, "d0c4e22f3ceafbe44607caf0d8f5eca78952fe0444092f6f439e2d73ca7ec247") true
    GuardPlays_row (fun _ h => by cases h) (by kernel_rfl) (fun _ h => by cases h) guardPlays_row_tie rfl ⟨rfl, rfl⟩ (by kernel_rfl) rfl
    (fun f fn hf hfn => by
      obtain rfl : f = 3 := Option.some.inj ((show Tryz.prog.funcNamed "intaglio/intagliolaw14.GuardPlays" = some 3 by kernel_rfl).symm.trans hf) |>.symm
      obtain rfl : fn = Tryz.f3 := (Option.some.inj (Tryz.func3.symm.trans hfn)).symm
      exact ⟨by kernel_rfl, fun j t ht => by
        rw [Tryz.params3] at ht
        have hm : t ∈ [22, 24, 25] := by have h := Array.mem_of_getElem? ht; simp only [List.mem_toArray, List.mem_cons, List.not_mem_nil, or_false] at h ⊢; omega
        have hall : ([22, 24, 25].all fun u => !Tryz.prog.wantsStandIn u) = true := by kernel_rfl
        exact (show Tryz.prog.wantsStandIn t = false by simpa using List.all_eq_true.1 hall t hm)⟩)
    (by kernel_rfl)
#print axioms GuardPlays_holds
end Go.Proofs.YtilaihbbollcnaaGreatDoor

/- Contracts of functions that the laws of this seat call. -/
import Derived.Test.YtkmnepmnjpdpkaaGreatDoorYP
import Derived.Test.YtkmnepmnjpdpkaaGreatDoorYJApp
import Derived.Test.YtkmnepmnjpdpkaaGreatDoorYKApp
import Derived.Test.YtkmnepmnjpdpkaaGreatDoorCards
import Derived.Test.YtkmnepmnjpdpkaaGreatDoorTie
set_option linter.all false
namespace Go.Proofs.YtkmnepmnjpdpkaaGreatDoor
open Go Go.Ev Go.RowKit Go.Ev.Enc Go.Pl Go.WideShapes Go.ChangeShapes
set_option maxRecDepth 100000 in
theorem FnApplyAct_lifted (os : Os) (started : os.Started) (H : Type) (enc : TypeId × Value → H) :
    ReturnsInHanded {} Tryz.checked os 5 .any (fun w args => (YtkmnepmnjpdpkaaGreatDoor.Rows.fnApplyActSpec.pre enc Tryz.prog Tryz.f5 [] false w args ∧ laidMetH Tryz.prog laidP w) ∧ sizedMet enc Tryz.prog Tryz.f5 (OpenSpec.ofChange YtkmnepmnjpdpkaaGreatDoor.Rows.fnApplyActSpec) false w args) (YtkmnepmnjpdpkaaGreatDoor.Rows.fnApplyActSpec.post enc Tryz.prog Tryz.f5 false true false false) := by
  refine returnsInHanded_of_change_and (C := Tryz.checked) (X := fun w _ => laidMetH Tryz.prog laidP w) (fun _ _ _ hh h => h.of_heap hh) Tryz.own started (by kernel_rfl) Tryz.func5
    (ChangeSpec.witness_shaped (enc := enc) (C := Tryz.checked) (os := os) (X := fun w _ => laidMetH Tryz.prog laidP w) false (World.doorLaid Tryz.prog 3000 os) #[.slice none 0 0] 8 rfl (World.shaped_of_RefB (by kernel_rfl) (by kernel_rfl)) (by kernel_rfl) (by kernel_rfl) (by kernel_rfl) (door_metP os _)) ?_
  intro W base args ds gs before hval hW _ _ hL _
  have hG := gl_ofP hL
  have hW' := hW
  obtain ⟨p, q, hA, hV, rfl, _, _⟩ := hW
  rw [Tryz.params5] at hA hval
  obtain ⟨v0, vs0, d0, ds0, p0, q0, ha0, rfl, rfl, t0, r0⟩ := trodAll_cons hA
  obtain ⟨rfl, rfl, rfl⟩ := trodAll_nil r0
  obtain rfl : args = #[v0] := by cases args; simp_all
  obtain ⟨g1, t1, cs1, fu1, e1, pv1, rfl, _⟩ := trodVars_one hV
  obtain ⟨x0, s0, e0⟩ := Opens.argL Tryz.underlying22 op_bytes H enc W 0 base _ true v0 d0 p0 (hval 0 _ v0 rfl rfl) t0
  have hg : gTrueW x0 = some true := gd_eq (by have := s0.1; omega)
  have hc : CSpec Tryz.prog 5 [Enc.enc 0 x0] (.bool true) :=
    law_ApplyAct sndB sndB rfl rfl rfl rfl rfl drApp _ _ (by simp only [F1, (ok _ _).2 rfl, Option.bind_some, hg, Option.map_some]; rfl)
  refine (law_callsG hc (W := W) (args := #[v0]) rfl ?_ hG).mono fun e W' ⟨he, hb⟩ => ⟨_, he, law_postV Tryz.laidOut (by decide +kernel) varsP rfl Tryz.underlying4 hW' rfl rfl rfl hb⟩
  intro i hi
  match i, hi with
  | 0, _ => exact e0

theorem FnApplyAct_row : YtkmnepmnjpdpkaaGreatDoor.Rows.FnApplyActSaid :=
  OpenClaim.holds_of_wide 5 Tryz.f5 rfl rfl rfl rfl rfl rfl rfl ⟨rfl, rfl, rfl, rfl, rfl⟩ rfl rfl rfl rfl rfl fn_App Tryz.func5 jf_App in_App wr_App
    (fun os started H enc _ => FnApplyAct_lifted os started H enc)
theorem FnApplyAct_holds : YtkmnepmnjpdpkaaGreatDoor.Rows.FnApplyActCardSaid :=
  Claim7.holds_tied_plain_at .later [] [.data, .data, .data, .data] true (true, "9e85e0f913c60b1956d2212bb7fc9ff9241e8d7f2dcf79aafd18c45c543253ff") true
    FnApplyAct_row (fun _ h => by cases h) wf_App (fun _ h => by cases h) YtkmnepmnjpdpkaaGreatDoor.fnApplyAct_row_tie rfl ⟨rfl, rfl⟩ mi_App rfl
    (fun f fn hf hfn => by
      obtain rfl : f = 5 := Option.some.inj (fn_App.symm.trans hf) |>.symm
      obtain rfl : fn = Tryz.f5 := (Option.some.inj (Tryz.func5.symm.trans hfn)).symm
      exact ⟨lk_App, fun j t ht => by
        rw [Tryz.params5] at ht
        have hm : t ∈ [22] := by simpa using Array.mem_of_getElem? ht
        exact (show Tryz.prog.wantsStandIn t = false by simpa using List.all_eq_true.1 ws_App t hm)⟩)
    gb_App
#print axioms FnApplyAct_holds
end Go.Proofs.YtkmnepmnjpdpkaaGreatDoor

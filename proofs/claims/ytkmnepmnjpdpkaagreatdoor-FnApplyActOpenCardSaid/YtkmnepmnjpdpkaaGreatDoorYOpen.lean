/- Contracts of functions that the laws of this seat call. -/
import Derived.Test.YtkmnepmnjpdpkaaGreatDoorYP
import Derived.Test.YtkmnepmnjpdpkaaGreatDoorYJOpen
import Derived.Test.YtkmnepmnjpdpkaaGreatDoorYKOpen
import Derived.Test.YtkmnepmnjpdpkaaGreatDoorCards
import Derived.Test.YtkmnepmnjpdpkaaGreatDoorTie
set_option linter.all false
namespace Go.Proofs.YtkmnepmnjpdpkaaGreatDoor
open Go Go.Ev Go.RowKit Go.Ev.Enc Go.Pl Go.WideShapes Go.ChangeShapes
set_option maxRecDepth 100000 in
theorem FnApplyActOpen_lifted (os : Os) (started : os.Started) (H : Type) (enc : TypeId × Value → H) :
    ReturnsInHanded {} Tryz.checked os 6 .any (fun w args => (YtkmnepmnjpdpkaaGreatDoor.Rows.fnApplyActOpenSpec.pre enc Tryz.prog Tryz.f6 [] false w args ∧ laidMetH Tryz.prog laidP w) ∧ sizedMet enc Tryz.prog Tryz.f6 (OpenSpec.ofChange YtkmnepmnjpdpkaaGreatDoor.Rows.fnApplyActOpenSpec) false w args) (YtkmnepmnjpdpkaaGreatDoor.Rows.fnApplyActOpenSpec.post enc Tryz.prog Tryz.f6 false true false false) := by
  refine returnsInHanded_of_change_and (C := Tryz.checked) (X := fun w _ => laidMetH Tryz.prog laidP w) (fun _ _ _ hh h => h.of_heap hh) Tryz.own started (by kernel_rfl) Tryz.func6
    (ChangeSpec.witness_shaped (enc := enc) (C := Tryz.checked) (os := os) (X := fun w _ => laidMetH Tryz.prog laidP w) false (World.doorLaid Tryz.prog 3000 os) #[.slice none 0 0] 8 rfl (World.shaped_of_RefB (by kernel_rfl) (by kernel_rfl)) (by kernel_rfl) (by kernel_rfl) (by kernel_rfl) (door_metP os _)) ?_
  intro W base args ds gs before hval hW _ _ hL _
  have hG := gl_ofP hL
  have hW' := hW
  obtain ⟨p, q, hA, hV, rfl, _, _⟩ := hW
  rw [Tryz.params6] at hA hval
  obtain ⟨v0, vs0, d0, ds0, p0, q0, ha0, rfl, rfl, t0, r0⟩ := trodAll_cons hA
  obtain ⟨rfl, rfl, rfl⟩ := trodAll_nil r0
  obtain rfl : args = #[v0] := by cases args; simp_all
  obtain ⟨g1, t1, cs1, fu1, e1, pv1, rfl, _⟩ := trodVars_one hV
  obtain ⟨x0, s0, e0⟩ := Opens.argL Tryz.underlying22 op_bytes H enc W 0 base _ true v0 d0 p0 (hval 0 _ v0 rfl rfl) t0
  have hg : gTrueW x0 = some true := gd_eq (by have := s0.1; omega)
  have hc : CSpec Tryz.prog 6 [Enc.enc 0 x0] (.bool true) :=
    law_ApplyActOpen sndB sndB rfl rfl rfl rfl rfl rfl drApp _ _ (by simp only [F1, (ok _ _).2 rfl, Option.bind_some, hg, Option.map_some]; rfl)
  refine (law_callsG hc (W := W) (args := #[v0]) rfl ?_ hG).mono fun e W' ⟨he, hb⟩ => ⟨_, he, law_postV Tryz.laidOut (by decide +kernel) varsP rfl Tryz.underlying4 hW' rfl rfl rfl hb⟩
  intro i hi
  match i, hi with
  | 0, _ => exact e0

theorem FnApplyActOpen_row : YtkmnepmnjpdpkaaGreatDoor.Rows.FnApplyActOpenSaid :=
  OpenClaim.holds_of_wide 6 Tryz.f6 rfl rfl rfl rfl rfl rfl rfl ⟨rfl, rfl, rfl, rfl, rfl⟩ rfl rfl rfl rfl rfl fn_Open Tryz.func6 jf_Open in_Open wr_Open
    (fun os started H enc _ => FnApplyActOpen_lifted os started H enc)
theorem FnApplyActOpen_holds : YtkmnepmnjpdpkaaGreatDoor.Rows.FnApplyActOpenCardSaid :=
  Claim7.holds_tied_plain_at .later [] [.data, .data, .data, .data] true (true, "9e85e0f913c60b1956d2212bb7fc9ff9241e8d7f2dcf79aafd18c45c543253ff") true
    FnApplyActOpen_row (fun _ h => by cases h) wf_Open (fun _ h => by cases h) YtkmnepmnjpdpkaaGreatDoor.fnApplyActOpen_row_tie rfl ⟨rfl, rfl⟩ mi_Open rfl
    (fun f fn hf hfn => by
      obtain rfl : f = 6 := Option.some.inj (fn_Open.symm.trans hf) |>.symm
      obtain rfl : fn = Tryz.f6 := (Option.some.inj (Tryz.func6.symm.trans hfn)).symm
      exact ⟨lk_Open, fun j t ht => by
        rw [Tryz.params6] at ht
        have hm : t ∈ [22] := by simpa using Array.mem_of_getElem? ht
        exact (show Tryz.prog.wantsStandIn t = false by simpa using List.all_eq_true.1 ws_Open t hm)⟩)
    gb_Open
#print axioms FnApplyActOpen_holds
end Go.Proofs.YtkmnepmnjpdpkaaGreatDoor

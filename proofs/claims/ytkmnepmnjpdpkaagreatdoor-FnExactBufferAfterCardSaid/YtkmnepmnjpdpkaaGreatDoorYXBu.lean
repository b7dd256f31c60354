/- Contracts of functions that the laws of this seat call. -/
import Derived.Test.YtkmnepmnjpdpkaaGreatDoorYxB
import Derived.ChangeMaps5
import Derived.Test.YtkmnepmnjpdpkaaGreatDoorYJXBu
import Derived.Test.YtkmnepmnjpdpkaaGreatDoorYKXBu
import Derived.Test.YtkmnepmnjpdpkaaGreatDoorCards
import Derived.Test.YtkmnepmnjpdpkaaGreatDoorTie
set_option linter.all false
namespace Go.Proofs.YtkmnepmnjpdpkaaGreatDoor
open Go Go.Ev Go.RowKit Go.Ev.Enc Go.Pl Go.WideShapes Go.ChangeShapes
set_option maxRecDepth 100000 in
theorem shS (os : Os) : ((wT os).forCall (fun _ _ => 0) ⟨#[], #[.string ⟨#[]⟩], []⟩).Shaped Tryz.prog := World.shaped_of_RefB (by kernel_rfl) (by kernel_rfl)
set_option maxRecDepth 100000 in
theorem FnExactBufferAfter_lifted (os : Os) (started : os.Started) (H : Type) (enc : TypeId × Value → H) :
    ReturnsInHanded {} Tryz.checked os 11 .any (fun w args => (YtkmnepmnjpdpkaaGreatDoor.Rows.fnExactBufferAfterSpec.pre enc Tryz.prog Tryz.f11 [] false w args ∧ laidMetH Tryz.prog laidT w) ∧ sizedMet enc Tryz.prog Tryz.f11 (OpenSpec.ofChange YtkmnepmnjpdpkaaGreatDoor.Rows.fnExactBufferAfterSpec) false w args) (YtkmnepmnjpdpkaaGreatDoor.Rows.fnExactBufferAfterSpec.post enc Tryz.prog Tryz.f11 false true false false) := by
  refine returnsInHanded_and_shaped (C := Tryz.checked) (X := fun w _ => laidMetH Tryz.prog laidT w) (fun _ _ _ hh h => h.of_heap hh) Tryz.own started (by kernel_rfl) Tryz.func11
    (ChangeSpec.witness_shaped (enc := enc) (C := Tryz.checked) (os := os) (X := fun w _ => laidMetH Tryz.prog laidT w) false (wT os) #[.string ⟨#[]⟩] 8 rfl (shS os) (by kernel_rfl) (by kernel_rfl) (by kernel_rfl) (door_metT os _)) ?_
  intro W base args ds gs before hval hW hL hsh
  have hG := gl_ofT hL hsh
  have hW' := hW
  obtain ⟨p, q, hA, hV, rfl, _, _⟩ := hW
  rw [Tryz.params11] at hA hval
  obtain ⟨v0, vs0, d0, ds0, p0, q0, ha0, rfl, rfl, t0, r0⟩ := trodAll_cons hA
  obtain ⟨rfl, rfl, rfl⟩ := trodAll_nil r0
  obtain rfl : args = #[v0] := by cases args; simp_all
  obtain ⟨g0, t0', cs0, f0, e0', p0', g1, t1, cs1, f1, e1, p1, rfl, _⟩ := trodVars_two hV
  obtain ⟨x0, rfl, rfl, rfl, ws⟩ := ChangeMaps.open_string Tryz.underlying9 (hval 0 _ v0 rfl rfl) t0
  have hg : gTrueS x0 = some true := gd_eq (by have h := ws; simp only [maxLen] at h; omega)
  have hc : CSpec Tryz.prog 11 [Enc.enc 0 x0] (.bool true) :=
    law_ExactBufferAfter ((sndA.hide 17).hide 15) sndA rfl rfl rfl rfl rfl aftS bufX mkBB _ _ (by simp only [F1, (ok _ _).2 rfl, Option.bind_some, hg, Option.map_some]; rfl)
  refine (law_callsG hc (W := W) (args := #[.string x0]) rfl ?_ hG).mono fun e W' ⟨he, hb⟩ => ⟨_, he, law_postV Tryz.laidOut (by decide +kernel) varsT rfl Tryz.underlying4 hW' rfl rfl rfl hb⟩
  intro i hi
  match i, hi with
  | 0, _ => exact .str x0

theorem FnExactBufferAfter_row : YtkmnepmnjpdpkaaGreatDoor.Rows.FnExactBufferAfterSaid :=
  OpenClaim.holds_of_wide 11 Tryz.f11 rfl rfl rfl rfl rfl rfl rfl ⟨rfl, rfl, rfl, rfl, rfl⟩ rfl rfl rfl rfl rfl fn_XBu Tryz.func11 jf_XBu in_XBu wr_XBu
    (fun os started H enc _ => FnExactBufferAfter_lifted os started H enc)
theorem FnExactBufferAfter_holds : YtkmnepmnjpdpkaaGreatDoor.Rows.FnExactBufferAfterCardSaid :=
  Claim7.holds_tied_plain_at .later [] [.data, .data, .data, .data, .sentinel, .sentinel, .widerDeep, .data, .pinned] true (true, "9e85e0f913c60b1956d2212bb7fc9ff9241e8d7f2dcf79aafd18c45c543253ff") true
    FnExactBufferAfter_row (fun _ h => by cases h) wf_XBu (fun _ h => by cases h) YtkmnepmnjpdpkaaGreatDoor.fnExactBufferAfter_row_tie rfl ⟨rfl, rfl⟩ mi_XBu rfl
    (fun f fn hf hfn => by
      obtain rfl : f = 11 := Option.some.inj (fn_XBu.symm.trans hf) |>.symm
      obtain rfl : fn = Tryz.f11 := (Option.some.inj (Tryz.func11.symm.trans hfn)).symm
      exact ⟨lk_XBu, fun j t ht => by
        rw [Tryz.params11] at ht
        have hm : t ∈ [9] := by simpa using Array.mem_of_getElem? ht
        exact (show Tryz.prog.wantsStandIn t = false by simpa using List.all_eq_true.1 ws_XBu t hm)⟩)
    gb_XBu
#print axioms FnExactBufferAfter_holds
end Go.Proofs.YtkmnepmnjpdpkaaGreatDoor

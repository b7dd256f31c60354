/- Contracts of functions that the laws of this seat call. -/
import Derived.Test.YtkmnepmnjpdpkaaGreatDoorYxB
import Derived.Test.YtkmnepmnjpdpkaaGreatDoorX3
import Derived.Test.YtkmnepmnjpdpkaaGreatDoorYJLoad
import Derived.Test.YtkmnepmnjpdpkaaGreatDoorYKLoad
import Derived.Test.YtkmnepmnjpdpkaaGreatDoorCards
import Derived.Test.YtkmnepmnjpdpkaaGreatDoorTie
set_option linter.all false
namespace Go.Proofs.YtkmnepmnjpdpkaaGreatDoor
open Go Go.Ev Go.RowKit Go.Ev.Enc Go.Pl Go.WideShapes Go.ChangeShapes
set_option maxRecDepth 100000 in
theorem FnRunActsLoad_lifted (os : Os) (started : os.Started) (H : Type) (enc : TypeId × Value → H) :
    ReturnsInHanded {} Tryz.checked os 4 .any (fun w args => (YtkmnepmnjpdpkaaGreatDoor.Rows.fnRunActsLoadSpec.pre enc Tryz.prog Tryz.f4 [] false w args ∧ laidMetH Tryz.prog laidT w) ∧ sizedMet enc Tryz.prog Tryz.f4 (OpenSpec.ofChange YtkmnepmnjpdpkaaGreatDoor.Rows.fnRunActsLoadSpec) false w args) (YtkmnepmnjpdpkaaGreatDoor.Rows.fnRunActsLoadSpec.post enc Tryz.prog Tryz.f4 false true false false) := by
  refine returnsInHanded_and_shaped (C := Tryz.checked) (X := fun w _ => laidMetH Tryz.prog laidT w) (fun _ _ _ hh h => h.of_heap hh) Tryz.own started (by kernel_rfl) Tryz.func4
    (ChangeSpec.witness_shaped (enc := enc) (C := Tryz.checked) (os := os) (X := fun w _ => laidMetH Tryz.prog laidT w) false (wT os) #[.slice none 0 0] 8 rfl (shT os) (by kernel_rfl) (by kernel_rfl) (by kernel_rfl) (door_metT os _)) ?_
  intro W base args ds gs before hval hW hL hsh
  have hG := gl_ofT hL hsh
  have hW' := hW
  obtain ⟨p, q, hA, hV, rfl, _, _⟩ := hW
  rw [Tryz.params4] at hA hval
  obtain ⟨v0, vs0, d0, ds0, p0, q0, ha0, rfl, rfl, t0, r0⟩ := trodAll_cons hA
  obtain ⟨rfl, rfl, rfl⟩ := trodAll_nil r0
  obtain rfl : args = #[v0] := by cases args; simp_all
  obtain ⟨g0, t0', cs0, f0, e0', p0', g1, t1, cs1, f1, e1, p1, rfl, _⟩ := trodVars_two hV
  obtain ⟨x0, s0, e0⟩ := Opens.argL Tryz.underlying22 op_bytes H enc W 0 base _ true v0 d0 p0 (hval 0 _ v0 rfl rfl) t0
  have hg : gTrueW x0 = some true := gd_eq (by have := s0.1; omega)
  have hc : CSpec Tryz.prog 4 [Enc.enc 0 x0] (.bool true) :=
    law_RunActsLoad sndA sndA rfl rfl rfl rfl rfl rfl rfl rfl rfl drRun runS2 _ _ (by simp only [F1, (ok _ _).2 rfl, Option.bind_some, hg, Option.map_some]; rfl)
  refine (law_callsG hc (W := W) (args := #[v0]) rfl ?_ hG).mono fun e W' ⟨he, hb⟩ => ⟨_, he, law_postV Tryz.laidOut (by decide +kernel) varsT rfl Tryz.underlying4 hW' rfl rfl rfl hb⟩
  intro i hi
  match i, hi with
  | 0, _ => exact e0

theorem FnRunActsLoad_row : YtkmnepmnjpdpkaaGreatDoor.Rows.FnRunActsLoadSaid :=
  OpenClaim.holds_of_wide 4 Tryz.f4 rfl rfl rfl rfl rfl rfl rfl ⟨rfl, rfl, rfl, rfl, rfl⟩ rfl rfl rfl rfl rfl fn_Load Tryz.func4 jf_Load in_Load wr_Load
    (fun os started H enc _ => FnRunActsLoad_lifted os started H enc)
theorem FnRunActsLoad_holds : YtkmnepmnjpdpkaaGreatDoor.Rows.FnRunActsLoadCardSaid :=
  Claim7.holds_tied_plain_at .later [] [.data, .data, .data, .data, .sentinel, .sentinel, .widerDeep, .data, .pinned] true (true, "9e85e0f913c60b1956d2212bb7fc9ff9241e8d7f2dcf79aafd18c45c543253ff") true
    FnRunActsLoad_row (fun _ h => by cases h) wf_Load (fun _ h => by cases h) YtkmnepmnjpdpkaaGreatDoor.fnRunActsLoad_row_tie rfl ⟨rfl, rfl⟩ mi_Load rfl
    (fun f fn hf hfn => by
      obtain rfl : f = 4 := Option.some.inj (fn_Load.symm.trans hf) |>.symm
      obtain rfl : fn = Tryz.f4 := (Option.some.inj (Tryz.func4.symm.trans hfn)).symm
      exact ⟨lk_Load, fun j t ht => by
        rw [Tryz.params4] at ht
        have hm : t ∈ [22] := by simpa using Array.mem_of_getElem? ht
        exact (show Tryz.prog.wantsStandIn t = false by simpa using List.all_eq_true.1 ws_Load t hm)⟩)
    gb_Load
#print axioms FnRunActsLoad_holds
end Go.Proofs.YtkmnepmnjpdpkaaGreatDoor

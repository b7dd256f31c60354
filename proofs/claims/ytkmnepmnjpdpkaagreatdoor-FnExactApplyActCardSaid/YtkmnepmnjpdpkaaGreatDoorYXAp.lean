/- Contracts of functions that the laws of this seat call. -/
import Derived.Test.YtkmnepmnjpdpkaaGreatDoorYxB
import Derived.Test.YtkmnepmnjpdpkaaGreatDoorYJXAp
import Derived.Test.YtkmnepmnjpdpkaaGreatDoorYKXAp
import Derived.Test.YtkmnepmnjpdpkaaGreatDoorCards
import Derived.Test.YtkmnepmnjpdpkaaGreatDoorTie
set_option linter.all false
namespace Go.Proofs.YtkmnepmnjpdpkaaGreatDoor
open Go Go.Ev Go.RowKit Go.Ev.Enc Go.Pl Go.WideShapes Go.ChangeShapes
set_option maxRecDepth 100000 in
theorem FnExactApplyAct_lifted (os : Os) (started : os.Started) (H : Type) (enc : TypeId × Value → H) :
    ReturnsInHanded {} Tryz.checked os 12 .any (fun w args => (YtkmnepmnjpdpkaaGreatDoor.Rows.fnExactApplyActSpec.pre enc Tryz.prog Tryz.f12 [] false w args ∧ laidMetH Tryz.prog laidP w) ∧ sizedMet enc Tryz.prog Tryz.f12 (OpenSpec.ofChange YtkmnepmnjpdpkaaGreatDoor.Rows.fnExactApplyActSpec) false w args) (YtkmnepmnjpdpkaaGreatDoor.Rows.fnExactApplyActSpec.post enc Tryz.prog Tryz.f12 false true false false) := by
  refine returnsInHanded_of_change_and (C := Tryz.checked) (X := fun w _ => laidMetH Tryz.prog laidP w) (fun _ _ _ hh h => h.of_heap hh) Tryz.own started (by kernel_rfl) Tryz.func12
    (ChangeSpec.witness_shaped (enc := enc) (C := Tryz.checked) (os := os) (X := fun w _ => laidMetH Tryz.prog laidP w) false (World.doorLaid Tryz.prog 3000 os) #[.agg #[.slice none 0 0, .slice none 0 0], .agg #[.int .i64 0, .slice none 0 0]] 8 rfl (World.shaped_of_RefB (by kernel_rfl) (by kernel_rfl)) (by kernel_rfl) (by kernel_rfl) (by kernel_rfl) (door_metP os _)) ?_
  intro W base args ds gs before hval hW _ _ hL _
  have hG := gl_ofP hL
  have hW' := hW
  obtain ⟨p, q, hA, hV, rfl, _, _⟩ := hW
  rw [Tryz.params12] at hA hval
  obtain ⟨v0, vs0, d0, ds0, p0, q0, ha0, rfl, rfl, t0, r0⟩ := trodAll_cons hA
  obtain ⟨v1, vs1, d1, ds1, p1, q1, ha1, rfl, rfl, t1', r1⟩ := trodAll_cons r0
  obtain ⟨rfl, rfl, rfl⟩ := trodAll_nil r1
  subst ha1
  obtain rfl : args = #[v0, v1] := by cases args; simp_all
  obtain ⟨g1, t1, cs1, fu1, e1, pv1, rfl, _⟩ := trodVars_one hV
  obtain ⟨x0, s0, e0⟩ := Opens.argS Tryz.underlying60 (fun _ => ⟨_, rfl⟩) op_bf H enc W 0 base _ true v0 d0 p0 (hval 0 _ v0 rfl rfl) t0
  obtain ⟨x1, s1, e1'⟩ := Opens.argS Tryz.underlying61 (fun _ => ⟨_, rfl⟩) op_ac H enc W 0 base _ true v1 d1 p1 (hval 1 _ v1 rfl rfl) t1'
  have hg : gTrueBA x0 x1 = some true := gd_eq ⟨big_of s0, by have := s1.1; omega⟩
  have hc : CSpec Tryz.prog 12 [Enc.enc 0 x0, Enc.enc 0 x1] (.bool true) :=
    law_ExactApplyAct (((sndA.hide 46).hide 47).hide 20) sndQ3 rfl rfl rfl rfl rfl rfl rfl rfl rfl rfl rfl rfl rfl rfl rfl toBX toAX apX mkBX mkBZX mkAX _ _ (by simp only [F2, (ok _ _).2 rfl, Option.bind_some, hg, Option.map_some]; rfl)
  refine (law_callsG hc (W := W) (args := #[v0, v1]) rfl ?_ hG).mono fun e W' ⟨he, hb⟩ => ⟨_, he, law_postV Tryz.laidOut (by decide +kernel) varsP rfl Tryz.underlying4 hW' rfl rfl rfl hb⟩
  intro i hi
  match i, hi with
  | 0, _ => exact e0
  | 1, _ => exact e1'

theorem FnExactApplyAct_row : YtkmnepmnjpdpkaaGreatDoor.Rows.FnExactApplyActSaid :=
  OpenClaim.holds_of_wide 12 Tryz.f12 rfl rfl rfl rfl rfl rfl rfl ⟨rfl, rfl, rfl, rfl, rfl⟩ rfl rfl rfl rfl rfl fn_XAp Tryz.func12 jf_XAp in_XAp wr_XAp
    (fun os started H enc _ => FnExactApplyAct_lifted os started H enc)
theorem FnExactApplyAct_holds : YtkmnepmnjpdpkaaGreatDoor.Rows.FnExactApplyActCardSaid :=
  Claim7.holds_tied_plain_at .later [] [.data, .data, .data, .data] true (true, "9e85e0f913c60b1956d2212bb7fc9ff9241e8d7f2dcf79aafd18c45c543253ff") true
    FnExactApplyAct_row (fun _ h => by cases h) wf_XAp (fun _ h => by cases h) YtkmnepmnjpdpkaaGreatDoor.fnExactApplyAct_row_tie rfl ⟨rfl, rfl⟩ mi_XAp rfl
    (fun f fn hf hfn => by
      obtain rfl : f = 12 := Option.some.inj (fn_XAp.symm.trans hf) |>.symm
      obtain rfl : fn = Tryz.f12 := (Option.some.inj (Tryz.func12.symm.trans hfn)).symm
      exact ⟨lk_XAp, fun j t ht => by
        rw [Tryz.params12] at ht
        have hm : t ∈ [60, 61] := by simpa using Array.mem_of_getElem? ht
        exact (show Tryz.prog.wantsStandIn t = false by simpa using List.all_eq_true.1 ws_XAp t hm)⟩)
    gb_XAp
#print axioms FnExactApplyAct_holds
end Go.Proofs.YtkmnepmnjpdpkaaGreatDoor

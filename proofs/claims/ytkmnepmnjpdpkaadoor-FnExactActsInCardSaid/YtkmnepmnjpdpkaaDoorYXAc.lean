/- Contracts of functions that the laws of this seat call. -/
import Derived.Test.YtkmnepmnjpdpkaaDoorYTd
import Derived.ChangeMaps5
import Derived.Test.YtkmnepmnjpdpkaaDoorYJXAc
import Derived.Test.YtkmnepmnjpdpkaaDoorYKXAc
import Derived.Test.YtkmnepmnjpdpkaaDoorCards
import Derived.Test.YtkmnepmnjpdpkaaDoorTie
set_option linter.all false
namespace Go.Proofs.YtkmnepmnjpdpkaaDoor
open Go Go.Ev Go.RowKit Go.Ev.Enc Go.Pl Go.WideShapes Go.ChangeShapes
set_option maxRecDepth 100000 in
theorem FnExactActsIn_lifted (os : Os) (started : os.Started) (H : Type) (enc : TypeId × Value → H) :
    ReturnsInHanded {} Tryd.checked os 4 .any (fun w args => (YtkmnepmnjpdpkaaDoor.Rows.fnExactActsInSpec.pre enc Tryd.prog Tryd.f4 [] false w args ∧ laidMetH Tryd.prog laidT w) ∧ sizedMet enc Tryd.prog Tryd.f4 (OpenSpec.ofChange YtkmnepmnjpdpkaaDoor.Rows.fnExactActsInSpec) false w args) (YtkmnepmnjpdpkaaDoor.Rows.fnExactActsInSpec.post enc Tryd.prog Tryd.f4 false true false false) := by
  refine returnsInHanded_and_shaped (C := Tryd.checked) (X := fun w _ => laidMetH Tryd.prog laidT w) (fun _ _ _ hh h => h.of_heap hh) Tryd.own started (by kernel_rfl) Tryd.func4
    (ChangeSpec.witness_shaped (enc := enc) (C := Tryd.checked) (os := os) (X := fun w _ => laidMetH Tryd.prog laidT w) false (wT os) #[.string ⟨#[]⟩] 8 rfl (shS os) (by kernel_rfl) (by kernel_rfl) (by kernel_rfl) (door_metT os _)) ?_
  intro W base args ds gs before hval hW hL hsh
  have hG := gl_ofT hL hsh
  have hW' := hW
  obtain ⟨p, q, hA, hV, rfl, _, _⟩ := hW
  rw [Tryd.params4] at hA hval
  obtain ⟨v0, vs0, d0, ds0, p0, q0, ha0, rfl, rfl, t0, r0⟩ := trodAll_cons hA
  obtain ⟨rfl, rfl, rfl⟩ := trodAll_nil r0
  obtain rfl : args = #[v0] := by cases args; simp_all
  obtain ⟨g0, t0', cs0, f0, e0', p0', g1, t1, cs1, f1, e1, p1, rfl, _⟩ := trodVars_two hV
  obtain ⟨x0, rfl, rfl, rfl, ws⟩ := ChangeMaps.open_string Tryd.underlying9 (hval 0 _ v0 rfl rfl) t0
  have hg : gTrueE x0 = some true := gd_eq (by have h := ws; simp only [maxLen] at h; omega)
  have hc : CSpec Tryd.prog 4 [Enc.enc 0 x0] (.bool true) :=
    law_ExactActsIn (sndA.hide 11) sndA rfl rfl rfl rfl rfl actXX mkAS _ _ (by simp only [F1, (ok _ _).2 rfl, Option.bind_some, hg, Option.map_some]; rfl)
  refine (law_callsG hc (W := W) (args := #[.string x0]) rfl ?_ hG).mono fun e W' ⟨he, hb⟩ => ⟨_, he, law_postV Tryd.laidOut (by decide +kernel) varsT rfl Tryd.underlying4 hW' rfl rfl rfl hb⟩
  intro i hi
  match i, hi with
  | 0, _ => exact .str x0

theorem FnExactActsIn_row : YtkmnepmnjpdpkaaDoor.Rows.FnExactActsInSaid :=
  OpenClaim.holds_of_wide 4 Tryd.f4 rfl rfl rfl rfl rfl rfl rfl ⟨rfl, rfl, rfl, rfl, rfl⟩ rfl rfl rfl rfl rfl fn_XAc Tryd.func4 jf_XAc in_XAc wr_XAc
    (fun os started H enc _ => FnExactActsIn_lifted os started H enc)
theorem FnExactActsIn_holds : YtkmnepmnjpdpkaaDoor.Rows.FnExactActsInCardSaid :=
  Claim7.holds_tied_plain_at .later [] [.data, .data, .data, .data, .sentinel, .sentinel, .widerDeep, .data, .pinned] true (true, "e0953dc8d6903d8d4c7f0a0c70735358465245c399a12ea13b1a3887027ec25c") true
    FnExactActsIn_row (fun _ h => by cases h) wf_XAc (fun _ h => by cases h) YtkmnepmnjpdpkaaDoor.fnExactActsIn_row_tie rfl ⟨rfl, rfl⟩ mi_XAc rfl
    (fun f fn hf hfn => by
      obtain rfl : f = 4 := Option.some.inj (fn_XAc.symm.trans hf) |>.symm
      obtain rfl : fn = Tryd.f4 := (Option.some.inj (Tryd.func4.symm.trans hfn)).symm
      exact ⟨lk_XAc, fun j t ht => by
        rw [Tryd.params4] at ht
        have hm : t ∈ [9] := by simpa using Array.mem_of_getElem? ht
        exact (show Tryd.prog.wantsStandIn t = false by simpa using List.all_eq_true.1 ws_XAc t hm)⟩)
    gb_XAc
#print axioms FnExactActsIn_holds
end Go.Proofs.YtkmnepmnjpdpkaaDoor

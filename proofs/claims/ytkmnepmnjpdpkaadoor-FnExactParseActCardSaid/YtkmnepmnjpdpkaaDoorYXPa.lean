/- Contracts of functions that the laws of this seat call. -/
import Derived.Test.YtkmnepmnjpdpkaaDoorYTd
import Derived.ChangeMaps5
import Derived.Test.YtkmnepmnjpdpkaaDoorYJXPa
import Derived.Test.YtkmnepmnjpdpkaaDoorYKXPa
import Derived.Test.YtkmnepmnjpdpkaaDoorCards
import Derived.Test.YtkmnepmnjpdpkaaDoorTie
set_option linter.all false
namespace Go.Proofs.YtkmnepmnjpdpkaaDoor
open Go Go.Ev Go.RowKit Go.Ev.Enc Go.Pl Go.WideShapes Go.ChangeShapes
set_option maxRecDepth 100000 in
theorem FnExactParseAct_lifted (os : Os) (started : os.Started) (H : Type) (enc : TypeId × Value → H) :
    ReturnsInHanded {} Tryd.checked os 3 .any (fun w args => (YtkmnepmnjpdpkaaDoor.Rows.fnExactParseActSpec.pre enc Tryd.prog Tryd.f3 [] false w args ∧ laidMetH Tryd.prog laidT w) ∧ sizedMet enc Tryd.prog Tryd.f3 (OpenSpec.ofChange YtkmnepmnjpdpkaaDoor.Rows.fnExactParseActSpec) false w args) (YtkmnepmnjpdpkaaDoor.Rows.fnExactParseActSpec.post enc Tryd.prog Tryd.f3 false true false false) := by
  refine returnsInHanded_and_shaped (C := Tryd.checked) (X := fun w _ => laidMetH Tryd.prog laidT w) (fun _ _ _ hh h => h.of_heap hh) Tryd.own started (by kernel_rfl) Tryd.func3
    (ChangeSpec.witness_shaped (enc := enc) (C := Tryd.checked) (os := os) (X := fun w _ => laidMetH Tryd.prog laidT w) false (wT os) #[.string ⟨#[]⟩] 8 rfl (shS os) (by kernel_rfl) (by kernel_rfl) (by kernel_rfl) (door_metT os _)) ?_
  intro W base args ds gs before hval hW hL hsh
  have hG := gl_ofT hL hsh
  have hW' := hW
  obtain ⟨p, q, hA, hV, rfl, _, _⟩ := hW
  rw [Tryd.params3] at hA hval
  obtain ⟨v0, vs0, d0, ds0, p0, q0, ha0, rfl, rfl, t0, r0⟩ := trodAll_cons hA
  obtain ⟨rfl, rfl, rfl⟩ := trodAll_nil r0
  obtain rfl : args = #[v0] := by cases args; simp_all
  obtain ⟨g0, t0', cs0, f0, e0', p0', g1, t1, cs1, f1, e1, p1, rfl, _⟩ := trodVars_two hV
  obtain ⟨x0, rfl, rfl, rfl, ws⟩ := ChangeMaps.open_string Tryd.underlying9 (hval 0 _ v0 rfl rfl) t0
  have hg : gTrueE x0 = some true := gd_eq (by have h := ws; simp only [maxLen] at h; omega)
  have hc : CSpec Tryd.prog 3 [Enc.enc 0 x0] (.bool true) :=
    law_ExactParseAct (sndA.hide 6) sndA rfl rfl rfl rfl rfl parXX mkA mkAZ _ _ (by simp only [F1, (ok _ _).2 rfl, Option.bind_some, hg, Option.map_some]; rfl)
  refine (law_callsG hc (W := W) (args := #[.string x0]) rfl ?_ hG).mono fun e W' ⟨he, hb⟩ => ⟨_, he, law_postV Tryd.laidOut (by decide +kernel) varsT rfl Tryd.underlying4 hW' rfl rfl rfl hb⟩
  intro i hi
  match i, hi with
  | 0, _ => exact .str x0

theorem FnExactParseAct_row : YtkmnepmnjpdpkaaDoor.Rows.FnExactParseActSaid :=
  OpenClaim.holds_of_wide 3 Tryd.f3 rfl rfl rfl rfl rfl rfl rfl ⟨rfl, rfl, rfl, rfl, rfl⟩ rfl rfl rfl rfl rfl fn_XPa Tryd.func3 jf_XPa in_XPa wr_XPa
    (fun os started H enc _ => FnExactParseAct_lifted os started H enc)
theorem FnExactParseAct_holds : YtkmnepmnjpdpkaaDoor.Rows.FnExactParseActCardSaid :=
  Claim7.holds_tied_plain_at .later [] [.data, .data, .data, .data, .sentinel, .sentinel, .widerDeep, .data, .pinned] true (true, "e0953dc8d6903d8d4c7f0a0c70735358465245c399a12ea13b1a3887027ec25c") true
    FnExactParseAct_row (fun _ h => by cases h) wf_XPa (fun _ h => by cases h) YtkmnepmnjpdpkaaDoor.fnExactParseAct_row_tie rfl ⟨rfl, rfl⟩ mi_XPa rfl
    (fun f fn hf hfn => by
      obtain rfl : f = 3 := Option.some.inj (fn_XPa.symm.trans hf) |>.symm
      obtain rfl : fn = Tryd.f3 := (Option.some.inj (Tryd.func3.symm.trans hfn)).symm
      exact ⟨lk_XPa, fun j t ht => by
        rw [Tryd.params3] at ht
        have hm : t ∈ [9] := by simpa using Array.mem_of_getElem? ht
        exact (show Tryd.prog.wantsStandIn t = false by simpa using List.all_eq_true.1 ws_XPa t hm)⟩)
    gb_XPa
#print axioms FnExactParseAct_holds
end Go.Proofs.YtkmnepmnjpdpkaaDoor

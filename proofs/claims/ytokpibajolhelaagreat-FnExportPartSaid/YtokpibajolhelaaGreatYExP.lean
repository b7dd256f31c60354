/- Contracts of functions that the laws of this seat call. -/
import Derived.Test.YtokpibajolhelaaGreatY9
set_option linter.all false
namespace Go.Proofs.YtokpibajolhelaaGreat
open Go Go.Ev Go.RowKit Go.Ev.Enc Go.Pl Go.WideShapes Go.ChangeShapes
set_option maxRecDepth 100000 in
theorem FnExportPart_lifted (os : Os) (started : os.Started) (H : Type) (enc : TypeId × Value → H) :
    ReturnsInHanded {} Tryz.checked os 6 .any (YtokpibajolhelaaGreat.Rows.fnExportPartSpec.pre6 enc Tryz.prog Tryz.f6 YtokpibajolhelaaGreat.Rows.fnExportPartRow.domain false) (YtokpibajolhelaaGreat.Rows.fnExportPartSpec.post enc Tryz.prog Tryz.f6 false true false false) := by
  refine returnsInHanded_of_change (C := Tryz.checked) Tryz.own started (by kernel_rfl) Tryz.func6
    (ChangeSpec.witness6 (enc := enc) (C := Tryz.checked) false ⟨#[], #[.slice none 0 0], []⟩ 8 (by kernel_rfl) (by kernel_rfl) (by kernel_rfl) (by kernel_rfl)) ?_
  intro W base args ds gs before hval hW _ _
  have hW' := hW
  obtain ⟨p, q, hA, hV, rfl, _, _⟩ := hW
  rw [Tryz.params6] at hA hval
  obtain ⟨v0, vs0, d0, ds0, p0, q0, ha0, rfl, rfl, t0, r0⟩ := trodAll_cons hA
  obtain ⟨rfl, rfl, rfl⟩ := trodAll_nil r0
  obtain rfl : args = #[v0] := by cases args; simp_all
  obtain ⟨rfl, rfl⟩ := trodVars_none hV
  obtain ⟨x0, s0, e0⟩ := Opens.argL Tryz.underlying22 op_bytes H enc W 0 base _ true v0 d0 p0 (hval 0 _ v0 rfl rfl) t0
  have hg : gTrueW x0 = some true := gd_eq (by have := s0.1; omega)
  have hc : CSpec Tryz.prog 6 [Enc.enc 0 x0] (.bool true) :=
    law_ExportPart sndA sndA rfl rfl rfl rfl rfl rfl rfl rfl drExP _ _ (by simp only [F1, (ok _ _).2 rfl, Option.bind_some, hg, Option.map_some]; rfl)
  refine (law_calls hc (W := W) (args := #[v0]) rfl ?_).mono fun e W' ⟨he, hb⟩ => ⟨_, he, law_post Tryz.laidOut (by decide +kernel) rfl rfl Tryz.underlying4 hW' rfl rfl rfl hb⟩
  intro i hi
  match i, hi with
  | 0, _ => exact e0

theorem FnExportPart_holds : YtokpibajolhelaaGreat.Rows.FnExportPartSaid :=
  OpenClaim.holds_of_wide 6 Tryz.f6 rfl rfl rfl rfl rfl rfl rfl ⟨rfl, rfl, rfl, rfl, rfl⟩ rfl rfl rfl rfl rfl (by kernel_rfl) Tryz.func6 (by kernel_rfl)
    (of_decide_eq_true (by kernel_rfl)) (by unfold Func.isWrapper; first | (rw [if_pos (by decide +kernel)]; kernel_rfl) | (rw [if_neg (by decide +kernel)]; exact ⟨rfl, rfl⟩))
    (fun os started H enc _ => FnExportPart_lifted os started H enc)
#print axioms FnExportPart_holds
end Go.Proofs.YtokpibajolhelaaGreat

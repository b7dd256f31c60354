/- For every input the law laws.FnExactMatMul answers true, and each argument reads behind the call as it read before. No condition. -/
import Derived.Test.YtbibnkgcegbmiaaY0
set_option linter.all false
namespace Go.Proofs.Ytbibnkgcegbmiaa
open Go Go.Ev Go.RowKit Go.Ev.Enc Go.Pl Go.WideShapes Go.ChangeShapes
set_option maxRecDepth 100000 in
theorem FnExactMatMul_lifted (os : Os) (started : os.Started) (H : Type) (enc : TypeId × Value → H) :
    ReturnsInHanded {} Try.checked os 6 .any (Ytbibnkgcegbmiaa.Rows.fnExactMatMulSpec.pre6 enc Try.prog Try.f6 Ytbibnkgcegbmiaa.Rows.fnExactMatMulRow.domain false) (Ytbibnkgcegbmiaa.Rows.fnExactMatMulSpec.post enc Try.prog Try.f6 false true false false) := by
  refine returnsInHanded_of_change (C := Try.checked) Try.own started (by kernel_rfl) Try.func6
    (ChangeSpec.witness6 (enc := enc) (C := Try.checked) false ⟨#[], #[.agg #[.slice none 0 0, .slice none 0 0], .agg #[.slice none 0 0, .slice none 0 0]], []⟩ 8 (by kernel_rfl) (by kernel_rfl) (by kernel_rfl) (by kernel_rfl)) ?_
  intro W base args ds gs before hval hW _ _
  have hW' := hW
  obtain ⟨p, q, hA, hV, rfl, _, _⟩ := hW
  rw [Try.params6] at hA hval
  obtain ⟨v0, vs0, d0, ds0, p0, q0, ha0, rfl, rfl, t0, r0⟩ := trodAll_cons hA
  obtain ⟨v1, vs1, d1, ds1, p1, q1, ha1, rfl, rfl, t1, r1⟩ := trodAll_cons r0
  obtain ⟨rfl, rfl, rfl⟩ := trodAll_nil r1
  subst ha1
  obtain rfl : args = #[v0, v1] := by cases args; simp_all
  obtain ⟨rfl, rfl⟩ := trodVars_none hV
  obtain ⟨x0, s0, e0⟩ := Opens.argS Try.underlying37 (fun _ => ⟨_, rfl⟩) op_tsr H enc W 0 base _ true v0 d0 p0 (hval 0 _ v0 rfl rfl) t0
  obtain ⟨x1, s1, e1⟩ := Opens.argS Try.underlying37 (fun _ => ⟨_, rfl⟩) op_tsr H enc W 0 base _ true v1 d1 p1 (hval 1 _ v1 rfl rfl) t1
  have hg : gTrueM x0 x1 = some true := gd_eq (⟨⟨by have := s0.1.1; omega, by have := s0.2.1; omega⟩, ⟨by have := s1.1.1; omega, by have := s1.2.1; omega⟩⟩)
  have hc : CSpec Try.prog 6 [Enc.enc 0 x0, Enc.enc 0 x1] (.bool true) :=
    law_MatMul (((sndA.hide 27).hide 33)) sndA rfl rfl rfl rfl rfl rfl rfl rfl rfl rfl  (fun x h => o_toTensor (sndA.hide 20) rfl x h) (fun x y h => o_MatMul (sndA.hide 56) rfl x y h (fun h1 h2 => o_contractI sndA rfl rfl rfl rfl rfl rfl rfl rfl rfl rfl rfl _ _ _ h1 h2)) (fun x k b c L h1 h2 h3 h4 h5 => isp_markTensor sndA rfl x k b c L h1 h2 h3 h4 h5) (fun k L => isp_markTensorZ sndA rfl k L) _ _ (by simp only [F2, (ok _ _).2 rfl, Option.bind_some, hg, Option.map_some]; rfl)
  refine (law_calls hc (W := W) (args := #[v0, v1]) rfl ?_).mono fun e W' ⟨he, hb⟩ => ⟨_, he, law_post Try.laidOut (by decide +kernel) rfl rfl Try.underlying4 hW' rfl rfl rfl hb⟩
  intro i hi
  match i, hi with
  | 0, _ => exact e0
  | 1, _ => exact e1

theorem FnExactMatMul_holds : Ytbibnkgcegbmiaa.Rows.FnExactMatMulSaid :=
  OpenClaim.holds_of_wide 6 Try.f6 rfl rfl rfl rfl rfl rfl rfl ⟨rfl, rfl, rfl, rfl, rfl⟩ rfl rfl rfl rfl rfl (by kernel_rfl) Try.func6 (by kernel_rfl)
    (of_decide_eq_true (by kernel_rfl)) (by unfold Func.isWrapper; first | (rw [if_pos (by decide +kernel)]; kernel_rfl) | (rw [if_neg (by decide +kernel)]; exact ⟨rfl, rfl⟩))
    (fun os started H enc _ => FnExactMatMul_lifted os started H enc)
#print axioms FnExactMatMul_holds
end Go.Proofs.Ytbibnkgcegbmiaa

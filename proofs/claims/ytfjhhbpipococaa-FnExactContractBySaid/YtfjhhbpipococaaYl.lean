/- For every input the law laws.FnExactContractBy answers true, and each argument reads behind the call as it read before. No condition. -/
import Derived.Test.YtfjhhbpipococaaY0
set_option linter.all false
namespace Go.Proofs.Ytfjhhbpipococaa
open Go Go.Ev Go.RowKit Go.Ev.Enc Go.Pl Go.WideShapes Go.ChangeShapes
set_option maxRecDepth 100000 in
theorem FnExactContractBy_lifted (os : Os) (started : os.Started) (H : Type) (enc : TypeId × Value → H) :
    ReturnsInHanded {} Try.checked os 3 .any (Ytfjhhbpipococaa.Rows.fnExactContractBySpec.pre6 enc Try.prog Try.f3 Ytfjhhbpipococaa.Rows.fnExactContractByRow.domain false) (Ytfjhhbpipococaa.Rows.fnExactContractBySpec.post enc Try.prog Try.f3 false true false false) := by
  refine returnsInHanded_of_change (C := Try.checked) Try.own started (by kernel_rfl) Try.func3
    (ChangeSpec.witness6 (enc := enc) (C := Try.checked) false ⟨#[], #[.slice none 0 0, .slice none 0 0, .slice none 0 0, .int .i64 0, .int .i64 0], []⟩ 8 (by kernel_rfl) (by kernel_rfl) (by kernel_rfl) (by kernel_rfl)) ?_
  intro W base args ds gs before hval hW _ _
  have hW' := hW
  obtain ⟨p, q, hA, hV, rfl, _, _⟩ := hW
  rw [Try.params3] at hA hval
  obtain ⟨v0, vs0, d0, ds0, p0, q0, ha0, rfl, rfl, t0, r0⟩ := trodAll_cons hA
  obtain ⟨v1, vs1, d1, ds1, p1, q1, ha1, rfl, rfl, t1, r1⟩ := trodAll_cons r0
  obtain ⟨v2, vs2, d2, ds2, p2, q2, ha2, rfl, rfl, t2, r2⟩ := trodAll_cons r1
  obtain ⟨v3, vs3, d3, ds3, p3, q3, ha3, rfl, rfl, t3, r3⟩ := trodAll_cons r2
  obtain ⟨v4, vs4, d4, ds4, p4, q4, ha4, rfl, rfl, t4, r4⟩ := trodAll_cons r3
  obtain ⟨rfl, rfl, rfl⟩ := trodAll_nil r4
  subst ha4 ha3 ha2 ha1
  obtain rfl : args = #[v0, v1, v2, v3, v4] := by cases args; simp_all
  obtain ⟨rfl, rfl⟩ := trodVars_none hV
  obtain ⟨x0, s0, e0⟩ := Opens.argL Try.underlying22 op_tsrs H enc W 0 base _ true v0 d0 p0 (hval 0 _ v0 rfl rfl) t0
  obtain ⟨x1, s1, e1⟩ := Opens.argL Try.underlying23 op_intss H enc W 0 base _ true v1 d1 p1 (hval 1 _ v1 rfl rfl) t1
  obtain ⟨x2, s2, e2⟩ := Opens.argL Try.underlying24 op_ints H enc W 0 base _ true v2 d2 p2 (hval 2 _ v2 rfl rfl) t2
  obtain ⟨x3, s3, e3⟩ := Opens.argI Try.underlying3 op_int H enc W 0 base _ true v3 d3 p3 (hval 3 _ v3 rfl rfl) t3
  obtain ⟨x4, s4, e4⟩ := Opens.argI Try.underlying3 op_int H enc W 0 base _ true v4 d4 p4 (hval 4 _ v4 rfl rfl) t4
  have hg : gTrueD x0 x1 x2 x3 x4 = some true := gd_eq (⟨⟨by have := s0.1; omega, by have := s1.1; omega, by have := s2.1; omega⟩, tsrs_of_allS s0, big_of_allS s1⟩)
  have hc : CSpec Try.prog 3 [Enc.enc 0 x0, Enc.enc 0 x1, Enc.enc 0 x2, Enc.enc 0 x3, Enc.enc 0 x4] (.bool true) :=
    law_ConByX ((((sndA.hide 11).hide 12).hide 13).hide 14) sndA rfl rfl rfl rfl rfl rfl rfl rfl rfl rfl rfl rfl rfl rfl rfl rfl (fun l h1 h2 => o_toTensorS (sndA.hide 47) rfl l h1 h2 (fun x h => o_toTensor (sndA.hide 13) rfl x h)) (fun l h1 h2 => o_toIntSS (sndA.hide 13) rfl l h1 h2 (fun x h => o_toIntS sndA x h)) (fun x h => o_toIntS sndA x h) (fun l b out i j h1 h2 => o_ContractByI (sndA.hide 52) sndA rfl rfl rfl rfl rfl rfl l b out i j h1 h2 (fun h1 h2 => o_contractI sndA rfl rfl rfl rfl rfl rfl rfl rfl rfl rfl rfl _ _ _ h1 h2)) (fun l k b L a1 a2 a3 a4 => isp_markTensorS sndA rfl l k b L a1 a2 a3 a4) (fun l k b L a1 a2 a3 a4 => isp_markIntSS sndA rfl l k b L a1 a2 a3 a4) (fun l k b L a1 a2 a3 => isp_markIntL sndA l k b L a1 a2 a3) (fun x k b c L h1 h2 h3 h4 h5 => isp_markTensor sndA rfl x k b c L h1 h2 h3 h4 h5) (fun k L => isp_markTensorZ sndA rfl k L) (fun v k c L a1 a2 a3 => isp_markTensorV sndA rfl v k c L a1 a2 a3) _ _ (by simp only [F5, (ok _ _).2 rfl, Option.bind_some, hg, Option.map_some]; rfl)
  refine (law_calls hc (W := W) (args := #[v0, v1, v2, v3, v4]) rfl ?_).mono fun e W' ⟨he, hb⟩ => ⟨_, he, law_post Try.laidOut (by decide +kernel) rfl rfl Try.underlying4 hW' rfl rfl rfl hb⟩
  intro i hi
  match i, hi with
  | 0, _ => exact e0
  | 1, _ => exact e1
  | 2, _ => exact e2
  | 3, _ => exact e3
  | 4, _ => exact e4

theorem FnExactContractBy_holds : Ytfjhhbpipococaa.Rows.FnExactContractBySaid :=
  OpenClaim.holds_of_wide 3 Try.f3 rfl rfl rfl rfl rfl rfl rfl ⟨rfl, rfl, rfl, rfl, rfl⟩ rfl rfl rfl rfl rfl (by kernel_rfl) Try.func3 (by kernel_rfl)
    (of_decide_eq_true (by kernel_rfl)) (by unfold Func.isWrapper; first | (rw [if_pos (by decide +kernel)]; kernel_rfl) | (rw [if_neg (by decide +kernel)]; exact ⟨rfl, rfl⟩))
    (fun os started H enc _ => FnExactContractBy_lifted os started H enc)
#print axioms FnExactContractBy_holds
end Go.Proofs.Ytfjhhbpipococaa

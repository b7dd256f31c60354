/- Contracts of functions that the laws of this seat call. -/
import Derived.Test.YtkmnepmnjpdpkaaGreatDoorCards
import Derived.ProofKit
import Derived.JoinedOf
import Derived.SevenTiedAt
set_option linter.all false
namespace Go.Proofs.YtkmnepmnjpdpkaaGreatDoor
open Go Go.Proofs.YtkmnepmnjpdpkaaGreatDoor
set_option maxRecDepth 100000
theorem fn_XAp : Tryz.pinned.checked.prog.funcNamed "loop.example/strideviews/laws.FnExactApplyAct" = some 12 := by kernel_rfl
theorem wf_XAp : YtkmnepmnjpdpkaaGreatDoor.Rows.fnExactApplyActRow.wfByText (OpenSpec.ofChange YtkmnepmnjpdpkaaGreatDoor.Rows.fnExactApplyActSpec) = true := by kernel_rfl
theorem mi_XAp : Tryz.pinned.checked.prog.mainIs = some (true, "9e85e0f913c60b1956d2212bb7fc9ff9241e8d7f2dcf79aafd18c45c543253ff".toList) := by kernel_rfl
theorem gb_XAp : false = YtkmnepmnjpdpkaaGreatDoor.Rows.fnExactApplyActRow.goesBy Tryz.pinned.checked.prog := by kernel_rfl
theorem lk_XAp : true = Tryz.pinned.checked.prog.looks [] := by kernel_rfl
theorem ws_XAp : ([60, 61].all fun u => !Tryz.prog.wantsStandIn u) = true := by kernel_rfl
theorem in_XAp : (Tryz.f12).isInstance Tryz.pinned.checked.prog YtkmnepmnjpdpkaaGreatDoor.Rows.fnExactApplyActRow.origin YtkmnepmnjpdpkaaGreatDoor.Rows.fnExactApplyActRow.targs := of_decide_eq_true (by kernel_rfl)
theorem wr_XAp : (Tryz.f12).isWrapper Tryz.pinned.checked.prog YtkmnepmnjpdpkaaGreatDoor.Rows.fnExactApplyActRow.wrapper YtkmnepmnjpdpkaaGreatDoor.Rows.fnExactApplyActRow.mainSum := by unfold Func.isWrapper; first | (rw [if_pos (by decide +kernel)]; kernel_rfl) | (rw [if_neg (by decide +kernel)]; exact ⟨rfl, rfl⟩)
end Go.Proofs.YtkmnepmnjpdpkaaGreatDoor

/- Contracts of functions that the laws of this seat call. -/
import Derived.Test.YtkmnepmnjpdpkaaDoorCards
import Derived.ProofKit
import Derived.JoinedOf
import Derived.SevenTiedAt
set_option linter.all false
namespace Go.Proofs.YtkmnepmnjpdpkaaDoor
open Go Go.Proofs.YtkmnepmnjpdpkaaDoor
set_option maxRecDepth 100000
theorem fn_XAc : Tryd.pinned.checked.prog.funcNamed "loop.example/strideviews/laws.FnExactActsIn" = some 4 := by kernel_rfl
theorem wf_XAc : YtkmnepmnjpdpkaaDoor.Rows.fnExactActsInRow.wfByText (OpenSpec.ofChange YtkmnepmnjpdpkaaDoor.Rows.fnExactActsInSpec) = true := by kernel_rfl
theorem mi_XAc : Tryd.pinned.checked.prog.mainIs = some (true, "e0953dc8d6903d8d4c7f0a0c70735358465245c399a12ea13b1a3887027ec25c".toList) := by kernel_rfl
theorem gb_XAc : false = YtkmnepmnjpdpkaaDoor.Rows.fnExactActsInRow.goesBy Tryd.pinned.checked.prog := by kernel_rfl
theorem lk_XAc : true = Tryd.pinned.checked.prog.looks [] := by kernel_rfl
theorem ws_XAc : ([9].all fun u => !Tryd.prog.wantsStandIn u) = true := by kernel_rfl
theorem in_XAc : (Tryd.f4).isInstance Tryd.pinned.checked.prog YtkmnepmnjpdpkaaDoor.Rows.fnExactActsInRow.origin YtkmnepmnjpdpkaaDoor.Rows.fnExactActsInRow.targs := of_decide_eq_true (by kernel_rfl)
theorem wr_XAc : (Tryd.f4).isWrapper Tryd.pinned.checked.prog YtkmnepmnjpdpkaaDoor.Rows.fnExactActsInRow.wrapper YtkmnepmnjpdpkaaDoor.Rows.fnExactActsInRow.mainSum := by unfold Func.isWrapper; first | (rw [if_pos (by decide +kernel)]; kernel_rfl) | (rw [if_neg (by decide +kernel)]; exact ⟨rfl, rfl⟩)
end Go.Proofs.YtkmnepmnjpdpkaaDoor

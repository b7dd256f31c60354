/- Contracts of functions that the laws of this seat call. -/
import Derived.Test.YtkmnepmnjpdpkaaDoorCards
import Derived.ProofKit
import Derived.JoinedOf
import Derived.SevenTiedAt
set_option linter.all false
namespace Go.Proofs.YtkmnepmnjpdpkaaDoor
open Go Go.Proofs.YtkmnepmnjpdpkaaDoor
set_option maxRecDepth 100000
theorem fn_XPa : Tryd.pinned.checked.prog.funcNamed "loop.example/strideviews/laws.FnExactParseAct" = some 3 := by kernel_rfl
theorem wf_XPa : YtkmnepmnjpdpkaaDoor.Rows.fnExactParseActRow.wfByText (OpenSpec.ofChange YtkmnepmnjpdpkaaDoor.Rows.fnExactParseActSpec) = true := by kernel_rfl
theorem mi_XPa : Tryd.pinned.checked.prog.mainIs = some (true, "e0953dc8d6903d8d4c7f0a0c70735358465245c399a12ea13b1a3887027ec25c".toList) := by kernel_rfl
theorem gb_XPa : false = YtkmnepmnjpdpkaaDoor.Rows.fnExactParseActRow.goesBy Tryd.pinned.checked.prog := by kernel_rfl
theorem lk_XPa : true = Tryd.pinned.checked.prog.looks [] := by kernel_rfl
theorem ws_XPa : ([9].all fun u => !Tryd.prog.wantsStandIn u) = true := by kernel_rfl
theorem in_XPa : (Tryd.f3).isInstance Tryd.pinned.checked.prog YtkmnepmnjpdpkaaDoor.Rows.fnExactParseActRow.origin YtkmnepmnjpdpkaaDoor.Rows.fnExactParseActRow.targs := of_decide_eq_true (by kernel_rfl)
theorem wr_XPa : (Tryd.f3).isWrapper Tryd.pinned.checked.prog YtkmnepmnjpdpkaaDoor.Rows.fnExactParseActRow.wrapper YtkmnepmnjpdpkaaDoor.Rows.fnExactParseActRow.mainSum := by unfold Func.isWrapper; first | (rw [if_pos (by decide +kernel)]; kernel_rfl) | (rw [if_neg (by decide +kernel)]; exact ⟨rfl, rfl⟩)
end Go.Proofs.YtkmnepmnjpdpkaaDoor

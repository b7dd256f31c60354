/- Contracts of functions that the laws of this seat call. -/
import Derived.Test.YtkmnepmnjpdpkaaGreatDoorXd
set_option linter.all false
namespace Go.Proofs.YtkmnepmnjpdpkaaGreatDoor
open Go Go.Ev Go.RowKit Go.Ev.Enc Go.Pl

instance (a : Ac) : Decidable (actV a) := by unfold actV actN; infer_instance
theorem dec_vi1 (b x y : Int) : (dec (.agg [.int .i64 b, .ds 0 [.int .i64 x], .ds 0 [.int .i64 y]]) : Option Vi) = some ⟨b, [x], [y]⟩ := (ok _ _).2 rfl
attribute [go_sem] dec_vi1
end Go.Proofs.YtkmnepmnjpdpkaaGreatDoor

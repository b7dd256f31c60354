/- Contracts of functions on views and memories that the laws of this seat call. -/
import Derived.Test.YtkmnepmnjpdpkaaDoorWB
set_option linter.all false
namespace Go.Proofs.YtkmnepmnjpdpkaaDoor
open Go Go.Ev Go.RowKit Go.Ev.Enc Go.Pl

end Go.Proofs.YtkmnepmnjpdpkaaDoor
namespace Go.Proofs.YtkmnepmnjpdpkaaDoor
open Go Go.Ev Go.RowKit Go.Ev.Enc Go.Pl

end Go.Proofs.YtkmnepmnjpdpkaaDoor
namespace Go.Proofs.YtkmnepmnjpdpkaaDoor
open Go Go.Ev Go.RowKit Go.Ev.Enc Go.Pl

end Go.Proofs.YtkmnepmnjpdpkaaDoor
namespace Go.Proofs.YtkmnepmnjpdpkaaDoor
open Go Go.Ev Go.RowKit Go.Ev.Enc Go.Pl

end Go.Proofs.YtkmnepmnjpdpkaaDoor
namespace Go.Proofs.YtkmnepmnjpdpkaaDoor
open Go Go.Ev Go.RowKit Go.Ev.Enc Go.Pl

end Go.Proofs.YtkmnepmnjpdpkaaDoor
namespace Go.Proofs.YtkmnepmnjpdpkaaDoor
open Go Go.Ev Go.RowKit Go.Ev.Enc Go.Pl

end Go.Proofs.YtkmnepmnjpdpkaaDoor
namespace Go.Proofs.YtkmnepmnjpdpkaaDoor
open Go Go.Ev Go.RowKit Go.Ev.Enc Go.Pl

end Go.Proofs.YtkmnepmnjpdpkaaDoor

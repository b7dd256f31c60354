/- Contracts of functions on views and memories that the laws of this seat call. -/
import Derived.Test.YtokpibajolhelaaGreatWB
set_option linter.all false
namespace Go.Proofs.YtokpibajolhelaaGreat
open Go Go.Ev Go.RowKit Go.Ev.Enc Go.Pl

end Go.Proofs.YtokpibajolhelaaGreat
namespace Go.Proofs.YtokpibajolhelaaGreat
open Go Go.Ev Go.RowKit Go.Ev.Enc Go.Pl

end Go.Proofs.YtokpibajolhelaaGreat
namespace Go.Proofs.YtokpibajolhelaaGreat
open Go Go.Ev Go.RowKit Go.Ev.Enc Go.Pl

end Go.Proofs.YtokpibajolhelaaGreat
namespace Go.Proofs.YtokpibajolhelaaGreat
open Go Go.Ev Go.RowKit Go.Ev.Enc Go.Pl

end Go.Proofs.YtokpibajolhelaaGreat
namespace Go.Proofs.YtokpibajolhelaaGreat
open Go Go.Ev Go.RowKit Go.Ev.Enc Go.Pl

end Go.Proofs.YtokpibajolhelaaGreat
namespace Go.Proofs.YtokpibajolhelaaGreat
open Go Go.Ev Go.RowKit Go.Ev.Enc Go.Pl

end Go.Proofs.YtokpibajolhelaaGreat
namespace Go.Proofs.YtokpibajolhelaaGreat
open Go Go.Ev Go.RowKit Go.Ev.Enc Go.Pl

end Go.Proofs.YtokpibajolhelaaGreat

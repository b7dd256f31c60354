/- Contracts of functions that the laws of this seat call. -/
import Derived.Shelf.Sort.Plain
import Derived.Shelf.Slices.CompactI
import Derived.Shelf.Slices.In.SortNone
import Derived.Test.YtokpibajolhelaaGreatProg
set_option linter.all false
namespace Go.Proofs.YtokpibajolhelaaGreat
open Go.Shelf
end Go.Proofs.YtokpibajolhelaaGreat

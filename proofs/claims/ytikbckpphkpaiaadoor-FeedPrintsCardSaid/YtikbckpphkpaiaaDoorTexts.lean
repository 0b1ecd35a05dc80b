/- Texts and Ints of the document. -/
import Derived.Test.YtikbckpphkpaiaaDoorHolds
namespace Go.Proofs.YtikbckpphkpaiaaDoor
open Go.Shelf Go.RowKit Go.Maps
set_option linter.unusedVariables false



end Go.Proofs.YtikbckpphkpaiaaDoor

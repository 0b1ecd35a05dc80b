/- Nothing: a place in the order of building. -/
import Derived.Test.YtcgangmmehbdoaaDoorRefS
namespace Go.Proofs.YtcgangmmehbdoaaDoor
open Go.Shelf Go.RowKit Go.Maps
set_option linter.unusedVariables false


end Go.Proofs.YtcgangmmehbdoaaDoor

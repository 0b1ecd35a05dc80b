/- awake of the laws; CatalogStays: the walk. -/
import Derived.Test.YtikbckpphkpaiaaDoorLawFew
namespace Go.Proofs.YtikbckpphkpaiaaDoor
open Go.Shelf Go.RowKit Go.Maps
set_option linter.unusedVariables false

theorem ev_x1 : EvSh eX1 := by unfold EvSh; decide +kernel
theorem ev_x2 : EvSh eX2 := by unfold EvSh; decide +kernel
def itArr (x : It) : Array Value := #[.string x.name, .string x.maker, .string x.tags, .int .i64 x.stock, .int .i64 x.price, .int .i64 x.born, .bool x.listed]


end Go.Proofs.YtikbckpphkpaiaaDoor

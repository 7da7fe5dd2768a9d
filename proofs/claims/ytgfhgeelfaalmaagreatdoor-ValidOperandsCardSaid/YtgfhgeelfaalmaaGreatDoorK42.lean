/- Lemmas and contracts of functions, several texts in one: H5 H6. -/
import Derived.Test.YtgfhgeelfaalmaaGreatDoorK41
import Derived.Test.YtgfhgeelfaalmaaGreatDoorK32
namespace Go.Proofs.YtgfhgeelfaalmaaGreatDoor
open Go.RowKit
set_option maxRecDepth 100000
set_option linter.unusedVariables false
set_option linter.unusedSimpArgs false
end Go.Proofs.YtgfhgeelfaalmaaGreatDoor

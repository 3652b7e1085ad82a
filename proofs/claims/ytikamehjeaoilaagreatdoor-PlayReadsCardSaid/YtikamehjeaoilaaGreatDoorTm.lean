/- The law's Make of a tick. -/
import Derived.Test.YtikamehjeaoilaaGreatDoorTk
set_option linter.unusedVariables false
set_option linter.unusedSimpArgs false
namespace Go.Proofs.YtikamehjeaoilaaGreatDoor
open Go.RowKit

end Go.Proofs.YtikamehjeaoilaaGreatDoor

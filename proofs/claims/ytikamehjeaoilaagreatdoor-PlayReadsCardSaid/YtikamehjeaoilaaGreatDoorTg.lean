/- A tick of the coordinator, or of a shard, written as a line. -/
import Derived.Test.YtikamehjeaoilaaGreatDoorTh
import Derived.Lib.ItoaMem
import Derived.Lib.AppendIntMem
import Derived.Lib.ItoaLen
set_option linter.unusedVariables false
set_option linter.unusedSimpArgs false
namespace Go.Proofs.YtikamehjeaoilaaGreatDoor
open Go.RowKit

end Go.Proofs.YtikamehjeaoilaaGreatDoor

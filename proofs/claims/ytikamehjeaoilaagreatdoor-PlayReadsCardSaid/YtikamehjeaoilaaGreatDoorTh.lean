/- Plain words on scripts of ticks: lines, answers, numbers; no program is walked. -/
import Derived.Test.YtikamehjeaoilaaGreatDoorTf
set_option linter.unusedVariables false
set_option linter.unusedSimpArgs false
namespace Go.Proofs.YtikamehjeaoilaaGreatDoor
open Go.RowKit

/-! ### A tick's number -/
end Go.Proofs.YtikamehjeaoilaaGreatDoor

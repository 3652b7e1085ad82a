-- PRINTED BY print.sh 35421559b90ae4d0a3588c463048766b98c2df88dd9212a6774a882060cdf62d: not written by this session
import Derived.Test.YtpndngcopfpdgaaProg
import Derived.Below
import Derived.Deep.Draws
import Derived.Deep.AppendLies
import Derived.Maps.AppendAt
import Derived.OwnWalk
import Derived.Laws.BytesArg
import Derived.Laws.MakeOwn
import Derived.Laws.OwnMore
import Derived.Deep.OwnRows
import Derived.Tactics
import Derived.Lib.ConvBytes
import Derived.Laws.Slices
import Derived.WalkKit
import Derived.KernelRfl
import Derived.RowKit3
import Derived.Deep.LoopGhost
import Derived.Deep.QuietTactic
import Derived.BigQuiet
import Derived.WideLaws
import Derived.Deep.DeepCutAuto
import Derived.Deep.CutBlock
import Derived.Deep.RegionHeld3
import Derived.Laws.Rows
import Derived.Lib.AppendStr
import Derived.ArgAppend
import Derived.Laws.IdiomCopy
import Derived.OrdersHeld
import Derived.Laws.BitsLemmas
import Derived.RowKit
import Derived.Test.YtpndngcopfpdgaaWWords
import Derived.Test.YtpndngcopfpdgaaWLast
import Derived.Test.YtpndngcopfpdgaaWTab
import Derived.Test.YtpndngcopfpdgaaWFour
import Derived.Test.YtpndngcopfpdgaaWQPut
import Derived.Test.YtpndngcopfpdgaaWApart
import Derived.Test.YtpndngcopfpdgaaWArr
import Derived.Test.YtpndngcopfpdgaaWZeros
import Derived.Test.YtpndngcopfpdgaaWFoot
import Derived.Test.YtpndngcopfpdgaaWKept
import Derived.Test.YtpndngcopfpdgaaWShare
import Derived.Test.YtpndngcopfpdgaaWN
import Derived.Test.YtpndngcopfpdgaaWFootNe
import Derived.Test.YtpndngcopfpdgaaWAt
import Derived.Test.YtpndngcopfpdgaaWEqStruct
import Derived.Test.YtpndngcopfpdgaaWRepsOne
import Derived.Test.YtpndngcopfpdgaaWInv
import Derived.Test.YtpndngcopfpdgaaWInvWords
import Derived.Test.YtpndngcopfpdgaaWGuard
import Derived.Test.YtpndngcopfpdgaaWNEv
import Derived.Test.YtpndngcopfpdgaaWMore
namespace Go.Proofs.Ytpndngcopfpdgaa.PScoreMore
open Go.RowKit Go.Proofs.YtpndngcopfpdgaaW.PrintWords Go.Proofs.YtpndngcopfpdgaaW.PrintLast Go.Proofs.YtpndngcopfpdgaaW.PrintMore
attribute [local go_sem] max2_int min2_int max_two min_two max_three min_three max_four min_four   -- for this text's walks alone
set_option linter.unusedVariables false
set_option linter.unusedSimpArgs false



def errW : Option Int → Value
  | none => .nilIface
  | some c => .iface 0 (.int .i64 c)
theorem errW_none : errW none = .nilIface := rfl
theorem errW_some (c : Int) : errW (some c) = .iface 0 (.int .i64 c) := rfl

-- the values' own types

end Go.Proofs.Ytpndngcopfpdgaa.PScoreMore

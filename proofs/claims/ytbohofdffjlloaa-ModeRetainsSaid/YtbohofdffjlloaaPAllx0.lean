-- Ytbohofdffjlloaa: functions of the translation, their Lean counterparts and contracts (laid by a program of this claim's session)
import Derived.Test.YtbohofdffjlloaaProg
import Derived.Below
import Derived.Deep.Draws
import Derived.Deep.AppendLies
import Derived.Maps.AppendAt
import Derived.OwnWalk
import Derived.Laws.BytesArg
import Derived.Laws.MakeOwn
import Derived.Laws.OwnMore
import Derived.Deep.OwnRows
import Derived.Tactics
import Derived.Lib.ConvBytes
import Derived.Laws.Slices
import Derived.WalkKit
import Derived.KernelRfl
import Derived.RowKit3
import Derived.Deep.LoopGhost
import Derived.Deep.QuietTactic
import Derived.BigQuiet
import Derived.WideLaws
import Derived.Deep.DeepCutAuto
import Derived.Deep.CutBlock
import Derived.Deep.RegionHeld3
import Derived.Laws.Rows
import Derived.Lib.AppendStr
import Derived.ArgAppend
import Derived.Laws.IdiomCopy
import Derived.OrdersHeld
import Derived.Laws.BitsLemmas
import Derived.RowKit
import Derived.Test.YtbohofdffjlloaaWWords
import Derived.Test.YtbohofdffjlloaaWLast
import Derived.Test.YtbohofdffjlloaaWTab
import Derived.Test.YtbohofdffjlloaaWFour
import Derived.Test.YtbohofdffjlloaaWQPut
import Derived.Test.YtbohofdffjlloaaWApart
import Derived.Test.YtbohofdffjlloaaWArr
import Derived.Test.YtbohofdffjlloaaWZeros
import Derived.Test.YtbohofdffjlloaaWFoot
import Derived.Test.YtbohofdffjlloaaWKept
import Derived.Test.YtbohofdffjlloaaWShare
import Derived.Test.YtbohofdffjlloaaWN
import Derived.Test.YtbohofdffjlloaaWFootNe
import Derived.Test.YtbohofdffjlloaaWAt
import Derived.Test.YtbohofdffjlloaaWEqStruct
import Derived.Test.YtbohofdffjlloaaWRepsOne
import Derived.Test.YtbohofdffjlloaaWInv
import Derived.Test.YtbohofdffjlloaaWInvWords
import Derived.Test.YtbohofdffjlloaaWGuard
import Derived.Test.YtbohofdffjlloaaWNEv
import Derived.Test.YtbohofdffjlloaaWMore
namespace Go.Proofs.Ytbohofdffjlloaa.PAll
open Go.RowKit Go.Proofs.YtbohofdffjlloaaW.PrintWords Go.Proofs.YtbohofdffjlloaaW.PrintLast Go.Proofs.YtbohofdffjlloaaW.PrintMore
attribute [local go_sem] max2_int min2_int max_two min_two max_three min_three max_four min_four   -- for this text's walks alone
set_option linter.unusedVariables false
set_option linter.unusedSimpArgs false



def errW : Option Int → Value
  | none => .nilIface
  | some c => .iface 0 (.int .i64 c)
theorem errW_none : errW none = .nilIface := rfl
theorem errW_some (c : Int) : errW (some c) = .iface 0 (.int .i64 c) := rfl

-- the values' own types

end Go.Proofs.Ytbohofdffjlloaa.PAll

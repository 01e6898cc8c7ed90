-- Ytdabjklbmmnlkaa: functions of the translation, their Lean counterparts and contracts (laid by a program of this claim's session)
import Derived.Test.YtdabjklbmmnlkaaProg
import Derived.Below
import Derived.Deep.Draws
import Derived.Deep.AppendLies
import Derived.Maps.AppendAt
import Derived.OwnWalk
import Derived.Laws.BytesArg
import Derived.Laws.MakeOwn
import Derived.Laws.OwnMore
import Derived.Deep.OwnRows
import Derived.Tactics
import Derived.Lib.ConvBytes
import Derived.Laws.Slices
import Derived.WalkKit
import Derived.KernelRfl
import Derived.RowKit3
import Derived.Deep.LoopGhost
import Derived.Deep.QuietTactic
import Derived.BigQuiet
import Derived.WideLaws
import Derived.Deep.DeepCutAuto
import Derived.Deep.CutBlock
import Derived.Deep.RegionHeld3
import Derived.Laws.Rows
import Derived.Lib.AppendStr
import Derived.ArgAppend
import Derived.Laws.IdiomCopy
import Derived.OrdersHeld
import Derived.Laws.BitsLemmas
import Derived.RowKit
import Derived.Test.YtdabjklbmmnlkaaRefW
import Derived.Test.YtdabjklbmmnlkaaPAllx1
import Derived.Test.YtdabjklbmmnlkaaPAllx2
import Derived.Test.YtdabjklbmmnlkaaWWords
import Derived.Test.YtdabjklbmmnlkaaWLast
import Derived.Test.YtdabjklbmmnlkaaWTab
import Derived.Test.YtdabjklbmmnlkaaWFour
import Derived.Test.YtdabjklbmmnlkaaWQPut
import Derived.Test.YtdabjklbmmnlkaaWApart
import Derived.Test.YtdabjklbmmnlkaaWArr
import Derived.Test.YtdabjklbmmnlkaaWZeros
import Derived.Test.YtdabjklbmmnlkaaWFoot
import Derived.Test.YtdabjklbmmnlkaaWKept
import Derived.Test.YtdabjklbmmnlkaaWShare
import Derived.Test.YtdabjklbmmnlkaaWN
import Derived.Test.YtdabjklbmmnlkaaWFootNe
import Derived.Test.YtdabjklbmmnlkaaWAt
import Derived.Test.YtdabjklbmmnlkaaWEqStruct
import Derived.Test.YtdabjklbmmnlkaaWRepsOne
import Derived.Test.YtdabjklbmmnlkaaWInv
import Derived.Test.YtdabjklbmmnlkaaWInvWords
import Derived.Test.YtdabjklbmmnlkaaWGuard
import Derived.Test.YtdabjklbmmnlkaaWNEv
import Derived.Test.YtdabjklbmmnlkaaWMore
namespace Go.Proofs.Ytdabjklbmmnlkaa.PAll.Rf
open Go.RowKit Go.Proofs.YtdabjklbmmnlkaaW.PrintWords Go.Proofs.YtdabjklbmmnlkaaW.PrintLast Go.Proofs.YtdabjklbmmnlkaaW.PrintMore
attribute [local go_sem] max2_int min2_int max_two min_two max_three min_three max_four min_four   -- for this text's walks alone
set_option linter.unusedVariables false
set_option linter.unusedSimpArgs false



def errW : Option Int → Value
  | none => .nilIface
  | some c => .iface 0 (.int .i64 c)
theorem errW_none : errW none = .nilIface := rfl
theorem errW_some (c : Int) : errW (some c) = .iface 0 (.int .i64 c) := rfl

theorem info9 : (Try.prog.info? 9).map (fun i => (i.zero, i.size, i.bytes)) = some (some (.string ⟨#[]⟩), 1, 16) := by kernel_rfl
-- the values' own types

end Go.Proofs.Ytdabjklbmmnlkaa.PAll.Rf

-- Ytnfajlnpmndkdaa: functions of the translation, their Lean counterparts and contracts (laid by a program of this claim's session)
import Derived.Test.YtnfajlnpmndkdaaProg
import Derived.Below
import Derived.Deep.Draws
import Derived.Deep.AppendLies
import Derived.Maps.AppendAt
import Derived.OwnWalk
import Derived.Laws.BytesArg
import Derived.Laws.MakeOwn
import Derived.Laws.OwnMore
import Derived.Deep.OwnRows
import Derived.Tactics
import Derived.Lib.ConvBytes
import Derived.Laws.Slices
import Derived.WalkKit
import Derived.KernelRfl
import Derived.RowKit3
import Derived.Deep.LoopGhost
import Derived.Deep.QuietTactic
import Derived.BigQuiet
import Derived.WideLaws
import Derived.Deep.DeepCutAuto
import Derived.Deep.CutBlock
import Derived.Deep.RegionHeld3
import Derived.Laws.Rows
import Derived.Lib.AppendStr
import Derived.ArgAppend
import Derived.Laws.IdiomCopy
import Derived.OrdersHeld
import Derived.Laws.BitsLemmas
import Derived.RowKit
import Derived.Test.YtnfajlnpmndkdaaWWords
import Derived.Test.YtnfajlnpmndkdaaWLast
import Derived.Test.YtnfajlnpmndkdaaWTab
import Derived.Test.YtnfajlnpmndkdaaWFour
import Derived.Test.YtnfajlnpmndkdaaWQPut
import Derived.Test.YtnfajlnpmndkdaaWApart
import Derived.Test.YtnfajlnpmndkdaaWArr
import Derived.Test.YtnfajlnpmndkdaaWZeros
import Derived.Test.YtnfajlnpmndkdaaWFoot
import Derived.Test.YtnfajlnpmndkdaaWKept
import Derived.Test.YtnfajlnpmndkdaaWShare
import Derived.Test.YtnfajlnpmndkdaaWN
import Derived.Test.YtnfajlnpmndkdaaWFootNe
import Derived.Test.YtnfajlnpmndkdaaWAt
import Derived.Test.YtnfajlnpmndkdaaWEqStruct
import Derived.Test.YtnfajlnpmndkdaaWRepsOne
import Derived.Test.YtnfajlnpmndkdaaWInv
import Derived.Test.YtnfajlnpmndkdaaWInvWords
import Derived.Test.YtnfajlnpmndkdaaWGuard
import Derived.Test.YtnfajlnpmndkdaaWNEv
import Derived.Test.YtnfajlnpmndkdaaWMore
namespace Go.Proofs.Ytnfajlnpmndkdaa.PAll
open Go.RowKit Go.Proofs.YtnfajlnpmndkdaaW.PrintWords Go.Proofs.YtnfajlnpmndkdaaW.PrintLast Go.Proofs.YtnfajlnpmndkdaaW.PrintMore
attribute [local go_sem] max2_int min2_int max_two min_two max_three min_three max_four min_four   -- for this text's walks alone
set_option linter.unusedVariables false
set_option linter.unusedSimpArgs false



def errW : Option Int → Value
  | none => .nilIface
  | some c => .iface 0 (.int .i64 c)
theorem errW_none : errW none = .nilIface := rfl
theorem errW_some (c : Int) : errW (some c) = .iface 0 (.int .i64 c) := rfl

theorem info5 : (Try.prog.info? 5).map (fun i => (i.zero, i.size, i.bytes)) = some (some (.int .u8 0), 1, 1) := by kernel_rfl
-- the values' own types

end Go.Proofs.Ytnfajlnpmndkdaa.PAll

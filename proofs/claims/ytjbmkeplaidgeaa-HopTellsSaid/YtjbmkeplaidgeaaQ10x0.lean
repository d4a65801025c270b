-- by a program of this work (wip/tools): not the kit's own print
import Derived.Test.YtjbmkeplaidgeaaProg
import Derived.Below
import Derived.Deep.Draws
import Derived.Deep.AppendLies
import Derived.Maps.AppendAt
import Derived.OwnWalk
import Derived.Laws.BytesArg
import Derived.Laws.MakeOwn
import Derived.Laws.OwnMore
import Derived.Deep.OwnRows
import Derived.Tactics
import Derived.Lib.ConvBytes
import Derived.Laws.Slices
import Derived.WalkKit
import Derived.KernelRfl
import Derived.RowKit3
import Derived.Deep.LoopGhost
import Derived.Deep.QuietTactic
import Derived.BigQuiet
import Derived.WideLaws
import Derived.Deep.DeepCutAuto
import Derived.Deep.CutBlock
import Derived.Deep.RegionHeld3
import Derived.Laws.Rows
import Derived.Lib.AppendStr
import Derived.ArgAppend
import Derived.Laws.IdiomCopy
import Derived.OrdersHeld
import Derived.Laws.BitsLemmas
import Derived.RowKit
import Derived.Test.YtjbmkeplaidgeaaWWords
import Derived.Test.YtjbmkeplaidgeaaWLast
import Derived.Test.YtjbmkeplaidgeaaWTab
import Derived.Test.YtjbmkeplaidgeaaWFour
import Derived.Test.YtjbmkeplaidgeaaWQPut
import Derived.Test.YtjbmkeplaidgeaaWApart
import Derived.Test.YtjbmkeplaidgeaaWArr
import Derived.Test.YtjbmkeplaidgeaaWZeros
import Derived.Test.YtjbmkeplaidgeaaWFoot
import Derived.Test.YtjbmkeplaidgeaaWKept
import Derived.Test.YtjbmkeplaidgeaaWShare
import Derived.Test.YtjbmkeplaidgeaaWN
import Derived.Test.YtjbmkeplaidgeaaWFootNe
import Derived.Test.YtjbmkeplaidgeaaWAt
import Derived.Test.YtjbmkeplaidgeaaWEqStruct
import Derived.Test.YtjbmkeplaidgeaaWRepsOne
import Derived.Test.YtjbmkeplaidgeaaWInv
import Derived.Test.YtjbmkeplaidgeaaWInvWords
import Derived.Test.YtjbmkeplaidgeaaWGuard
import Derived.Test.YtjbmkeplaidgeaaWNEv
import Derived.Test.YtjbmkeplaidgeaaWMore
namespace Go.Proofs.Ytjbmkeplaidgeaa.Q10
open Go.RowKit Go.Proofs.YtjbmkeplaidgeaaW.PrintWords Go.Proofs.YtjbmkeplaidgeaaW.PrintLast Go.Proofs.YtjbmkeplaidgeaaW.PrintMore
attribute [local go_sem] max2_int min2_int max_two min_two max_three min_three max_four min_four   -- for this text's walks alone
set_option linter.unusedVariables false
set_option linter.unusedSimpArgs false



def errW : Option Int → Value
  | none => .nilIface
  | some c => .iface 0 (.int .i64 c)
theorem errW_none : errW none = .nilIface := rfl
theorem errW_some (c : Int) : errW (some c) = .iface 0 (.int .i64 c) := rfl

-- the values' own types

end Go.Proofs.Ytjbmkeplaidgeaa.Q10

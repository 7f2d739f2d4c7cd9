-- Printed by a program of this session's (wip/lab) after the kit's print: Lean checks it.
import Derived.Test.YtamgmceogjgijaaDoorProg
import Derived.Below
import Derived.Deep.Draws
import Derived.Deep.AppendLies
import Derived.Maps.AppendAt
import Derived.OwnWalk
import Derived.Laws.BytesArg
import Derived.Laws.MakeOwn
import Derived.Laws.OwnMore
import Derived.Deep.OwnRows
import Derived.Tactics
import Derived.Lib.ConvBytes
import Derived.Laws.Slices
import Derived.WalkKit
import Derived.KernelRfl
import Derived.RowKit3
import Derived.Deep.LoopGhost
import Derived.Deep.QuietTactic
import Derived.BigQuiet
import Derived.WideLaws
import Derived.Deep.DeepCutAuto
import Derived.Deep.CutBlock
import Derived.Deep.RegionHeld3
import Derived.Laws.Rows
import Derived.Lib.AppendStr
import Derived.ArgAppend
import Derived.Laws.IdiomCopy
import Derived.OrdersHeld
import Derived.Laws.BitsLemmas
import Derived.RowKit
import Derived.Test.YtamgmceogjgijaaDoorWWords
import Derived.Test.YtamgmceogjgijaaDoorWLast
import Derived.Test.YtamgmceogjgijaaDoorWTab
import Derived.Test.YtamgmceogjgijaaDoorWApart
import Derived.Test.YtamgmceogjgijaaDoorWArr
import Derived.Test.YtamgmceogjgijaaDoorWFoot
import Derived.Test.YtamgmceogjgijaaDoorWKept
import Derived.Test.YtamgmceogjgijaaDoorWShare
import Derived.Test.YtamgmceogjgijaaDoorWN
import Derived.Test.YtamgmceogjgijaaDoorWEqStruct
import Derived.Test.YtamgmceogjgijaaDoorWRepsOne
import Derived.Test.YtamgmceogjgijaaDoorWInv
import Derived.Test.YtamgmceogjgijaaDoorWGuard
import Derived.Test.YtamgmceogjgijaaDoorWMore
namespace Go.Proofs.YtamgmceogjgijaaDoor.A
open Go.RowKit Go.Proofs.YtamgmceogjgijaaDoorW.PrintWords Go.Proofs.YtamgmceogjgijaaDoorW.PrintLast Go.Proofs.YtamgmceogjgijaaDoorW.PrintMore
attribute [local go_sem] max2_int min2_int max_two min_two max_three min_three max_four min_four   -- for this text's walks alone
set_option linter.unusedVariables false
set_option linter.unusedSimpArgs false



def errW : Option Int → Value
  | none => .nilIface
  | some c => .iface 0 (.int .i64 c)
theorem errW_none : errW none = .nilIface := rfl
theorem errW_some (c : Int) : errW (some c) = .iface 0 (.int .i64 c) := rfl

-- the values' own types

end Go.Proofs.YtamgmceogjgijaaDoor.A
